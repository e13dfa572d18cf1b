import Derived.Test.YtjgeihmhppadaaaGreatDoorCG12J
set_option linter.all false
set_option synthInstance.maxHeartbeats 1000000
set_option synthInstance.maxSize 1000000
set_option maxHeartbeats 6400000
set_option maxRecDepth 100000
namespace Go.Proofs.YtjgeihmhppadaaaGreatDoor
open Go.Proofs.Tryz
open List (length_append length_cons length_nil mem_append mem_cons not_mem_nil append_assoc getElem_mem take_of_length_le)
section
def aP.zero_sane:aP.zero.sane:=by unfold aP.zero;rw [aP.sane];exact ⟨vw,V,by rw [iX];trivial⟩
def cD.zero_sane:cD.zero.sane:=⟨V,EC⟩
def aP.zero_nodes:aP.zero.nodes=1:=by unfold aP.zero;rw [aP.nodes,dD]
def cD.zero_wt:cD.zero.wt=1:=by unfold cD.wt cD.zero;rw [dD]
def o6(l:List ByteArray):Prop:=∀x,x∈l -> br x=true
def yX:jT .zero=true:=by simp [jT,aP.zero,aP.op,aP.num,aP.name,aP.args]
def C1:j6 .zero=true:=by simp [j6,cD.zero]
section
variable {ms:List cq}{fs:List gt}{ps:List bp}
theorem kM.ok{vars:List aG}{r:cD}(hm:∀m,m∈ms -> br m.name=true)(hp:∀x,x∈ps -> br x.name=true)(hv:o6 vars)(h:kM ms ps vars r):
  okRefB r=true /\ (r.sane /\ r.wt <= 7) /\ (ew r).length <= 70:=by
 have size:∀x:aG,br x=true -> x.data.toList.length <= 16:=λx h=>j5 h;cases h with
 |@arr m e h1 h2 he=>
  have hl:=he.len hv;have:=size _ (hm m h1);refine ⟨by show (br m.name && eV e)=true;rw [hm m h1,he.valid hv Y];rfl,⟨⟨gb (j5 (hm m h1)) V,by show iX [e];rw [iX,iX];exact ⟨he.sane hv,trivial⟩⟩,by have:=he.nodes;unfold cD.wt;show 1+dD [e] <= 7;rw [dD,dD];omega⟩,?_⟩
  ·simp only [ew,length_append,length_cons,length_nil];omega
 |@scalar m h1 h2=>
  have:=size _ (hm m h1);exact ⟨by show (br m.name && true)=true;rw [hm m h1];rfl,⟨⟨gb (j5 (hm m h1)) V,EC⟩,MU⟩,by simp only [ew];omega⟩
 |@param x h1 h2=>
  have:=size _ (hp x h1);exact ⟨by show (br x.name && true)=true;rw [hp x h1];rfl,⟨⟨gb (j5 (hp x h1)) V,EC⟩,MU⟩,by simp only [ew];omega⟩
theorem Ba{α:Type}(f:α -> List UInt8)(x:α)(l:List α):(ct f (x::l)).length <= (f x).length+2+(ct f l).length:=by
 cases l with
 |nil=>simp [ct]
 |cons y r=>simp [ct];omega
theorem kU.ok{vars:List aG}{l:List bp}{al:List cK}(hm:∀m,m∈ms -> br m.name=true)(hp:∀x,x∈ps -> br x.name=true)(hv:o6 vars)(h:kU ms ps vars l al):
  al.all eh=true /\ ((∀a,a∈al -> a.sane) /\ eI al <= 15*l.length) /\ al.length=l.length /\ (ct eK al).length <= 122*l.length:=by
 induction h with
 |nil=>exact ⟨rfl,⟨(λa h=>pk),by rw [eI];simp⟩,rfl,sf⟩
 |@mutex x l al r hx hr h ih=>
  obtain ⟨i1,i2,i3,i4⟩:=ih;obtain ⟨h1,h2,h3⟩:=hr.ok hm hp hv;refine ⟨by rw [uz,i1,eh,if_pos rfl,h1,yX];rfl,⟨?_,?_⟩,by simp [i3],?_⟩
  ·intro a ha;rcases mem_cons.1 ha with rfl|ha
   ·exact ⟨h2.1,aP.zero_sane⟩
   exact i2.1 a ha
  ·have:=i2.2;have:=h2.2;rw [eI];unfold cK.wt;rw [aP.zero_nodes,length_cons];show 1+r.wt+1+eI al <= _;omega
  ·have:=Ba eK ⟨true,r,.zero⟩ al;have h4:(eK ⟨true,r,.zero⟩).length=6+(ew r).length:=by simp [eK];omega
   rw [length_cons];omega
 |@expr x l al e hx he h ih=>
  obtain ⟨i1,i2,i3,i4⟩:=ih;have hl:=he.len hv;refine ⟨by rw [uz,i1,eh,if_neg aK,C1,he.valid hv Y];rfl,⟨?_,?_⟩,by simp [i3],?_⟩
  ·intro a ha;rcases mem_cons.1 ha with rfl|ha
   ·exact ⟨cD.zero_sane,he.sane hv⟩
   exact i2.1 a ha
  ·have:=i2.2;have:=he.nodes;rw [eI];unfold cK.wt;rw [cD.zero_wt,length_cons];show 1+1+e.nodes+eI al <= _;omega
  have:=Ba eK ⟨false,.zero,e⟩ al;have h4:(eK ⟨false,.zero,e⟩).length=(bX e).length:=by simp [eK]
  rw [length_cons];omega
theorem Ha:∀left,left<24 -> br (fE left)=true:=by
 intro left h;have:(List.range 24).all (λk=>br (fE k))=true:=aQ;exact d3.1 this left (mr.2 h)
end
def Gf(D:Nat)(hD:D<24):∀(a b:List aL),cn D (a++b)=(cn D a && cn D b)
 |[],b=>by rw [dw,cn,decide_eq_true hD,xH]
 |s::r,b=>by rw [eD,cn,cn,Gf D hD r b,Bool.and_assoc]
def LK:∀(a b:List aL),fA (a++b)↔fA a /\ fA b
 |[],b=>by rw [dw,fA];simp
 |s::r,b=>by rw [eD,fA,fA,LK r b,and_assoc]
def Kj:∀(a b:List aL),bQ (a++b)=bQ a+bQ b
 |[],b=>by rw [dw,bQ];omega
 |s::r,b=>by rw [eD,bQ,bQ,Kj r b];omega
def oD:fA []:=by rw [fA];trivial
structure mz (D:Nat) (tabs:List UInt8) (n:Nat) (s:aL):Prop where
 ok:fC D s=true
 sane:s.sane
 wt:s.wt <= 60*n
 len:(dQ tabs s).length <= 700*n
structure oK (D:Nat) (tabs:List UInt8) (n:Nat) (l:List aL):Prop where
 ok:cn D l=true
 sane:fA l
 wt:bQ l <= 60*n
 len:(bH tabs l).length <= 700*n
def oK.cons{D n m k:Nat}{tabs:List UInt8}{s:aL}{l:List aL}(h:mz D tabs n s)(hl:oK D tabs m l)(hk:n+m <= k):oK D tabs k (s::l):=
 ⟨by rw [cn,h.ok,hl.ok];rfl,by rw [fA];exact ⟨h.sane,hl.sane⟩,by rw [bQ];have:=h.wt;have:=hl.wt;omega,by rw [bH,length_append];have:=h.len;have:=hl.len;omega⟩
def oK.cons'{D n m k:Nat}{tabs:List UInt8}{s:aL}{l:List aL}(hl:oK D tabs m l)(h:mz D tabs n s)(hk:n+m <= k):oK D tabs k (s::l):=oK.cons h hl hk
def oK.nil{D n:Nat}{tabs:List UInt8}(hD:D<24):oK D tabs n []:=
 ⟨by rw [cn];exact decide_eq_true hD,by rw [fA];trivial,by rw [bQ];omega,by rw [bH];simp⟩
section
variable {ms:List cq}{fs:List gt}{ps:List bp}
theorem mz.of{D n:Nat}{tabs:List UInt8}{k:Int}{name:aG}{e:aP}{r:cD}{al:List cK}{t el:List aL}
  (h0:1 <= k /\ k <= 9) (h1:(if 1 <= k /\ k <= 4 then br name else decide (name=ax))=true) (h2:(if k=1∨k=2∨k=7∨k=8 then eV e else jT e)=true)
  (h3:(if k=5∨k=6 then okRefB r else j6 r)=true) (h4:(decide (k=3∨k=4)||decide (al.length=0))=true) (h5:al.all eh=true)
  (h6:(if k=7∨k=8 then cn (D+1) t else decide (t.length=0))=true) (h7:(decide (el.length=0)||(decide (k=7) && cn (D+1) el))=true)
  (hf:(aL.mk k name e r al t el).sane) (hc:(aL.mk k name e r al t el).wt <= 60*n) (hl:(dQ tabs (.mk k name e r al t el)).length <= 700*n):mz D tabs n (.mk k name e r al t el):=
 ⟨by rw [fC,decide_eq_true h0,h1,h2,h3,h4,h5,h6,h7];rfl,hf,hc,hl⟩
theorem Bh{x:aG}(h:br x=true):x.data.toList.length <= 16:=j5 h
theorem xy{D:Nat}{tabs:List UInt8}{vars:List aG}{k:Int}{r:cD}(hk:k=5∨k=6)(ht:tabs.length <= 4)(hm:∀m,m∈ms -> br m.name=true)(hp:∀x,x∈ps -> br x.name=true)(hv:o6 vars)(h:kM ms ps vars r):
  mz D tabs 1 (.mk k ax .zero r [] [] []) /\ (dQ tabs (.mk k ax .zero r [] [] [])).length <= 90:=by
 obtain ⟨h1,h2,h3⟩:=h.ok hm hp hv;have hl:(dQ tabs (.mk k ax .zero r [] [] [])).length <= 90:=by
  rw [dQ];rcases hk with rfl|rfl<;>simp<;>omega
 refine ⟨mz.of Y (by rw [if_neg Y];exact decide_eq_true rfl) (by rw [if_neg Y];exact yX) (by rw [if_pos hk];exact h1) aK J (by rw [if_neg Y];rfl) aK ?_ ?_ Y,hl⟩
 ·rw [aL.sane];exact ⟨V,aP.zero_sane,h2.1,ub,oD,oD⟩
 rw [f6];show 1+aP.zero.nodes+r.wt+eI []+bQ []+bQ [] <= _;rw [aP.zero_nodes,eI,bQ];have:=h2.2;omega
theorem eJ.ok{vars:List aG}{deep left left':Nat}{l:List aL}(hm:∀m,m∈ms -> br m.name=true)(hp:∀x,x∈ps -> br x.name=true)
  (hg:∀g,g∈fs -> br g.1=true /\ g.2.length <= 2) (h:eJ ms fs ps vars deep left l left'):
  o6 vars -> left <= 24 -> ∀(D:Nat)(tabs:List UInt8),D+deep<24 -> tabs.length+deep <= 4 -> oK D tabs (left-left') l:=by
 induction h with
 |nil=>intro _ _ D tabs hD _;exact .nil Y
 |lock hr h ih=>
  intro hv hl D tabs hD ht;have:=h.le;exact (ih hv Y D tabs hD ht).cons' (xy (.inl J) Y hm hp hv hr).1 Y
 |unlock hr h ih=>
  intro hv hl D tabs hD ht;have:=h.le;exact (ih hv Y D tabs hD ht).cons' (xy (.inr J) Y hm hp hv hr).1 Y
 |@var vars deep left left' e rest he h ih=>
  intro hv hl D tabs hD ht;have:=h.le;have hn:=Ha left Y;have hnl:=Bh hn;have hns:=j5 hn;have hel:=he.len hv;refine (ih (λx hx=>?_) Y D tabs hD ht).cons' (n:=1) (mz.of Y (by rw [if_pos V];exact hn) AK vE aK J EO aK ?_ ?_ ?_) Y
  ·rcases mem_append.1 hx with hx|hx
   ·exact hv x hx
   simp only [jw] at hx;subst hx;exact hn
  ·rw [aL.sane];exact ⟨gb hns V,he.sane hv,cD.zero_sane,ub,oD,oD⟩
  ·rw [f6];show 1+e.nodes+cD.zero.wt+eI []+bQ []+bQ [] <= _;rw [cD.zero_wt,eI,bQ];have:=he.nodes;omega
  ·rw [dQ];simp;omega
 |@assign vars deep left left' x e rest hx he h ih=>
  intro hv hl D tabs hD ht;have:=h.le;have hn:=hv x hx;have hnl:=Bh hn;have hns:=j5 hn;have hel:=he.len hv;refine (ih hv Y D tabs hD ht).cons' (n:=1) (mz.of Y (by rw [if_pos V];exact hn) AK vE aK J EO aK ?_ ?_ ?_) Y
  ·rw [aL.sane];exact ⟨gb hns V,he.sane hv,cD.zero_sane,ub,oD,oD⟩
  ·rw [f6];show 1+e.nodes+cD.zero.wt+eI []+bQ []+bQ [] <= _;rw [cD.zero_wt,eI,bQ];have:=he.nodes;omega
  ·rw [dQ];simp;omega
 |@call vars deep left left' k g al rest hk hgm ha h ih=>
  intro hv hl D tabs hD ht;have:=h.le;obtain ⟨hn,hg2⟩:=hg g hgm;have hnl:=Bh hn;have hns:=j5 hn;obtain ⟨a1,a2,a3,a4⟩:=ha.ok hm hp hv;refine (ih hv Y D tabs hD ht).cons' (n:=1) (mz.of Y (by rw [if_pos Y];exact hn) (by rw [if_neg Y];exact yX) (by rw [if_neg Y];exact C1) (by rw [decide_eq_true hk];rfl) a1 (by rw [if_neg Y];rfl) aK ?_ ?_ ?_) Y
  ·rw [aL.sane];exact ⟨gb hns V,aP.zero_sane,cD.zero_sane,a2.1,oD,oD⟩
  ·rw [f6];show 1+aP.zero.nodes+cD.zero.wt+eI al+bQ []+bQ [] <= _;rw [aP.zero_nodes,cD.zero_wt,bQ];have:=a2.2;omega
  ·have hat:(f8 al).length <= 250:=by simp only [f8,length_append,length_cons,length_nil];omega
   rw [dQ];rcases hk with rfl|rfl<;>simp<;>omega
 |@cond vars deep left l1 l2 left' e thn els rest he h1 h2 h3 i1 i2 i3=>
  intro hv hl D tabs hD ht;have:=h1.le;have:=h2.le;have:=h3.le;have hel:=he.len hv;have j1:=i1 hv Y (D+1) (tabs++[9]) Y di;have j2:=i2 hv Y (D+1) (tabs++[9]) Y di;refine (i3 hv Y D tabs hD ht).cons' (n:=1+(left-l1)+(l1-l2)) (mz.of Y E3 AK vE aK J (by rw [if_pos V];exact j1.ok) (by rw [j2.ok];simp) ?_ ?_ ?_) Y
  ·rw [aL.sane];exact ⟨V,he.sane hv,cD.zero_sane,ub,j1.sane,j2.sane⟩
  ·rw [f6];show 1+e.nodes+cD.zero.wt+eI []+bQ thn+bQ els <= _;rw [cD.zero_wt,eI];have:=he.nodes;have:=j1.wt;have:=j2.wt;omega
  ·have:=j1.len;have:=j2.len;rw [dQ,if_neg V,if_neg V,if_neg V,if_neg V,if_neg V,if_neg V,if_pos V,if_neg V];simp only [length_append,length_cons,length_nil];split<;>(try simp only [length_append,length_cons,length_nil])<;>omega
 |@loop vars deep left l1 left' e thn rest he h1 h3 i1 i3=>
  intro hv hl D tabs hD ht;have:=h1.le;have:=h3.le;have hel:=he.len hv;have j1:=i1 hv Y (D+1) (tabs++[9]) Y di;refine (i3 hv Y D tabs hD ht).cons' (n:=1+(left-l1)) (mz.of Y E3 AK vE aK J (by rw [if_pos V];exact j1.ok) aK ?_ ?_ ?_) Y
  ·rw [aL.sane];exact ⟨V,he.sane hv,cD.zero_sane,ub,j1.sane,oD⟩
  ·rw [f6];show 1+e.nodes+cD.zero.wt+eI []+bQ thn+bQ [] <= _;rw [cD.zero_wt,eI,bQ];have:=he.nodes;have:=j1.wt;omega
  ·have:=j1.len;rw [dQ];simp;omega
 |@ret vars deep left left' rest h ih=>
  intro hv hl D tabs hD ht;have:=h.le;refine (ih hv Y D tabs hD ht).cons' (n:=1) (mz.of Y E3 (by rw [if_neg V];exact yX) vE aK J EO aK ?_ ?_ ?_) Y
  ·rw [aL.sane];exact ⟨V,aP.zero_sane,cD.zero_sane,ub,oD,oD⟩
  ·rw [f6];show 1+aP.zero.nodes+cD.zero.wt+eI []+bQ []+bQ [] <= _;rw [aP.zero_nodes,cD.zero_wt,eI,bQ];omega
  ·rw [dQ];simp;omega
 |@pair vars deep left l1 left' r mid rest hr h1 h3 i1 i3=>
  intro hv hl D tabs hD ht;have:=h1.le;have:=h3.le;have j1:=i1 hv Y D tabs Y Y;have j3:=i3 hv Y D tabs hD ht;obtain ⟨s5,t5⟩:=xy (D:=D) (tabs:=tabs) (.inl rfl) Y hm hp hv hr;obtain ⟨s6,t6⟩:=xy (D:=D) (tabs:=tabs) (.inr rfl) Y hm hp hv hr;refine ⟨?_,?_,?_,?_⟩
  ·rw [cn,Gf D Y,cn,s5.ok,s6.ok,j1.ok,j3.ok];rfl
  ·rw [fA,LK,fA];exact ⟨s5.sane,j1.sane,s6.sane,j3.sane⟩
  ·have w5:∀k:Int,(aL.mk k ax .zero r [] [] []).wt <= 20:=λk=>by rw [f6];show 1+aP.zero.nodes+r.wt+eI []+bQ []+bQ [] <= _;rw [aP.zero_nodes,eI,bQ];have:=(hr.ok hm hp hv).2.1.2;omega
   rw [bQ,Kj,bQ];have:=j1.wt;have:=j3.wt;have:=w5 5;have:=w5 6;omega
  rw [bH,Mh,bH];have:=j1.len;have:=j3.len;simp only [length_append];omega
end
def TZ:∀i,i<4 -> br (bytes [UInt8.ofNat (97+i)])=true:=by
 intro i h;have:(List.range 4).all (λk=>br (bytes [UInt8.ofNat (97+k)]))=true:=aQ;exact d3.1 this i (mr.2 h)
def GN:∀i,i<4 -> br (bytes [103,UInt8.ofNat (48+i)])=true:=by
 intro i h;have:(List.range 4).all (λk=>br (bytes [103,UInt8.ofNat (48+k)]))=true:=aQ;exact d3.1 this i (mr.2 h)
def UJ:∀i,i<4 -> br (bytes [112,UInt8.ofNat (48+i)])=true:=by
 intro i h;have:(List.range 4).all (λk=>br (bytes [112,UInt8.ofNat (48+k)]))=true:=aQ;exact d3.1 this i (mr.2 h)
def Rr:∀i,i<4 -> br (bytes [102,UInt8.ofNat (48+i)])=true:=by
 intro i h;have:(List.range 4).all (λk=>br (bytes [102,UInt8.ofNat (48+k)]))=true:=aQ;exact d3.1 this i (mr.2 h)
def Vy:br (bytes [109,97,105,110])=true:=aQ
def sG.names{l:List bp}(h:sG l):∀x,x∈l -> br x.name=true:=by
 intro x hx;obtain ⟨k,hk,rfl⟩:=jQ hx;rw [h.2 k hk];have:=h.1;exact UJ _ Y
def Cb.name{i:Nat}{f:bE}(h:Cb i f)(hi:i<4):br f.name=true:=by
 rcases ud i with h0|h0
 ·rw [(h.1 h0).1];exact Vy
 rw [h.2.1 h0];exact Rr i hi
def mq.all{ms:List cq}{fs:List gt}{gs:List bw}(hm:∀m,m∈ms -> br m.name=true)(hg:∀g,g∈fs -> br g.1=true /\ g.2.length <= 2)(hgl:∀g,g∈gs -> br g.name=true)
  {left:Nat} {l:List bE} (h:mq ms fs gs left l):left <= 24 -> (∀f,f∈l -> ∀x,x∈f.params -> br x.name=true) -> ∀f,f∈l -> oK 0 [9] 24 f.body:=by
 induction h with
 |nil=>intro _ _ f hf;simp at hf
 |@cons left left' f l hb hl ih=>
  intro hle hps g hgm;have h1:=hb.le;have hv:o6 (qm gs f.params):=by
   intro x hx;simp only [qm,mem_append,gH,Dg] at hx;rcases hx with ⟨g,hg,rfl⟩|⟨y,⟨hy,_⟩,rfl⟩
   ·exact hgl g hg
   exact hps f aK y hy
  rcases mem_cons.1 hgm with rfl|hgm
  ·have:=hb.ok hm (hps g aK) hg hv hle 0 [9] Y aK;exact ⟨this.ok,this.sane,by have:=this.wt;omega,by have:=this.len;omega⟩
  exact ih Y (λf hf=>hps f (by simp [hf])) g hgm
def zT{α:Type}(f:α -> List UInt8)(c:Nat):∀l:List α,(∀x,x∈l -> (f x).length <= c) -> ((l.map f).flatten).length <= c*l.length
 |[],_=>aK
 |x::r,h=>by
  have h1:=zT f c r wU;have h2:=h x aK;simp only [cd,iL,length_append,length_cons,wc,nz];omega
def NB{x:bp}(h:br x.name=true):(eF x).length <= 22:=by
 have:=j5 h;rw [eF];split<;>simp<;>omega
def HU{α:Type}(f:α -> List UInt8)(c:Nat):∀l:List α,(∀x,x∈l -> (f x).length <= c) -> (ct f l).length <= (c+2)*l.length
 |[],_=>sf
 |x::r,h=>by
  have h1:=HU f c r wU;have h2:=h x aK;have h3:=Ba f x r;simp only [length_cons,wc,nz];omega
structure Rb (p:aZ):Prop where
 form:iR p=true
 sane:p.sane
 wt:p.wt <= 9000
 len:(gG p).length <= 75000
def pL.facts{p:aZ}(h:pL p):Rb p:=by
 obtain ⟨gs,ms,fs⟩:=p;obtain ⟨⟨hm1,hm2,hm⟩,⟨hg1,hg⟩,⟨hf1,hf2,hf⟩,hb⟩:=h;dsimp only at hm1 hm2 hm hg1 hg hf1 hf2 hf hb;have nm:∀m,m∈ms -> br m.name=true:=by
  intro m hmm;obtain ⟨k,hk,rfl⟩:=jQ hmm;rw [(hm k hk).1];exact TZ k Y
 have ng:∀g,g∈gs -> br g.name=true:=by
  intro g hgm;obtain ⟨k,hk,rfl⟩:=jQ hgm;rw [(hg k hk).1];exact GN k Y
 have nf:∀f,f∈fs -> br f.name=true /\ sG f.params:=by
  intro f hfm;obtain ⟨k,hk,rfl⟩:=jQ hfm;exact ⟨(hf k hk).name Y,(hf k hk).2.2⟩
 have bodies:=hb.all nm (by
  intro g hgm;obtain ⟨f,hfm,rfl⟩:=gH.1 hgm;exact ⟨(nf f hfm).1,(nf f hfm).2.1⟩) ng (bW _) (λf hfm=>(nf f hfm).2.names)
 have lg:∀g,g∈gs -> (cJ g).length <= 60 /\ g.init≠-9223372036854775808 /\ fit g.init:=by
  intro g hgm;have h1:=j5 (ng g hgm);obtain ⟨k,hk,rfl⟩:=jQ hgm;obtain ⟨_,h2,h3⟩:=hg k hk;have h4:=Bu (n:=gs[k].init) Y Y;refine ⟨?_,Y,by constructor<;>omega⟩;rw [cJ];split<;>simp<;>omega
 have lm:∀m,m∈ms -> (cX m).length <= 60 /\ g_ m=true /\ fit m.size:=by
  intro m hmm;have h1:=j5 (nm m hmm);have h0:=nm m hmm;obtain ⟨k,hk,rfl⟩:=jQ hmm;have h2:0 <= ms[k].size /\ ms[k].size <= 3 /\ (ms[k].reentrant=true -> ms[k].size=0):=by
   rcases (hm k hk).2 with ⟨a,b,c⟩|⟨a,b⟩
   ·exact ⟨b,c,λh=>by rw [a] at h;cases h⟩
   exact ⟨Y,Y,λ_=>b⟩
  have h4:=Bu (n:=ms[k].size) Y Y;refine ⟨?_,?_,by constructor<;>omega⟩
  ·rw [cX];split<;>split<;>simp<;>omega
  rw [g_,h0,decide_eq_true Y];cases hr:ms[k].reentrant with
  |false=>rfl
  |true=>rw [decide_eq_false (by have:=h2.2.2 hr;omega)];rfl
 have lf:∀f,f∈fs -> (funcText f).length <= 17000 /\ gB f=true:=by
  intro f hfm;obtain ⟨h0,h1⟩:=nf f hfm;have h2:=j5 h0;have h3:=bodies f hfm;have h4:=h3.len;have h5:=HU eF 22 f.params (λx hx=>NB (h1.names x hx));have h6:=h1.1;refine ⟨?_,?_⟩
  ·rw [funcText];simp only [length_append,length_cons,length_nil];have:f.name.data.toList.length=f.name.size:=rfl;omega
  rw [gB,h0,decide_eq_true Y,h3.ok,d3.2 (λx hx=>h1.names x hx)];rfl
 have len:(gG ⟨gs,ms,fs⟩).length <= 75000:=by
  have h1:=zT cJ 60 gs (λg h=>(lg g h).1);have h2:=zT cX 60 ms (λg h=>(lm g h).1);have h3:=zT funcText 17000 fs (λg h=>(lf g h).1);rw [gG];simp only [length_append];omega
 refine ⟨?_,⟨λg h=>⟨(lg g h).2.2,gb (j5 (ng g h)) V⟩,λm h=>⟨(lm m h).2.2,gb (j5 (nm m h)) V⟩,λf h=>⟨gb (j5 (nf f h).1) V,λx hx=>gb (j5 ((nf f h).2.names x hx)) V,(bodies f h).sane⟩⟩,?_,len⟩
 ·unfold iR;rw [decide_eq_true qk,d3.2 (λg h=>by rw [j7,ng g h,decide_eq_true (lg g h).2.1];rfl),d3.2 (λm h=>(lm m h).2.1),d3.2 (λf h=>(lf f h).2)];rfl
 unfold aZ.wt;have h1:(fs.map bE.wt).sum <= 2000*fs.length:=by
  have:∀l:List bE,(∀f,f∈l -> f.wt <= 2000) -> (l.map bE.wt).sum <= 2000*l.length:=by
   intro l;induction l with
   |nil=>intro _;simp
   |cons f l ih=>intro hx;have:=ih (λg hg=>hx g (by simp [hg]));have:=hx f aK;simp only [cd,rf,length_cons];omega
  exact this fs (λf hfm=>by unfold bE.wt;have:=(bodies f hfm).wt;have:=(nf f hfm).2.1;omega)
 show gs.length+ms.length+(fs.map bE.wt).sum <= _;omega
end
section
def eT.ve{names:List aG}{d:Nat}{e:aP}(hn:∀x,x∈names -> br x=true)(h:eT names d e):je e:=by
 induction h with
 |@name d x h=>exact .name x (hn x h)
 |@num d n h0 h1=>
  obtain ⟨k,rfl⟩:∃k:Nat,n=k:=⟨n.toNat,Y⟩;exact .num k Y
 |@un d op e ho he ih=>exact .un op e ho ih
 |@bin d op a b h0 h1 ha hb iha ihb=>exact .bin op a b ⟨h0,h1⟩ iha ihb
end
section
def Up:∀(e:aP),je e -> (dy e).length <= 3*e.nodes-2:=by
 intro e h;induction h with
 |num n h=>rw [DD,aP.nodes,dD];simp
 |name s h=>rw [DU,aP.nodes,dD];simp
 |un op x h hx ih=>
  have h1:∀b t,(mZ b t).length <= t.length+2:=λb t=>by unfold mZ;split<;>simp
  rw [Cd h,aP.nodes,dD,dD,length_cons];have:=h1 (gX op 0 x.op) (dy x);omega
 |bin op x y h hx hy ihx ihy=>
  have h1:∀b t,(mZ b t).length <= t.length+2:=λb t=>by unfold mZ;split<;>simp
  rw [Bb h,aP.nodes,dD,dD,dD,length_append,length_cons];have:=h1 (gX op 0 x.op) (dy x);have:=h1 (gX op 1 y.op) (dy y);omega
def eT.toks{names:List aG}{d:Nat}{e:aP}(hn:∀x,x∈names -> br x=true)(h:eT names d e)(hd:d <= 2):(dy e).length <= 37:=by
 have h1:=Up e (h.ve hn);have h2:=(h.mono hd).nodes;omega
section
variable {ms:List cq}{fs:List gt}{ps:List bp}
theorem kM.toks{vars:List aG}{r:cD}(hv:o6 vars)(h:kM ms ps vars r):(pI r).length <= 40:=by
 cases h with
 |arr hm hs he=>have:=he.toks hv Y;simp only [pI,length_cons,length_append,length_nil];omega
 |scalar hm hs=>simp [pI]
 |param hx hm=>simp [pI]
theorem Bz{α:Type}(f:α -> List dK)(c:Nat):∀l:List α,(∀x,x∈l -> (f x).length <= c) -> (oZ f l).length <= (c+1)*l.length
 |[],_=>by simp [oZ]
 |[x],h=>by have:=h x aK;simp [oZ];omega
 |x::y::r,h=>by
  have h1:=Bz f c (y::r) (λz hz=>h z (by simp [hz]));have h2:=h x aK;rw [H8,length_append,length_cons];simp only [length_cons,wc,nz] at h1⊢;omega
theorem kU.toks{vars:List aG}{l:List bp}{al:List cK}(hv:o6 vars)(h:kU ms ps vars l al):al.length=l.length /\ ∀x,x∈al -> (rB x).length <= 41:=by
 induction h with
 |nil=>exact ⟨rfl,λx hx=>vu⟩
 |mutex hx hr h ih=>
  refine ⟨by simp [ih.1],λx hx=>?_⟩;rcases mem_cons.1 hx with rfl|hx
  ·have:=hr.toks hv;simp only [rB,if_true,length_cons];omega
  ·exact ih.2 x hx
 |expr hx he h ih=>
  refine ⟨by simp [ih.1],λx hx=>?_⟩;rcases mem_cons.1 hx with rfl|hx
  ·have:=he.toks hv Y;simp only [rB,lK,if_false];omega
  exact ih.2 x hx
theorem N'(a b:List aL):fF (a++b)=fF a++fF b:=by
 induction a with
 |nil=>rw [dw,fF,dw]
 |cons s r ih=>rw [eD,fF,fF,ih,append_assoc]
theorem eJ.toks{vars:List aG}{deep left left':Nat}{l:List aL}(hg:∀g,g∈fs -> br g.1=true /\ g.2.length <= 2)(h:eJ ms fs ps vars deep left l left'):
  o6 vars -> left <= 24 -> (fF l).length <= 100*(left-left'):=by
 induction h with
 |nil=>intro _ _;rw [fF];simp
 |lock hr h ih=>
  intro hv hl;have:=h.le;have:=ih hv Y;have:=hr.toks hv;rw [fF,i_];simp;omega
 |unlock hr h ih=>
  intro hv hl;have:=h.le;have:=ih hv Y;have:=hr.toks hv;rw [fF,i_];simp;omega
 |@var vars deep left left' e rest he h ih=>
  intro hv hl;have:=h.le;have:=ih (λx hx=>by
   rcases mem_append.1 hx with hx|hx
   ·exact hv x hx
   simp only [jw] at hx;subst hx;exact Ha left Y) Y
  have:=he.toks hv Y;rw [fF,i_];simp;omega
 |assign hx he h ih=>
  intro hv hl;have:=h.le;have:=ih hv Y;have:=he.toks hv Y;rw [fF,i_];simp;omega
 |@call vars deep left left' k g al rest hk hgm ha h ih=>
  intro hv hl;have:=h.le;have:=ih hv Y;obtain ⟨h1,h2⟩:=ha.toks hv;have h3:=Bz rB 41 al h2;have h4:=(hg g hgm).2;rw [fF,i_];rcases hk with rfl|rfl<;>simp [v7]<;>omega
 |cond he h1 h2 h3 i1 i2 i3=>
  intro hv hl;have:=h1.le;have:=h2.le;have:=h3.le;have:=i1 hv Y;have:=i2 hv Y;have:=i3 hv Y;have:=he.toks hv Y;rw [fF,i_];simp only [length_append];rw [if_neg V,if_neg V,if_neg V,if_neg V,if_neg V,if_neg V,if_pos V];simp only [length_append,length_cons,length_nil];split<;>(try simp only [length_append,length_cons,length_nil])<;>omega
 |loop he h1 h3 i1 i3=>
  intro hv hl;have:=h1.le;have:=h3.le;have:=i1 hv Y;have:=i3 hv Y;have:=he.toks hv Y;rw [fF,i_];simp;omega
 |ret h ih=>
  intro hv hl;have:=h.le;have:=ih hv Y;rw [fF,i_];simp;omega
 |pair hr h1 h3 i1 i3=>
  intro hv hl;have:=h1.le;have:=h3.le;have:=i1 hv Y;have:=i3 hv Y;have:=hr.toks hv;rw [fF,N',fF,i_,i_];simp;omega
theorem mq.toks{gs:List bw}{left:Nat}{l:List bE}(hg:∀g,g∈fs -> br g.1=true /\ g.2.length <= 2)(hgl:∀g,g∈gs -> br g.name=true)(h:mq ms fs gs left l):left <= 24 -> (∀f,f∈l -> ∀x,x∈f.params -> br x.name=true) ->
  (l.map λf=>(fF f.body).length).sum <= 100*left:=by
 induction h with
 |nil=>intro _ _;simp
 |@cons left left' f l hb hl ih=>
  intro hle hps;have h1:=hb.le;have hv:o6 (qm gs f.params):=by
   intro x hx;simp only [qm,mem_append,gH,Dg] at hx;rcases hx with ⟨g,hg,rfl⟩|⟨y,⟨hy,_⟩,rfl⟩
   ·exact hgl g hg
   exact hps f aK y hy
  have h2:=hb.toks hg hv hle;have h3:=ih Y (λf hf=>hps f (by simp [hf]));simp only [cd,rf];omega
end
def EA{α:Type}(f:α -> List dK)(c:Nat):∀l:List α,(∀x,x∈l -> (f x).length <= c) -> ((l.map f).flatten).length <= c*l.length
 |[],_=>aK
 |x::r,h=>by
  have h1:=EA f c r wU;have h2:=h x aK;simp only [cd,iL,length_append,length_cons,wc,nz];omega
def Gx:∀l:List bE,(∀f,f∈l -> f.params.length <= 2) -> ((l.map ug).flatten).length <= 20*l.length+(l.map λf=>(fF f.body).length).sum
 |[],_=>aK
 |f::r,h=>by
  have h1:=Gx r wU;have h2:=h f aK;have h3:=Bz tx 2 f.params (λx _=>by unfold tx;split<;>simp);simp only [cd,iL,length_append,length_cons,rf,wc,nz,ug,length_nil];omega
def Pn{p:aZ}(h:pL p):(∀g,g∈p.globals -> br g.name=true) /\ (∀g,g∈p.funcs.map bE.sig -> br g.1=true /\ g.2.length <= 2) /\ ∀f,f∈p.funcs -> ∀x,x∈f.params -> br x.name=true:=by
 obtain ⟨gs,ms,fs⟩:=p;obtain ⟨⟨hm1,hm2,hm⟩,⟨hg1,hg⟩,⟨hf1,hf2,hf⟩,hb⟩:=h;have nf:∀f,f∈fs -> br f.name=true /\ sG f.params:=by
  intro f hfm;obtain ⟨k,hk,rfl⟩:=jQ hfm;exact ⟨(hf k hk).name (by dsimp only at hf2 hk;omega),(hf k hk).2.2⟩
 refine ⟨λg hgm=>?_,λg hgm=>?_,λf hfm=>(nf f hfm).2.names⟩
 ·obtain ⟨k,hk,rfl⟩:=jQ hgm;rw [(hg k hk).1];exact GN k (by dsimp only at hg1 hk;omega)
 obtain ⟨f,hfm,rfl⟩:=gH.1 hgm;exact ⟨(nf f hfm).1,(nf f hfm).2.1⟩
def Po{p:aZ}(h:pL p):((qj p).map ie.toks).flatten.length <= 4000:=by
 obtain ⟨h1,h2,h3⟩:=Pn h;have h4:=h.bodies.toks h2 h1 (bW _) h3;have h5:=EA tw 7 p.globals (λg _=>by unfold tw;split<;>(try split)<;>simp);have h6:=EA uL 6 p.mutexes (λg _=>by unfold uL;split<;>split<;>simp);have h7:=Gx p.funcs (λf hf=>(h2 f.sig (gH.2 ⟨f,hf,J⟩)).2);have a1:=h.globals.1;have a2:=h.mutexes.2.1;have a3:=h.funcs.2.1;simp only [qj,ed,lE,wQ,length_append];have aa:ie.toks ∘ ie.glob=tw:=J;have e2:ie.toks ∘ ie.mtx=uL:=J;have e3:ie.toks ∘ ie.fn=ug:=J;rw [aa,e2,e3];omega
def P4{p:aZ}(hs:p.sane)(h:iR p=true):(∀d,d∈qj p -> d.ok) /\ p.globals.length <= 16 /\ p.mutexes.length <= 12 /\ p.funcs.length <= 16:=by
 unfold iR at h;simp only [cz,decide_eq_true_eq] at h;obtain ⟨⟨⟨h1,hg⟩,hm⟩,hf⟩:=h;refine ⟨λd hd=>?_,h1.1,h1.2.1,h1.2.2⟩;simp only [qj,mem_append,gH] at hd;rcases hd with ⟨g,hgm,rfl⟩|⟨m,hmm,rfl⟩|⟨f,hfm,rfl⟩
 ·have h2:=d3.1 hg g hgm;have h3:=(hs.globals g hgm).1;unfold j7 at h2;simp only [cz,decide_eq_true_eq] at h2;unfold fit at h3;exact ⟨h2.1,by have:=h2.2;omega⟩
 ·have h2:=d3.1 hm m hmm;unfold g_ at h2;simp only [cz,decide_eq_true_eq,tr,FA,decide_eq_false_iff_not] at h2;refine ⟨h2.1.1,h2.1.2.1,h2.1.2.2,λhr=>?_⟩;rcases h2.2 with h3|h3
  ·rw [hr] at h3;cases h3
  have:=h2.1.2.1;omega
 have h2:=d3.1 hf f hfm;unfold gB at h2;simp only [cz,decide_eq_true_eq] at h2;exact ⟨h2.1.1.1,h2.1.1.2,d3.1 h2.2,wJ f.body 23 0 J (hs.funcs f hfm).2.2 h2.1.2⟩
def U5{p:aZ}(hs:p.sane)(h:iR p=true)(hl:(gG p).length <= 262144)(ht:((qj p).map ie.toks).flatten.length <= 4000):gE p=true:=by
 have h6:=JG (qj p) (P4 hs h).1 cV.end;rw [eC,eC,←OD] at h6;obtain ⟨L,h7,-⟩:=R4 h6 hl ht;rw [r8,h,h7];rfl
def SP{p:aZ}(h:pL p):gE p=true:=U5 h.facts.sane h.facts.form (by have:=h.facts.len;omega) (Po h)
end
section
def TY:∀i,i<25 -> ∀j,j<25 -> fE i=fE j -> i=j:=V
def Nu(i j:Nat)(hi:i<25)(hj:j<25)(h:fE i=fE j):i=j:=TY i hi j hj h
def KD(i:Nat):ByteArray:=bytes [103,UInt8.ofNat (48+i)]
def GP(i:Nat):ByteArray:=bytes [UInt8.ofNat (97+i)]
def tt(i:Nat):ByteArray:=if i=0 then bytes [109,97,105,110] else bytes [102,UInt8.ofNat (48+i)]
def uj(i:Nat):ByteArray:=bytes [112,UInt8.ofNat (48+i)]
def tK:List ByteArray:=(List.range 2).map KD++((List.range 4).map GP++(List.range 4).map tt)
def SQ:tK.Nodup:=V
def Vv:∀i,i<3 -> tK.all (λs=>decide (s≠uj i))=true:=V
def QG:∀i,i<25 -> tK.all (λs=>decide (s≠fE i))=true:=V
def Vr(i:Nat)(h:i<3):uj i∉tK:=λhm=>of_decide_eq_true (d3.1 (Vv i h) _ hm) rfl
def Pq(i:Nat)(h:i<25):fE i∉tK:=λhm=>of_decide_eq_true (d3.1 (QG i h) _ hm) rfl
def Qu:∀k,k<3 -> ∀i,i<25 -> fE i≠uj k:=V
def Rf:∀k,k<3 -> ∀i,i<3 -> uj i=uj k -> i=k:=V
def Sg:((List.range 4).map tt).Nodup:=V
section
open Classical
structure ml (ms:List cq) (sg:List gt) (ps:List bp) (fs:dC) (vars:List ByteArray) (left:Nat) (v:bd):Prop where
 kn:co v
 vars:∀x,x∈vars -> bO v x=1
 ms:∀m,m∈ms -> bO v m.name=mY m
 ps:∀x,x∈ps -> x.mutex=true -> bO v x.name=4
 sg:∀g,g∈sg -> bO v g.1=5 /\ ∃f,dG fs g.1=some f /\ f.params=g.2
 free:∀j,j<left -> bO v (fE j)=0
section
variable {ms:List cq}{sg:List gt}{ps:List bp}{fs:dC}{vars:List ByteArray}{left:Nat}{v:bd}
theorem ml.of{v':bd}{left':Nat}(h:ml ms sg ps fs vars left v)(hk:co v')(hl:left' <= left)(ow:List aG)(hv:∀s,bO v' s=if s∈ow then 1 else bO v s)(ho:∀s,s∈ow -> ∃j,left' <= j /\ j<left /\ s=fE j)(h25:left <= 25):ml ms sg ps fs vars left' v':=by
 have no:∀s,bO v s≠0 -> bO v' s=bO v s:=λs hs=>by
  rw [hv];split
  ·rename_i hm;obtain ⟨j,-,h2,rfl⟩:=ho s hm;exact absurd (h.free j h2) hs
  rfl
 refine ⟨hk,λx hx=>?_,λm hm=>?_,λx hx hm=>?_,λg hg=>?_,λj hj=>?_⟩
 ·rw [no x (by rw [h.vars x hx];decide)];exact h.vars x hx
 ·rw [no _ (by rw [h.ms m hm];unfold mY;split<;>decide)];exact h.ms m hm
 ·rw [no _ (by rw [h.ps x hx hm];decide)];exact h.ps x hx hm
 ·rw [no _ (by rw [(h.sg g hg).1];decide)];exact h.sg g hg
 rw [hv];split
 ·rename_i hm;obtain ⟨i,h1,h2,h3⟩:=ho _ hm;have:=Nu j i Y Y h3;omega
 exact h.free j Y
theorem eT.res{d:Nat}{e:aP}(h:eT vars d e)(hv:∀x,x∈vars -> bO v x=1):gA v e=0:=by
 induction h with
 |name hx=>rw [gA,if_pos rfl];unfold lr;rw [hv _ hx];rfl
 |num h0 h1=>rw [gA,if_neg V,iI]
 |un ho he ih=>rw [gA,if_neg Y,iI,if_pos ih,iI]
 |bin h0 h1 ha hb iha ihb=>rw [gA,if_neg Y,iI,if_pos iha,iI,if_pos ihb,iI]
theorem kM.res{r:cD}(h:kM ms ps vars r)(hv:ml ms sg ps fs vars left v):lO v r=0:=by
 cases h with
 |@arr m e hm hs he=>
  have h1:=hv.ms m hm;unfold mY at h1;rw [if_pos hs] at h1;unfold lO pX;rw [h1];exact he.res hv.vars
 |@scalar m hm hs=>
  have h1:=hv.ms m hm;unfold mY at h1;rw [if_neg Y] at h1;unfold lO pX;rw [h1];rfl
 |@param x hx hm=>
  have h1:=hv.ps x hx hm;unfold lO pX;rw [h1];rfl
theorem kU.res{l:List bp}{al:List cK}(h:kU ms ps vars l al)(hv:ml ms sg ps fs vars left v):gW v al l=0 /\ al.length=l.length:=by
 induction h with
 |nil=>exact ⟨rfl,rfl⟩
 |mutex hx hr h ih=>
  refine ⟨?_,by simp [ih.2]⟩;rw [gW,if_pos];·exact ih.1
  unfold kp;rw [hx];exact hr.res hv
 |expr hx he h ih=>
  refine ⟨?_,by simp [ih.2]⟩;rw [gW,if_pos];·exact ih.1
  unfold kp;rw [hx];exact he.res hv.vars
theorem J'(fs:dC):∀(a b:List aL)(own own1:List aG)(x x1:dt),dP fs a own x=(0,own1,x1) -> dP fs (a++b) own x=dP fs b own1 x1
 |[],b,own,own1,x,x1,h=>by rw [dP] at h;cases h;rfl
 |s::a,b,own,own1,x,x1,h=>by
  rw [dP] at h;rw [eD,dP];split at h
  ·rename_i h0;rw [if_pos h0];exact J' fs a b _ _ _ _ h
  rename_i h0;exact absurd (congrArg Prod.fst h) h0
theorem IF:∀(ow:List aG)(v:bd),co v -> co (ow.foldl d_ v) /\ ∀s,bO (ow.foldl d_ v) s=if s∈ow then 0 else bO v s
 |[],v,h=>⟨h,λs=>aK⟩
 |k::ow,v,h=>by
  obtain ⟨h1,h2⟩:=IF ow (d_ v k) (h.del k);refine ⟨h1,λs=>?_⟩;rw [o',h2,rX h];by_cases hs:s∈ow
  ·rw [if_pos hs,if_pos (dT _ hs)]
  rw [if_neg hs];by_cases hk:k=s
  ·rw [if_pos hk,if_pos D3]
  rw [if_neg hk,if_neg (λhm=>(mem_cons.1 hm).elim (λe=>hk e.symm) hs)]
def oF(fs:dC)(l:List aL)(left left':Nat)(v:bd):Prop:=∀(own:List ByteArray)(n:Nat)(a:Int),∃(ow:List ByteArray) (n':Nat) (a':Int) (v':bd),dP fs l own ⟨v,n,a⟩=(0,own++ow,⟨v',n',a'⟩) /\ co v' /\ (∀s,bO v' s=if s∈ow then 1 else bO v s) /\ ∀s,s∈ow -> ∃j,left' <= j /\ j<left /\ s=fE j
theorem oF.fin{l:List aL}{left':Nat}(h:oF fs l left left' v)(hf:∀j,j<left -> bO v (fE j)=0)(n:Nat)(a:Int):∃(n':Nat) (a':Int) (v':bd),gR (dP fs l [] ⟨v,n,a⟩)=(0,⟨v',n',a'⟩) /\ co v' /\ ∀s,bO v' s=bO v s:=by
 obtain ⟨ow,n',a',v',h1,h2,h3,h4⟩:=h [] n a;obtain ⟨g1,g2⟩:=IF ow v' h2;refine ⟨n',a',_,uM,g1,λs=>?_⟩;show bO (ow.foldl d_ v') s=_;rw [g2,h3];split
 ·rename_i hm;obtain ⟨j,-,h5,rfl⟩:=h4 s hm;exact (hf j h5).symm
 rfl
theorem ml.same{v':bd}{left':Nat}(h:ml ms sg ps fs vars left v)(hk:co v')(hl:left' <= left)(hv:∀s,bO v' s=bO v s):ml ms sg ps fs vars left' v':=
 ⟨hk,λx hx=>by rw [hv];exact h.vars x hx,λm hm=>by rw [hv];exact h.ms m hm,λx hx hm=>by rw [hv];exact h.ps x hx hm,λg hg=>by rw [hv];exact h.sg g hg,λj hj=>by rw [hv];exact h.free j Y⟩
theorem oF.next{s:aL}{l:List aL}{l0 l1 left':Nat}{v1:bd}(hk:s.kind≠1)(hl:l1 <= l0)(hs:∀(n:Nat)(a:Int),∃(n':Nat) (a':Int),fP fs s ⟨v,n,a⟩=(0,⟨v1,n',a'⟩))(hv:∀q,bO v1 q=bO v q)(h:oF fs l l1 left' v1):oF fs (s::l) l0 left' v:=by
 intro own n a;obtain ⟨n1,a1,aa⟩:=hs n a;obtain ⟨ow,n',a',v',h1,h2,h3,h4⟩:=h own n1 a1;refine ⟨ow,n',a',v',?_,h2,λq=>by rw [h3,hv],λq hq=>?_⟩
 ·rw [dP,aa,if_pos rfl,show m7 s own=own from if_neg hk];exact h1
 obtain ⟨j,g1,g2,g3⟩:=h4 q hq;exact ⟨j,g1,Y,g3⟩
theorem rE{s:aL}(hk:s.kind≠1)(ht:s.thn=[])(he:s.els=[])(hp:jW v fs s=0)(n:Nat)(a:Int):∃(n':Nat) (a':Int),fP fs s ⟨v,n,a⟩=(0,⟨v,n',a'⟩):=by
 refine ⟨n+1,n,?_⟩;rw [rb,if_pos hp,ht,he];unfold hG;dsimp only;rw [if_neg hk];rfl
theorem LE{k:Int}{e:aP}{t f rest:List aL}{l0 l1 l2 l3 left':Nat}(hk:k=7∨k=8)(hl:l1 <= l0)(hl3:l3 <= l1)(he:gA v e=0)(hfr:∀j,j<l1 -> bO v (fE j)=0)(ht:oF fs t l1 l2 v)
  (hf:∀v1,co v1 -> (∀s,bO v1 s=bO v s) -> (∀j,j<l2 -> bO v1 (fE j)=0) /\ oF fs f l2 l3 v1) (hr:∀v2,co v2 -> (∀s,bO v2 s=bO v s) -> oF fs rest l3 left' v2):oF fs (.mk k ax e .zero [] t f::rest) l0 left' v:=by
 intro own n a;obtain ⟨n1,a1,v1,f1,k1,q1⟩:=ht.fin hfr (n+1) n;obtain ⟨hfr2,hf2⟩:=hf v1 k1 q1;obtain ⟨n2,a2,v2,f2,k2,q2⟩:=hf2.fin hfr2 n1 a1;have hst:fP fs (.mk k ax e .zero [] t f) ⟨v,n,a⟩=(0,⟨v2,n2,a2⟩):=by
  have hp:jW v fs (.mk k ax e .zero [] t f)=0:=by
   show (if k=1 then _ else if k=2 then _ else if k=5∨k=6 then _ else if k=3∨k=4 then _ else if k=7∨k=8 then gA v e else 0)=0;rw [if_neg Y,if_neg Y,if_neg Y,if_neg Y,if_pos hk];exact he
  rw [rb,if_pos hp];have hb:hG (.mk k ax e .zero [] t f) ⟨v,n,a⟩=⟨v,n+1,n⟩:=by
   show dt.mk (if k=1 then _ else v) (n+1) n=_;rw [if_neg Y]
  rw [hb];show (if (gR (dP fs t [] ⟨v,n+1,n⟩)).1=0 then gR (dP fs f [] (gR (dP fs t [] ⟨v,n+1,n⟩)).2) else _)=_;rw [f1,if_pos rfl,f2]
 obtain ⟨ow,n3,a3,v3,h1,h2,h3,h4⟩:=hr v2 k2 (λs=>(q2 s).trans (q1 s)) own n2 a2;refine ⟨ow,n3,a3,v3,?_,h2,λs=>by rw [h3,q2,q1],λs hs=>?_⟩
 ·rw [dP,hst,if_pos rfl,show m7 (.mk k ax e .zero [] t f) own=own from if_neg (by show ¬k=1;omega)];exact h1
 obtain ⟨j,g1,g2,g3⟩:=h4 s hs;exact ⟨j,g1,Y,g3⟩
theorem eJ.res{deep left':Nat}{l:List aL}(h:eJ ms sg ps vars deep left l left'):∀v:bd,ml ms sg ps fs vars left v -> left <= 25 -> oF fs l left left' v:=by
 induction h with
 |nil=>intro v hv _ own n a;exact ⟨[],n,a,v,by simp [dP],hv.kn,λs=>aK,λs hs=>by cases hs⟩
 |@lock vars deep left left' r rest hr h ih=>
  intro v hv hl;exact .next (l1:=left) (of_decide_eq_true J) Y (rE (of_decide_eq_true J) J J (hr.res hv)) (λ_=>J) (ih v (hv.same hv.kn Y λ_=>J) Y)
 |@unlock vars deep left left' r rest hr h ih=>
  intro v hv hl;exact .next (l1:=left) (of_decide_eq_true J) Y (rE (of_decide_eq_true J) J J (hr.res hv)) (λ_=>J) (ih v (hv.same hv.kn Y λ_=>J) Y)
 |@var vars deep left left' e rest he h ih=>
  intro v hv hl own n a;have h0:=hv.free left Y;have hle:=h.le;have hv1:ml ms sg ps fs (vars++[fE left]) left (cc v (fE left) 1):=by
   have h9:=hv.of (left':=left) (hv.kn.put (fE left) 1) Y [fE left] (λs=>by rw [kx];simp [eq_comm]) (λs hs=>⟨left,bW _,Y,by simpa using hs⟩) Y;refine ⟨h9.kn,λx hx=>?_,h9.ms,h9.ps,h9.sg,h9.free⟩;rcases mem_append.1 hx with hx|hx
   ·exact h9.vars x hx
   rw [jw.1 hx,kx,if_pos rfl]
  obtain ⟨ow,n',a',v',h1,h2,h3,h4⟩:=ih _ hv1 Y (own++[fE left]) (n+1) n;refine ⟨fE left::ow,n',a',v',?_,h2,λs=>?_,λs hs=>?_⟩
  ·have hst:fP fs (.mk 1 (fE left) e .zero [] [] []) ⟨v,n,a⟩=(0,⟨cc v (fE left) 1,n+1,n⟩):=by
    rw [rb,if_pos]
    ·rfl
    show (if (1:Int)=1 then (if bO v (fE left)=0 then gA v e else 5) else _)=0;rw [if_pos rfl,if_pos h0];exact he.res hv.vars
   rw [dP,hst,if_pos rfl];show dP fs rest (own++[fE left]) _=_;rw [h1,append_assoc];rfl
  ·rw [h3,kx];by_cases hs:s∈ow
   ·rw [if_pos hs,if_pos (dT _ hs)]
   rw [if_neg hs];by_cases hk:fE left=s
   ·rw [if_pos hk,if_pos D3]
   rw [if_neg hk,if_neg (λhm=>(mem_cons.1 hm).elim (λe=>hk e.symm) hs)]
  ·rcases mem_cons.1 hs with rfl|hs
   ·exact ⟨left,hle,Y,J⟩
   ·obtain ⟨j,g1,g2,g3⟩:=h4 s hs;exact ⟨j,g1,Y,g3⟩
 |@assign vars deep left left' x e rest hx he h ih=>
  intro v hv hl;refine .next (l1:=left) (of_decide_eq_true J) Y (rE (of_decide_eq_true J) J J ?_) (λ_=>J) (ih v (hv.same hv.kn Y λ_=>J) Y)
  show (if (2:Int)=1 then _ else if (2:Int)=2 then (if lr v x=0 then gA v e else lr v x) else _)=0;rw [if_neg V,if_pos rfl,if_pos (by unfold lr;rw [hv.vars x hx];rfl)];exact he.res hv.vars
 |@call vars deep left left' k g asl rest hk hg ha h ih=>
  intro v hv hl;obtain ⟨g1,f,g2,g3⟩:=hv.sg g hg;obtain ⟨a1,a2⟩:=ha.res hv;refine .next (l1:=left) DG Y (rE DG J J ?_) (λ_=>J) (ih v (hv.same hv.kn Y λ_=>J) Y)
  show (if k=1 then _ else if k=2 then _ else if k=5∨k=6 then _ else if k=3∨k=4 then oL v fs g.1 asl else _)=0;rw [if_neg Y,if_neg Y,if_neg Y,if_pos hk];unfold oL;rw [g1,g2,if_neg V,if_pos rfl];show (if asl.length=f.params.length then gW v asl f.params else 7)=0;rw [g3,if_pos a2];exact a1
 |@cond vars deep left l1 l2 left' e thn els rest he ht hel h iht ihe ih=>
  intro v hv hl;have aa:=ht.le;have e2:=hel.le;have e3:=h.le;have hv0:=hv.same (left':=left) hv.kn Y λ_=>J;refine LE (l1:=left) (l2:=l1) (l3:=l2) V Y Y (he.res hv.vars) hv0.free (iht v hv0 Y) (λv1 k1 q1=>?_) K5;have hv1:=hv.same (left':=l1) k1 Y q1;exact ⟨hv1.free,ihe v1 hv1 Y⟩
 |@loop vars deep left l1 left' e thn rest he ht h iht ih=>
  intro v hv hl;have aa:=ht.le;have e3:=h.le;have hv0:=hv.same (left':=left) hv.kn Y λ_=>J;refine LE (l1:=left) (l2:=l1) (l3:=l1) V Y Y (he.res hv.vars) hv0.free (iht v hv0 Y) (λv1 k1 q1=>?_) K5;have hv1:=hv.same (left':=l1) k1 Y q1;exact ⟨hv1.free,λown n a=>⟨[],n,a,v1,by simp [dP],k1,λs=>aK,λs hs=>by cases hs⟩⟩
 |@ret vars deep left left' rest h ih=>
  intro v hv hl;exact .next (l1:=left) (of_decide_eq_true J) Y (rE (of_decide_eq_true J) J J J) (λ_=>J) (ih v (hv.same hv.kn Y λ_=>J) Y)
 |@pair vars deep left l1 left' r mid rest hr hm h ihm ih=>
  intro v hv hl;have aa:=hm.le;have e2:=h.le;refine .next (l1:=left) (of_decide_eq_true J) Y (rE (of_decide_eq_true J) J J (hr.res hv)) (λ_=>J) ?_
  have hv0:=hv.same (left':=left) hv.kn Y λ_=>J;intro own n a;obtain ⟨ow,n1,a1,v1,g1,g2,g3,g4⟩:=ihm v hv0 Y own n a;have hv1:ml ms sg ps fs vars l1 v1:=hv0.of g2 aa ow g3 g4 Y;have hu:oF fs (.mk 6 ax .zero r [] [] []::rest) l1 left' v1:=.next (l1:=l1) (of_decide_eq_true J) (bW _) (rE (of_decide_eq_true J) J J (hr.res hv1)) (λ_=>J) (ih v1 hv1 Y)
  obtain ⟨ow2,n2,a2,v2,h1,h2,h3,h4⟩:=hu (own++ow) n1 a1;refine ⟨ow++ow2,n2,a2,v2,by rw [J' fs _ _ _ _ _ _ g1,h1,append_assoc],h2,λs=>?_,λs hs=>?_⟩
  ·rw [h3,g3];by_cases hs:s∈ow2
   ·rw [if_pos hs,if_pos (f7 _ hs)]
   rw [if_neg hs];by_cases hs1:s∈ow
   ·rw [if_pos hs1,if_pos (fj _ hs1)]
   rw [if_neg hs1,if_neg (λhm=>(mem_append.1 hm).elim hs1 hs)]
  rcases mem_append.1 hs with hs|hs
  ·obtain ⟨j,k1,k2,k3⟩:=g4 s hs;exact ⟨j,Y,k2,k3⟩
  obtain ⟨j,k1,k2,k3⟩:=h4 s hs;exact ⟨j,k1,Y,k3⟩
end
def Lc:∀(l:List (aG×Int)) (v:bd) (n:Nat),co v -> (l.map (·.1)).Nodup -> (∀x,x∈l -> bO v x.1=0) ->
  (fM l v n).1=none /\ co (fM l v n).2 /\ (∀x,x∈l -> bO (fM l v n).2 x.1=x.2) /\ ∀s,s∉l.map (·.1) -> bO (fM l v n).2 s=bO v s
 |[],v,n,hk,_,_=>⟨rfl,hk,λx hx=>absurd hx not_mem_nil,λs _=>rfl⟩
 |p::r,v,n,hk,hd,h0=>by
  simp only [cd,kE] at hd;obtain ⟨a1,a2,a3,a4⟩:=Lc r (cc v p.1 p.2) (n+1) (hk.put _ _) hd.2 (λx hx=>by
   rw [kx,if_neg F1];exact h0 x (dT _ hx))
  have e:fM (p::r) v n=fM r (cc v p.1 p.2) (n+1):=by rw [fM,if_pos (h0 p jm)]
  rw [e];refine ⟨a1,a2,λx hx=>?_,λs hs=>?_⟩
  ·rcases mem_cons.1 hx with rfl|hx
   ·rw [a4 _ hd.1,kx,if_pos rfl]
   exact a3 x hx
  simp only [cd,mem_cons,not_or] at hs;rw [a4 s hs.2,kx,if_neg (λe=>hs.1 e.symm)]
def KW:∀(l:List bE)(m:dC)(s:aG),s∉l.map bE.name -> dG (l.foldl (λm f=>cc m f.name f) m) s=dG m s
 |[],m,s,_=>rfl
 |f::l,m,s,h=>by
  simp only [cd,mem_cons,not_or] at h;rw [o',KW l _ s h.2,mG,if_neg (λe=>h.1 e.symm)]
def CI:∀(l:List bE)(m:dC),(l.map bE.name).Nodup -> ∀f,f∈l -> dG (l.foldl (λm f=>cc m f.name f) m) f.name=some f
 |[],_,_,f,h=>gM
 |g::l,m,hd,f,h=>by
  simp only [cd,kE] at hd;rw [o'];rcases mem_cons.1 h with rfl|h
  ·rw [KW l _ _ hd.1,mG,if_pos rfl]
  exact CI l _ hd.2 f h
def Jf:∀(l:List bp)(v:bd),co v -> (l.map bp.name).Nodup -> (∀x,x∈l -> bO v x.name=0) ->
  (eW l v).1=true /\ co (eW l v).2 /\ (∀x,x∈l -> bO (eW l v).2 x.name=lU x) /\ ∀s,s∉l.map bp.name -> bO (eW l v).2 s=bO v s
 |[],v,hk,_,_=>⟨rfl,hk,λx hx=>absurd hx not_mem_nil,λs _=>rfl⟩
 |p::r,v,hk,hd,h0=>by
  simp only [cd,kE] at hd;obtain ⟨a1,a2,a3,a4⟩:=Jf r (cc v p.name (lU p)) (hk.put _ _) hd.2 (λx hx=>by
   rw [kx,if_neg F1];exact h0 x (dT _ hx))
  have e:eW (p::r) v=eW r (cc v p.name (lU p)):=by rw [eW,if_pos (h0 p jm)]
  rw [e];refine ⟨a1,a2,λx hx=>?_,λs hs=>?_⟩
  ·rcases mem_cons.1 hx with rfl|hx
   ·rw [a4 _ hd.1,kx,if_pos rfl]
   exact a3 x hx
  simp only [cd,mem_cons,not_or] at hs;rw [a4 s hs.2,kx,if_neg (λe=>hs.1 e.symm)]
def IZ:∀(l:List bp)(v:bd),co v -> co (jn l v) /\ ∀s,bO (jn l v) s=if s∈l.map bp.name then 0 else bO v s
 |[],v,h=>⟨h,λs=>by simp [jn]⟩
 |x::l,v,h=>by
  obtain ⟨h1,h2⟩:=IZ l (d_ v x.name) (h.del x.name);refine ⟨h1,λs=>?_⟩;show bO (jn l (d_ v x.name)) s=_;rw [h2,rX h,cd];by_cases hs:s∈l.map bp.name
  ·rw [if_pos hs,if_pos (dT _ hs)]
  rw [if_neg hs];by_cases hk:x.name=s
  ·rw [if_pos hk,if_pos D3]
  rw [if_neg hk,if_neg (λhm=>(mem_cons.1 hm).elim (λe=>hk e.symm) hs)]
def Tv{α:Type}(nm:α -> aG)(g:Nat -> aG)(l:List α)(h:∀k (hk:k<l.length),nm l[k]=g k):l.map nm=(List.range l.length).map g:=by
 apply lw
 ·simp
 intro i h1 h2;simp only [fW] at h1;simp only [nK,List.getElem_range];exact h i h1
def Sl{a b:Nat}(h:a <= b):(List.range a).Sublist (List.range b):=by
 rw [←Nat.add_sub_cancel' h,List.range_add];exact List.sublist_append_left _ _
def xU{α:Type}(nm:α -> aG)(g:Nat -> aG)(l:List α)(n:Nat)(hn:l.length <= n)(h:∀k (hk:k<l.length),nm l[k]=g k):(l.map nm).Sublist ((List.range n).map g):=by
 rw [Tv nm g l h];exact (Sl hn).map g
section
variable {p:aZ}(hp:pL p)
include hp
omit hp in theorem sorts_names:(eR p).map (·.1)=p.globals.map bw.name++(p.mutexes.map cq.name++p.funcs.map bE.name):=by
 unfold eR;simp [lE,Function.comp_def]
theorem Fz(k:Nat)(h:k<p.funcs.length):p.funcs[k].name=tt k:=by
 have h1:=hp.funcs.2.2 k h;unfold tt;by_cases h0:k=0
 ·rw [if_pos h0];exact (h1.1 h0).1
 rw [if_neg h0];exact h1.2.1 Y
theorem El:((eR p).map (·.1)).Sublist tK:=by
 rw [sorts_names];exact (xU bw.name KD p.globals 2 hp.globals.1 λk h=>(hp.globals.2 k h).1).append
  ((xU cq.name GP p.mutexes 4 hp.mutexes.2.1 λk h=>(hp.mutexes.2.2 k h).1).append (xU bE.name tt p.funcs 4 hp.funcs.2.1 (Fz hp)))
theorem La:(p.funcs.map bE.name).Nodup:=by
 refine ((xU bE.name tt p.funcs 4 hp.funcs.2.1 (Fz hp))).nodup Sg
theorem Vs{f:bE}(hf:f∈p.funcs):∀x,x∈f.params -> ∃i,i<3 /\ x.name=uj i:=by
 obtain ⟨k,hk,rfl⟩:=jQ hf;obtain ⟨h1,h2⟩:=(hp.funcs.2.2 k hk).2.2;intro x hx;obtain ⟨j,hj,rfl⟩:=jQ hx;exact ⟨_,Y,h2 j hj⟩
theorem TN{f:bE}(hf:f∈p.funcs):(f.params.map bp.name).Nodup:=by
 obtain ⟨k,hk,rfl⟩:=jQ hf;obtain ⟨h1,h2⟩:=(hp.funcs.2.2 k hk).2.2;unfold List.Nodup;rw [List.pairwise_iff_getElem];intro i j hi hj hij;simp only [fW] at hi hj;simp only [nK];rw [h2 i hi,h2 j hj];intro e;have:=Rf _ Y _ Y e;omega
theorem SR{v:bd}(hk:co v)(hs:∀x,x∈eR p -> bO v x.1=x.2)(h0:∀s,s∉(eR p).map (·.1) -> bO v s=0){f:bE}(hf:f∈p.funcs){left left':Nat}(hl:left <= 24)
  (h:eJ p.mutexes (p.funcs.map bE.sig) f.params (qm p.globals f.params) 2 left f.body left'):(gw (fO p.funcs) f v).1=0 /\ co (gw (fO p.funcs) f v).2.vis /\ ∀s,bO (gw (fO p.funcs) f v).2.vis s=bO v s:=by
 have hpn:=Vs hp hf;have hno:∀x,x∈f.params -> x.name∉(eR p).map (·.1):=λx hx hm=>by
  obtain ⟨i,hi,e⟩:=hpn x hx;exact Vr i hi (e▸(El hp).subset hm)
 obtain ⟨a1,a2,a3,a4⟩:=Jf f.params v hk (TN hp hf) (λx hx=>h0 _ (hno x hx));have keep:∀x,x∈eR p -> bO (eW f.params v).2 x.1=x.2:=λx hx=>by
  rw [a4 _ (λhm=>?_)];·exact hs x hx
  obtain ⟨y,hy,e⟩:=gH.1 hm;exact hno y hy (e▸List.mem_map_of_mem hx)
 have hv:ml p.mutexes (p.funcs.map bE.sig) f.params (fO p.funcs) (qm p.globals f.params) left (eW f.params v).2:=by
  refine ⟨a2,λx hx=>?_,λm hm=>?_,λx hx hm=>?_,λg hg=>?_,λj hj=>?_⟩
  ·unfold qm at hx;rcases mem_append.1 hx with hx|hx
   ·obtain ⟨g,hg,rfl⟩:=gH.1 hx;exact keep (g.name,1) (by unfold eR;exact fj _ (gH.2 ⟨g,hg,rfl⟩))
   obtain ⟨y,hy,rfl⟩:=gH.1 hx;obtain ⟨h1,h2⟩:=Dg.1 hy;rw [a3 y h1];unfold lU;rw [if_neg mR]
  ·exact keep (m.name,mY m) (by unfold eR;exact f7 _ (fj _ (gH.2 ⟨m,hm,rfl⟩)))
  ·rw [a3 x hx];unfold lU;rw [if_pos hm]
  ·obtain ⟨y,hy,rfl⟩:=gH.1 hg;exact ⟨keep (y.name,5) (by unfold eR;exact f7 _ (f7 _ (gH.2 ⟨y,hy,rfl⟩))),y,CI _ _ (La hp) y hy,J⟩
  rw [a4 _ (λhm=>?_)]
  ·exact h0 _ (λhm=>Pq j Y ((El hp).subset hm))
  obtain ⟨y,hy,e⟩:=gH.1 hm;obtain ⟨i,hi,e2⟩:=hpn y hy;exact Qu i hi j Y (e.symm.trans e2)
 obtain ⟨n',a',v',aa,e2,e3⟩:=(h.res (fs:=fO p.funcs) _ hv Y).fin hv.free 0 (-1);have e:gw (fO p.funcs) f v=(0,⟨jn f.params v',n',a'⟩):=by
  unfold gw;rw [if_pos a1];unfold iU;rw [aa]
 obtain ⟨g1,g2⟩:=IZ f.params v' e2;rw [e];refine ⟨J,g1,λs=>?_⟩;show bO (jn f.params v') s=_;rw [g2,e3];split
 ·rename_i hm;obtain ⟨y,hy,rfl⟩:=gH.1 hm;exact (h0 _ (hno y hy)).symm
 rename_i hm;exact a4 s hm
theorem UX{left:Nat}{l:List bE}(h:mq p.mutexes (p.funcs.map bE.sig) p.globals left l):∀(v:bd)(i:Nat),left <= 24 -> co v -> (∀x,x∈eR p -> bO v x.1=x.2) -> (∀s,s∉(eR p).map (·.1) -> bO v s=0) -> (∀f,f∈l -> f∈p.funcs) -> lP (fO p.funcs) l i v=(0,0,0):=by
 induction h with
 |nil=>intro v i _ _ _ _ _;rfl
 |@cons left left' f l h hl ih=>
  intro v i h24 hk hs h0 hm;obtain ⟨b1,b2,b3⟩:=SR hp hk hs h0 (hm f jm) h24 h;rw [lP,if_pos b1];exact ih _ _ (gb h.le h24) b2 (λx hx=>by rw [b3];exact hs x hx) (λs hs=>by rw [b3];exact h0 s hs) (λg hg=>hm g (dT _ hg))
theorem Tc:mP p=(0,0,0):=by
 obtain ⟨a1,a2,a3,a4⟩:=Lc (eR p) [] 0 (by unfold co;simp) ((El hp).nodup SQ) (λ_ _=>rfl);have hm:nN p=true:=by
  have h1:=hp.funcs.1;have h2:=hp.funcs.2.2 0 h1;have h3:=CI p.funcs [] (La hp) _ (getElem_mem h1);rw [(h2.1 rfl).1] at h3;unfold nN;have e:dG (fO p.funcs) ta=some p.funcs[0]:=h3;rw [e];dsimp only;rw [(h2.1 rfl).2];rfl
 unfold mP;rw [SP hp,if_neg V,a1];dsimp only;rw [if_pos hm];exact UX hp hp.bodies _ _ (bW _) a2 a3 (λs hs=>by rw [a4 s hs];rfl) (λf hf=>hf)
end
end
end
section
open Go.ChangeShapes Go.WideShapes Go.ChangeAt Go.RowKit
def Bd{p:aZ}(hp:pL p):gJ p=(0,0,0):=by rw [←DV,Tc hp]
def Rz{p:aZ}(h:gJ p=(0,0,0)):(kV p).procs.length=p.funcs.length /\ ∀k (hk:k<(kV p).procs.length) (hk':k<p.funcs.length),(kV p).procs[k]=gQ p p.funcs[k]:=by
 have e:(kV p).procs=p.funcs.map (gQ p):=by rw [Dq h]
 refine ⟨by rw [e,fW],λk hk hk'=>?_⟩;rw [List.getElem_of_eq e,nK]
end
section
open Go.RowKit
structure nJ (i:ic):Prop where
 e:i.expr.nodes <= 1000000000
 p:dD i.place.at_ <= 1000000000
 n:dD i.ints <= 1000000000
 q:∀x,x∈i.places -> dD x.at_ <= 1000000000
 l:i.places.length <= 1000000000
def FZ(l:List aP)(hn:dD l <= 1000000000)(s:aH):aR prog 57 [.c (aB bR l),.c (aB bR l)] [] s λt s'=>t=ap true /\ s'=s:=by
 have hlen:=tO l;obtain ⟨bx,rw⟩:=s;refine bN 27 func57 ?_;refine go 12 ?_;refine aC false J (dv Y) (go 12 ?_);refine lc (l.length) 5 (λk=>[(0,.c (aB bR l)),(1,.c (aB bR l))]) (ao J) λk hk=>?_;show bo prog _ ⟨27,_,_,(5,aX k)::[(0,.c (aB bR l)),(1,.c (aB bR l))]⟩ _;refine go 6 ?_;by_cases h2:((k:Nat):Int)<((l.length:Nat):Int)
 ·refine aC true J (ck h2) (go 8 ?_);have hkl:k<l.length:=Y;refine b_ [] (aY [0,1] 8 (go 3 ?_));refine ab 2 J (bS bR bb l fw ei k J J J J Y V runUnderlying85 sizeOf87) (aY [3,4,5] 4 (go 4 ?_));refine ab 6 J (bS bR bb l fw ei k J J J J Y V runUnderlying85 sizeOf87) (aY [7] 2 (go 2 ?_));refine an 8 J J (fX J J V call55 J (Ch l[k] (by have:=oG l k hkl;omega) _) ?_);rintro _ _ ⟨rfl,rfl⟩;refine aY [9] 0 (go 2 ?_);refine bG (go 7 ?_);refine bJ J (go 2 ?_);exact ⟨Y,(av J (bv Y) (ao J))⟩
 refine aC false J (cg h2) (go 14 ?_);exact aw (s':=⟨bx,rw⟩) J dm ⟨bU J,J⟩
def JC(x:nL)(hn:dD x.at_ <= 1000000000)(s:aH):aR prog 56 [.agg (ec x),.agg (ec x)] [] s λt s'=>t=ap true /\ s'=s:=by
 obtain ⟨bx,rw⟩:=s;refine bN 24 func56 ?_;refine go 13 λb1 b2=>?_;refine aF J (io true J J J runUnderlying4 (by simp [xE])) (go 5 ?_);refine aC true J (bg Y) (go 6 ?_);refine m4 J call57 J (FZ x.at_ Y _) (go 5 ?_);exact aw (s':=⟨bx,rw⟩) J eX ⟨bU J,J⟩
def PQ(c:List ic)(hl:c.length <= 1000000000)(hs:∀i,i∈c -> nJ i)(s:aH):aR prog 29 [.c (aB encI c),.c (aB encI c)] [] s λt s'=>t=ap true /\ s'=s:=by
 obtain ⟨bx,rw⟩:=s;refine bN 99 func29 ?_;refine go 12 ?_;refine aC false J (dv Y) (go 12 ?_);refine lc (c.length) 5 (λk=>[(0,.c (aB encI c)),(1,.c (aB encI c))]) (ao J) λk hk=>?_;show bo prog _ ⟨99,_,_,(5,aX k)::[(0,.c (aB encI c)),(1,.c (aB encI c))]⟩ _;refine go 6 ?_;by_cases h2:((k:Nat):Int)<((c.length:Nat):Int)
 ·refine aC true J (ck h2) (go 8 ?_);have hkl:k<c.length:=Y;have hm:=hs c[k] (getElem_mem hkl);have hml:=hm.l;refine b_ [] (aY [0,1] 10 (go 3 ?_));refine ab 2 J (bS encI encI c kN (λ_=>J) k J J J J Y V runUnderlying75 sizeOf92) (aY [3,4,5] 6 (go 4 ?_));refine ab 6 J (bS encI encI c kN (λ_=>J) k J J J J Y V runUnderlying75 sizeOf92) (aY [7] 4 (go 2 ?_));refine I' 8 9 aQ aQ aQ J J J J J J J J V J J V V V zeroValue92 J zeroValue92 J λb1 b2=>?_;refine cU [(10,false),(11,false)] 0 (go 3 ?_);refine bG (go 8 ?_);refine aC false J (dv Y) (go 5 ?_);refine aC false J (dv Y) (go 6 ?_);refine aF J (io false J J J runUnderlying4 (by simp [xE])) (go 6 ?_);refine m4 J call55 J (Ch c[k].expr hm.e _) (go 7 ?_);refine m4 J call56 J (JC c[k].place hm.p _) (go 7 ?_);refine m4 J call57 J (FZ c[k].ints hm.n _) (go 9 ?_);refine aC false J (dv Y) (go 12 ?_);refine lc (c[k].places.length) 8 (λj=>[(0,.c (aB encI c)),(1,.c (aB encI c)),(5,aX k),(6,aE b1),(7,aE b2)]) (ao J) λj hj=>?_;show bo prog _ ⟨99,_,_,(8,aX j)::[(0,.c (aB encI c)),(1,.c (aB encI c)),(5,aX k),(6,aE b1),(7,aE b2)]⟩ _;refine go 7 ?_;by_cases h5:((j:Nat):Int)<((c[k].places.length:Nat):Int)
  ·refine aC true J (ck h5) (go 8 ?_);refine b_ [b2,b1] (aY [0,1,2] 9 (go 4 ?_));refine ab 3 J (bS ec ec c[k].places yA (λ_=>J) j J J J J Y V runUnderlying90 sizeOf89) (aY [4,5,6,7] 4 (go 5 ?_));refine ab 8 J (bS ec ec c[k].places yA (λ_=>J) j J J J J Y V runUnderlying90 sizeOf89) (aY [9] 2 (go 2 ?_));refine an 10 J J (fX J J V call56 J (JC c[k].places[j] (hm.q _ (getElem_mem Y)) _) ?_);rintro _ _ ⟨rfl,rfl⟩;refine aY [11] 0 (go 2 ?_);refine bG (go 7 ?_);refine bJ J (go 2 ?_);exact ⟨Y,(av J (bv Y) (ao J))⟩
  refine aC false J (cg h5) (go 11 ?_);refine bJ J (go 2 ?_);exact ⟨Y,az (h1:=(.cons _ (.cons _ (.refl _)))) (h:=av J (bv Y) (ao J)) (λb hb=>dT _ (dT _ (hb)))⟩
 refine aC false J (cg h2) (go 14 ?_);exact aw (s':=⟨bx,rw⟩) J dm ⟨bU J,J⟩
end
section
mutual
def AH(l:List bK):∀e:aP,(cW l e).nodes <= e.nodes
 |.mk op num name args=>by
  rw [cW];split
  ·unfold pW;rw [aP.nodes,aP.nodes,dD];omega
  have:=CQ l args;rw [aP.nodes,aP.nodes];omega
def CQ(l:List bK):∀r:List aP,dD (pv l r) <= dD r
 |[]=>by rw [pv];omega
 |e::r=>by have h1:=AH l e;have h2:=CQ l r;rw [pv,dD,dD];omega
end
def IR(l:List bK)(r:cD):dD (eH l r).at_ <= dD r.index:=by
 show dD (r.index.map (cW l)) <= _;rw [←Di];exact CQ l r.index
def nJ.to{i:ic}(h:nJ i)(t:Nat):nJ (i.to t):=⟨h.e,h.p,h.n,h.q,h.l⟩
def iV(x:ah):Prop:=∀i,i∈x.code -> nJ i
def iV.put{x:ah}(h:iV x){i:ic}(hi:nJ i)(n:Nat):iV (x.put i n):=λj hj=>(mem_append.1 (show j∈x.code++[i] from hj)).elim (h j) (λhj=>by obtain rfl:=jw.1 hj;exact hi)
def iV.patch{x:ah}(h:iV x)(b:Nat):iV (x.patch b):=λj hj=>by
 rcases E9 (show j∈x.code.modify b (λi=>i.to x.code.length) from hj) with hj|⟨k,hk,rfl⟩
 ·exact h j hj
 exact (h k hk).to _
def rl:aP.zero.nodes <= 1000000000:=by unfold aP.zero;rw [aP.nodes,dD];omega
def p'{k:Int}{t:Nat}{b:Bool}{e:aP}(h:e.nodes <= 1000000000):nJ ⟨k,t,b,e,dB,[],[]⟩:=⟨h,D1,by rw [dD];omega,λx hx=>vu,d2 _⟩
def Gw(l:List bK):∀al:List cK,dD (da l al) <= eI al
 |[]=>by unfold da;show dD [] <= _;rw [dD];omega
 |a::al=>by
  have ih:=Gw l al;have h1:=AH l a.expr;unfold da at ih⊢;rw [AP,eI];unfold cK.wt;split
  ·rw [cd,dD];omega
  omega
def Is(l:List bK):∀al:List cK,(∀x,x∈d5 l al -> dD x.at_ <= eI al) /\ (d5 l al).length <= eI al
 |[]=>⟨λx hx=>(by unfold d5 at hx;cases hx),d2 _⟩
 |a::al=>by
  obtain ⟨i1,i2⟩:=Is l al;have h1:=IR l a.ref;unfold d5 at i1 i2⊢;rw [AP,eI];unfold cK.wt cD.wt;split
  ·rw [cd,length_cons];refine ⟨λx hx=>?_,Y⟩;rcases mem_cons.1 hx with rfl|hx
   ·omega
   have:=i1 x hx;omega
  exact ⟨λx hx=>by have:=i1 x hx;omega,Y⟩
def G6:∀(al:List cK)(xs:List bp),eI (gp al xs) <= eI al
 |[],xs=>by cases xs<;>exact bW _
 |_::_,[]=>by simp [gp,eI]
 |a::al,x::xs=>by
  have:=G6 al xs;rw [gp];split
  ·rw [eI,eI];omega
  rw [eI];omega
def SS(p:aZ)(l:List bK)(s:aL)(hw:s.wt <= 1000000000):nJ (fv p l s):=by
 have hp:=f6 s;have z:=λ {k:Int} {t:Nat}=>p' (k:=k) (t:=t) (b:=false) rl;unfold fv mQ;split
 ·exact z
 split
 ·split
  ·rename_i v _ _ _;have h1:=Gw l (gp s.args (iy p v.n));obtain ⟨h2,h3⟩:=Is l (gp s.args (iy p v.n));have h4:=G6 s.args (iy p v.n);exact ⟨rl,D1,qk,λx hx=>by have:=h2 x hx;omega,qk⟩
  exact z
 exact z
def OU(p:aZ)(s:aL)(x:ah)(hw:s.wt <= 1000000000)(h:iV x):iV (hJ p s x):=by
 have hp:=f6 s;have h0:∀e,iV (x.beg e):=λ_=>h;have he:(cW x.ents s.expr).nodes <= 1000000000:=by have:=AH x.ents s.expr;omega
 have hr:∀k:Int,nJ ⟨k,0,false,.zero,eH x.ents s.ref,[],[]⟩:=λk=>⟨rl,by have:=IR x.ents s.ref;unfold cD.wt at hp;dsimp only;omega,D1,λx hx=>vu,d2 _⟩;unfold hJ;split
 ·exact (h0 (dE (ey x.ents s.name) (cO x.ents s.expr))).put (p' he) x.n
 split
 ·exact (h0 _).put (p' he) _
 split
 ·exact (h0 _).put (SS p _ s hw) _
 split
 ·exact (h0 _).put (hr 4) _
 split
 ·exact (h0 _).put (hr 5) _
 exact (h0 _).put (p' rl) _
mutual
def Pt(p:aZ):∀(s:aL)(x:ah),s.wt <= 1000000000 -> iV x -> iV (ci p s x)
 |.mk k name e r args t f,x,hw,h=>by
  have hb:iV (x.branch e):=by
   refine iV.put (x:=x.beg _) h (p' ?_) x.n;have:=AH x.ents e;rw [aL.wt] at hw;omega
  have ht:iV (cE p t (x.branch e)):=xh p t _ (by rw [aL.wt] at hw;omega) hb;rw [ci];split
  ·split
   ·exact iV.patch (x:=(x.branch e).back (cE p t (x.branch e))) ht _
   have h1:iV ((((x.branch e).back (cE p t (x.branch e))).put (bf 7 .zero) x.n).patch x.code.length):=((iV.put (x:=(x.branch e).back (cE p t (x.branch e))) ht (p' rl) x.n)).patch _;have h2:=xh p f _ (by rw [aL.wt] at hw;omega) h1;exact iV.patch (x:=ah.back x (cE p f ((((x.branch e).back (cE p t (x.branch e))).put (bf 7 .zero) x.n).patch x.code.length))) h2 _
  split
  ·exact (iV.put (x:=(x.branch e).back (cE p t (x.branch e))) ht (p' rl) x.n).patch _
  exact OU p _ x hw h
def xh(p:aZ):∀(l:List aL)(x:ah),bQ l <= 1000000000 -> iV x -> iV (cE p l x)
 |[],x,_,h=>by rw [cE];exact h
 |s::l,x,hw,h=>by
  rw [bQ] at hw;rw [cE];exact xh p l _ Y (Pt p s x Y h)
end
def SO(p:aZ)(f:bE)(hw:f.wt <= 20000000):(gQ p f).code.length <= 1000000000 /\ ∀i,i∈(gQ p f).code -> nJ i:=by
 have hf:f.wt=1+f.params.length+bQ f.body:=J;unfold gQ;rcases hY f.params (ba p) 0 0 with _|⟨l,i,m⟩
 ·exact ⟨d2 _,λi h=>gM⟩
 have h1:iV (cE p f.body (ah.init l i)):=xh p f.body _ Y (λi h=>gM);have h2:=qH p f.body (ah.init l i);have h3:(ah.init l i).code.length=0:=J;refine ⟨?_,(iV.put (x:=ah.back (ah.init l i) (cE p f.body (ah.init l i))) h1 (p' rl) _:iV (tI p f l i))⟩;show ((cE p f.body (ah.init l i)).code++[bf 8 .zero]).length <= _;rw [length_append];show _+1 <= _;omega
def Pj{p:aZ}(hw:p.wt <= 9000000):(kV p).globals.length <= 1000000000 /\ (kV p).mutexes.length <= 1000000000 /\ (kV p).procs.length <= 1000000000 /\ ∀x,x∈(kV p).procs -> x.code.length <= 1000000000 /\ ∀i,i∈x.code -> nJ i:=by
 unfold aZ.wt at hw;have hfl:=oe bE.wt (λf=>pV) p.funcs;unfold kV;split
 ·refine ⟨zE,qk,zE,λx hx=>?_⟩;obtain ⟨f,hf,rfl⟩:=gH.1 hx;obtain ⟨k,hk,rfl⟩:=jQ hf;exact SO p _ (by have:=pT bE.wt p.funcs k hk;omega)
 exact ⟨d2 _,d2 _,d2 _,λx hx=>vu⟩
end
section
open Go.RowKit
def PN(u:tj)(hg:u.globals.length <= 1000000000)(hml:u.mutexes.length <= 1000000000)(hpl:u.procs.length <= 1000000000)(hs:∀x,x∈u.procs -> x.code.length <= 1000000000 /\ ∀i,i∈x.code -> nJ i)(s:aH):aR prog 12 [.agg (o5 u),.agg (o5 u),ap true] [] s λt s'=>t=ap true /\ s'=s:=by
 obtain ⟨bx,rw⟩:=s;refine bN 149 func12 ?_;refine go 14 λb1 b2=>?_;refine aC false J (dv Y) (go 5 ?_);refine m4 J call19 J (KY u.globals u.globals J Y _) (go 9 ?_);refine aC false J (dv Y) (go 8 ?_);refine aC false J (dv Y) (go 13 ?_);refine lc (u.mutexes.length) 7 (λk=>[(2,ap true),(3,aE b1),(4,aE b2)]) (ao J) λk hk=>?_;show bo prog _ ⟨149,_,_,(7,aX k)::[(2,ap true),(3,aE b1),(4,aE b2)]⟩ _;refine go 7 ?_;by_cases h2:((k:Nat):Int)<((u.mutexes.length:Nat):Int)
 ·refine aC true J (ck h2) (go 8 ?_);have hkl:k<u.mutexes.length:=Y;refine b_ [b2,b1] (aY [0,1,2] 43 (go 4 ?_));refine ab 3 J (bS aU aU u.mutexes kI (λ_=>J) k J J J J Y V runUnderlying24 sizeOf60) (aY [4,5,6,7,8] 37 (go 6 ?_));refine ab 9 J (bS aU aU u.mutexes kI (λ_=>J) k J J J J Y V runUnderlying24 sizeOf60) (aY [10,11] 34 (go 3 ?_));refine ab 12 J (io false J J J runUnderlying4 (by simp [xE])) (aY [13,14,15,16] 29 (go 5 ?_));refine ab 17 J (bS aU aU u.mutexes kI (λ_=>J) k J J J J Y V runUnderlying24 sizeOf60) (aY [18,19,20,21,22] 23 (go 6 ?_));refine ab 23 J (bS aU aU u.mutexes kI (λ_=>J) k J J J J Y V runUnderlying24 sizeOf60) (aY [24,25] 20 (go 3 ?_));refine ab 26 J (ej false J J J (dv Y)) (aY [27,28,29,30,31,32,33] 12 (go 8 ?_));refine ab 34 J (bS aU aU u.mutexes kI (λ_=>J) k J J J J Y V runUnderlying24 sizeOf60) (aY [35,36,37,38,39] 6 (go 6 ?_));refine ab 40 J (bS aU aU u.mutexes kI (λ_=>J) k J J J J Y V runUnderlying24 sizeOf60) (aY [41,42] 3 (go 3 ?_));refine ab 43 J (eo false J J J (by simp [kb])) (aY [44,45] 0 (go 3 ?_));refine bG (go 7 ?_);refine bJ J (go 2 ?_);exact ⟨Y,(av J (bv Y) (ao J))⟩
 refine aC false J (cg h2) (go 15 ?_);refine lc (u.procs.length) 8 (λj=>[(2,ap true),(3,aE b1),(4,aE b2)]) (ao J) λj hj=>?_;show bo prog _ ⟨149,_,_,(8,aX j)::[(2,ap true),(3,aE b1),(4,aE b2)]⟩ _;refine go 7 ?_;by_cases h6:((j:Nat):Int)<((u.procs.length:Nat):Int)
 ·refine aC true J (ck h6) (go 8 ?_);have hjl:j<u.procs.length:=Y;obtain ⟨hm1,hm2⟩:=hs u.procs[j] (getElem_mem hjl);refine b_ [b2,b1] (aY [0,1,2] 11 (go 4 ?_));refine ab 3 J (bS fL fL u.procs tT (λ_=>J) j J J J J Y V runUnderlying29 sizeOf79) (aY [4,5,6,7] 6 (go 5 ?_));refine ab 8 J (bS fL fL u.procs tT (λ_=>J) j J J J J Y V runUnderlying29 sizeOf79) (aY [9] 4 (go 2 ?_));refine I' 10 11 aQ aQ aQ J J J J J J J J V J J V V V zeroValue79 J zeroValue79 J λb3 b4=>?_;refine cU [(12,false),(13,false)] 0 (go 3 ?_);refine bG (go 7 ?_);refine aC false J (dv Y) (go 5 ?_);refine aC false J (dv Y) (go 6 ?_);refine aC false J (dv Y) (go 6 ?_);refine m4 J call29 J (PQ u.procs[j].code hm1 hm2 _) (go 9 ?_);refine aF J (eo false J J J (by simp [kb])) (go 10 ?_);refine bJ J (go 2 ?_);exact ⟨Y,az (h1:=(.cons _ (.cons _ (.refl _)))) (h:=av J (bv Y) (ao J)) (λb hb=>dT _ (dT _ (hb)))⟩
 refine aC false J (cg h6) (go 14 ?_);exact aw (s':=⟨bx,rw⟩) J eX ⟨bU J,J⟩
end
end Go.Proofs.YtjgeihmhppadaaaGreatDoor
