import Derived.Test.YtjgeihmhppadaaaGreatDoorVG2J
set_option linter.all false
set_option synthInstance.maxHeartbeats 1000000
set_option synthInstance.maxSize 1000000
set_option maxHeartbeats 1600000
set_option maxRecDepth 100000
namespace Go.Proofs.YtjgeihmhppadaaaGreatDoor
open Go.Proofs.Tryz
open List (length_append length_cons length_nil mem_append mem_cons not_mem_nil append_assoc getElem_mem take_of_length_le)
section
open Go.RowKit
def UD{bx bx':List aV}{rw:List aP}(h:bx'.Perm bx):jj ⟨bx,rw⟩ ⟨bx',rw⟩:=by
 intro w hm;have hp:((⟨bx',rw⟩:aJ).bl).Perm ((⟨bx,rw⟩:aJ).bl):=Il (h.map _) (List.Perm.refl _);have hu:f7 (bj (⟨bx,rw⟩:aJ).bl w) (bj (⟨bx',rw⟩:aJ).bl w):=up_sub λb hb=>hp.mem_iff.1 hb;exact ⟨⟨hp.nodup_iff.2 hm.nodup,λb hb=>hm.lt b (hp.mem_iff.1 hb),λx hx=>let ⟨us,e,r⟩:=hm.box x (h.mem_iff.1 hx);⟨us,e,r.mono hu⟩,λx hx=>let ⟨us,e,r⟩:=hm.row x hx;⟨us,e,r.mono hu⟩⟩,λb hb=>hp.mem_iff.1 hb⟩
def Mem.aI2{s:aJ}{w:ab}{A B:List aP}{g cap k z:Nat}{E:bA}{cs ds:List aO}{cur cur':Array aN}{us':List aN}(h:Mem s w)(hb:s.rows=A++⟨.slice (some ⟨g,0,none⟩) k cap,E,z,k,cs⟩::B)(h1:w.heap[g]?=some (.cells cur E (0,0)))(hr:dV (bj s.bl w) ds us')
  (hkc:k <= cap) (hcm:cap <= maxLen) (hsz:cur'.size=cap*z) (htk:cur'.toList.take (k*z)=us') (hlen:us'.length=k*z):
  Mem ⟨s.boxes,A++⟨.slice (some ⟨g,0,none⟩) k cap,E,z,k,ds⟩::B⟩ (w.setRow g cur'):=by
 have hbl:(⟨s.boxes,A++⟨.slice (some ⟨g,0,none⟩) k cap,E,z,k,ds⟩::B⟩:aJ).bl=s.bl:=vV;have hmem:g∈s.bl:=O1;have hk:=zI w g cur';have hu:f7 (bj s.bl w) (bj s.bl (w.setRow g cur')):=lb hk Hd (λx hx=>.inl hx);have hnd:=h.nodup;have hg:g∈aR (.slice (some ⟨g,0,none⟩) k cap):=iB;have hnd2:(s.boxes.map aV.b++(A.flatMap (λr=>aR r.v)++(aR (.slice (some ⟨g,0,none⟩) k cap)++B.flatMap λr=>aR r.v))).Nodup:=by
  have:=hnd;unfold aJ.bl at this;rw [hb] at this;simpa using this
 have aM0:∀x,x∈s.boxes -> x.b≠g:=λx hx he=>(eN.1 hnd2).2.2 x.b (lP.2 ⟨x,hx,J⟩) g (by simp [hg]) he;have hrow:∀r,r∈A∨r∈B -> g∉aR r.v:=by
  intro r hr hm;have h2:=(eN.1 hnd2).2.1;rcases hr with hr|hr
  ·exact (eN.1 h2).2.2 g (ky.2 ⟨r,hr,hm⟩) g (gR _ hg) J
  exact (eN.1 (eN.1 h2).2.1).2.2 g hg g (ky.2 ⟨r,hr,hm⟩) J
 refine ⟨by rw [hbl];exact hnd,λx hx=>ED,λx hx=>?_,λr hr2=>?_⟩
 ·rw [hbl];obtain ⟨us,aj,e2⟩:=h.box x hx;exact ⟨us,Mk,e2.mono hu⟩
 rw [hbl];have old:r∈A∨r∈B -> ∃us,pG (w.setRow g cur') r us /\ dV (bj s.bl (w.setRow g cur')) r.cs us:=λhr=>by
  have hr3:r∈s.rows:=PP;obtain ⟨us,aj,e2⟩:=h.row r hr3;exact ⟨us,aj.keep λq hq=>hk.block q (h.lt q (gx _ (ky.2 ⟨r,hr3,hq⟩))) Ly,e2.mono hu⟩
 simp only [mem_append,mem_cons] at hr2;rcases hr2 with hr2|rfl|hr2
 ·exact old (.inl hr2)
 ·exact ⟨us',.inl ⟨hlen,.inr ⟨g,cap,cur',J,eT _,setRow_heap w g cur _ E (0,0) h1,hkc,hcm,hsz,htk⟩⟩,hr.mono hu⟩
 exact old (.inr hr2)
def Qf{P:Program}{U:List Nat}{o:Oper}{st:AS}{K:AS -> Prop}{ty E:bA}{x y:bb}{g off z zz k cap:Nat}{cs ds r:List aO}{t:AT}(A:List aP){B:List aP}(ho:o.op=.store ty x y)(hd:o.dst=none)(hx:aw st x=some (av (.pointer (some ⟨g,off,none⟩))))(hy:aw st y=some t)(hc:lV t=some ds)
  (hb:st.s.rows=A++⟨.slice (some ⟨g,0,none⟩) k cap,E,zz,k,cs⟩::B) (hS:∀w,(sizeOf ty).run P w=.ok z w) (hz:ds.length=z) (hl:off+z <= cs.length) (hr:splice cs off ds=r) (hT:g∈st.T) (hU:st.s.bl.Nodup -> g∈U)
  (h:K {st with s:=⟨st.s.boxes,A++⟨.slice (some ⟨g,0,none⟩) k cap,E,zz,k,r⟩::B⟩}):dZ P U o st K:=by
 intro a w hs KK QQ hK;subst hr;have hmem:(⟨.slice (some ⟨g,0,none⟩) k cap,E,zz,k,cs⟩:aP)∈st.s.rows:=uX;obtain ⟨us,la,h2⟩:=hs.mem.row _ hmem;obtain ⟨h0,h1⟩:=la.row0 rfl;rcases h1 with ⟨h1,-⟩|⟨g',cap',cur,hv,-,hh,hkc,hcm,hcs,htk⟩
 ·cases h1
 cases hv;dsimp only at h0 hh hkc hcs htk;have hv:=uq hc (hs.ev hy);have hlen:=hv.len;have hl2:us.length=cs.length:=h2.len;have hle:k*zz <= cur.size:=by rw [hcs];exact Cl _ hkc
 have hbl:(⟨st.s.boxes,A++⟨.slice (some ⟨g,0,none⟩) k cap,E,zz,k,splice cs off ds⟩::B⟩:aJ).bl=st.s.bl:=vV;have hbm:g∈st.s.bl:=O1;generalize hvs:(a.eval y).cells.toList=vs at hv hlen;have hst:=run_storeCells_at (P:=P) g off E vs 0 cur w hh Y hv.one;simp only [vX] at hst;have hk:=zI w g (cur.toList.take off++vs++cur.toList.drop (off+vs.length)).toArray;unfold Oper.wp;have hrun:(execOp a.eval o).run P w=.ok .skip (w.setRow g (cur.toList.take off++vs++cur.toList.drop (off+vs.length)).toArray):=by
  have hsz:(a.eval y).cells.size=z:=by rw [←rG,hvs,hlen,hz]
  simp only [execOp,ho,hs.val hx,Instr.storeAt,Instr.sureAddr,storeVar,dI,fj,ei,hS,hsz,ne_eq,not_true_eq_false,if_false,hvs];rw [hst];rfl
 rw [hrun,Oper.upon_skip,hd];have aQf:(cur.toList.take off++vs++cur.toList.drop (off+vs.length)).take (k*zz)=us.take off++vs++us.drop (off+vs.length):=by
  subst htk;refine CC λj=>?_;rw [oy];by_cases hj:j<k*zz
  ·rw [if_pos hj];simp only [List.getElem?_append,length_append,ke,rG,oy,qX]
   repeat' split
   all_goals first|rfl|omega|(congr 1;omega)|skip
  rw [if_neg hj,xt];simp only [length_append,ke,kL,rG];omega
 have hm:=hs.mem.aI2 (cur':=(cur.toList.take off++vs++cur.toList.drop (off+vs.length)).toArray) hb hh (h2.splice hv off) hkc hcm (by simp only [wH,length_append,ke,kL,rG];omega) aQf (by simp only [length_append,ke,kL];omega);refine hK _ _ _ h (hs.step st.T (hk.mono so) hm (λx hx=>.inl sE)) ⟨hk.mono so,hk.mono AE,λx hx=>.inl sE,λx hx=>.inl hx⟩ (hk.mono yd)
section
variable {P:Program}{ops:Array Oper}{Z T:List Nat}{o:Oper}{n:Nat}{s:aJ}{ts:List (Nat×AT)}{K:AS -> Prop}{bx:List aV}{rw:List aP}{Q:Exit -> AS -> Prop}{l:List Oper}
theorem three(i j k:Nat){o2 o3:Oper}{fuel:Nat}{listed:Array Bool}(hr:Region.ready .any ops listed=[i,j,k])(hi:ops.toList[i]?=some o)(hw:eJ ops o ⟨n,T,s,ts⟩=some true)(hi2:ops.toList[j]?=some o2)(hw2:eJ ops o2 ⟨n,T,s,ts⟩=some true)(hi3:ops.toList[k]?=some o3)(hw3:eJ ops o3 ⟨n,T,s,ts⟩=some true)
  (h:dZ P (fe s Z) o ⟨n,T,s,ts⟩ λs=>dr P ops Z fuel (listed.setIfInBounds i true) s K) (h2:dZ P (fe s Z) o2 ⟨n,T,s,ts⟩ λs=>dr P ops Z fuel (listed.setIfInBounds j true) s K) (h3:dZ P (fe s Z) o3 ⟨n,T,s,ts⟩ λs=>dr P ops Z fuel (listed.setIfInBounds k true) s K):dr P ops Z (fuel+1) listed ⟨n,T,s,ts⟩ K:=
 B4 hr rfl (vA hi hw h (vA hi2 hw2 h2 (vA hi3 hw3 h3 Bd)))
theorem Vf{x y:aV}{B:List aV}(h:cO P ops l ⟨n,T,⟨y::x::B,rw⟩,ts⟩ Q):cO P ops l ⟨n,T,⟨x::y::B,rw⟩,ts⟩ Q:=
 uZ (qx (st:=⟨n,T,⟨x::y::B,rw⟩,ts⟩) (UD (List.Perm.swap _ _ _))) h
theorem cx{Z:List Nat}{r:aP}{b:Nat}[h1:zD bx Z](hn:(⟨bx,rw⟩:aJ).bl.Nodup)(hb:b∈aR r.v)(hr:r∈rw:=by simp):b∈fe ⟨bx,rw⟩ Z:=by
 have h3:b∈rw.flatMap λr=>aR r.v:=ky.2 ⟨r,hr,hb⟩;refine gh.2 ⟨gx _ h3,λhz=>?_⟩;exact (eN.1 hn).2.2 b (h1.h b hz) b h3 J
theorem pR{P:Program}{U:List Nat}{o:Oper}{st:AS}{E yt:bA}{x y:bb}{c d:UInt8}{a b r:aH}(ho:o.op=.binOp .add E x y yt)(hx:aw st x=some (cK a))(hy:aw st y=some (cK b))(ha:a=bytes [c])(hb:b=bytes [d])(hr:bytes [c,d]=r):co P U o st (cK r):=by
 subst hr;subst hb;subst ha;exact Ie (P:=P) (U:=U) ho hx hy (by show 1+1 <= _;decide)
end
def lM{P:Program}{U T:List Nat}{o:Oper}{n:Nat}{bx:List aV}{ts:List (Nat×AT)}{K:AS -> Prop}{ty E:bA}{x y:bb}{g off z zz k cap:Nat}{cs ds r:List aO}{t:AT}(A:List aP){B:List aP}(ho:o.op=.store ty x y)(hd:o.dst=none)(hx:aw ⟨n,T,⟨bx,A++⟨.slice (some ⟨g,0,none⟩) k cap,E,zz,k,cs⟩::B⟩,ts⟩ x=some (av (.pointer (some ⟨g,off,none⟩))))(hy:aw ⟨n,T,⟨bx,A++⟨.slice (some ⟨g,0,none⟩) k cap,E,zz,k,cs⟩::B⟩,ts⟩ y=some t)(hc:lV t=some ds)
  (hS:∀w,(sizeOf ty).run P w=.ok z w) (hz:ds.length=z) (hl:off+z <= cs.length) (hr:splice cs off ds=r) (hT:g∈T) (hU:(⟨bx,A++⟨.slice (some ⟨g,0,none⟩) k cap,E,zz,k,cs⟩::B⟩:aJ).bl.Nodup -> g∈U)
  (h:K ⟨n,T,⟨bx,A++⟨.slice (some ⟨g,0,none⟩) k cap,E,zz,k,r⟩::B⟩,ts⟩):dZ P U o ⟨n,T,⟨bx,A++⟨.slice (some ⟨g,0,none⟩) k cap,E,zz,k,cs⟩::B⟩,ts⟩ K:=Qf A ho hd hx hy hc rfl hS hz hl hr hT hU h
end
section
open Go.RowKit
section
variable {m n:Int}
theorem bU(h:m=n):ed .eql m n=some true:=rB
theorem bO(h:¬m=n):ed .eql m n=some false:=rB
theorem fl(h:¬m=n):ed .neq m n=some true:=rB
theorem fF(h:m=n):ed .neq m n=some false:=rB
theorem c_(h:m<n):ed .lss m n=some true:=rB
theorem cv(h:¬m<n):ed .lss m n=some false:=B9
theorem zg(h:m <= n):ed .leq m n=some true:=rB
theorem yQ(h:¬m <= n):ed .leq m n=some false:=B9
theorem e1(h:n<m):ed .gtr m n=some true:=rB
theorem fA(h:¬n<m):ed .gtr m n=some false:=B9
theorem nB(h:n <= m):ed .geq m n=some true:=rB
theorem oQ(h:¬n <= m):ed .geq m n=some false:=B9
end
section
variable {m n:ByteArray}
theorem pF(h:m=n):m_ .eql m n=some true:=by simp [m_,h]
theorem od(h:¬m=n):m_ .eql m n=some false:=by simp [m_,h]
theorem C7(h:¬m=n):m_ .neq m n=some true:=by simp [m_,h]
theorem CJ(h:m=n):m_ .neq m n=some false:=by simp [m_,h]
end
section
variable {P:Program}{U T:List Nat}{o:Oper}{n d:Nat}{ts:List (Nat×AT)}{s:aJ}{K:AS -> Prop}{st:AS}{Q:Exit -> AS -> Prop}
theorem cP{t t':AT}(h:bL t t')(hy:co P U o st t):co P U o st t':=λa w hs hu=>
 let ⟨v,h1,h2⟩:=hy a w hs hu
 ⟨v,h _ _ h1,h2⟩
theorem bJ{a b:Bool}(h:a=b):bL (bC a) (bC b):=h▸bL.refl _
theorem cD{a b:Int}(h:a=b):bL (an a) (an b):=h▸bL.refl _
theorem fh{a b:aH}(h:a=b):bL (cK a) (cK b):=h▸bL.refl _
theorem qc{x:Bool}(h:x=true):(!x)=false:=pE
theorem qP{x:Bool}(h:x=false):(!x)=true:=pE
theorem bZ{a b:Bool}(h:b=a):AT.c (bG a)=bC b:=h▸rfl
theorem fa{a b:Int}(h:b=a):AT.c (aA a)=an b:=h▸rfl
theorem mb{a b:aH}(h:b=a):AT.c (ah a)=cK b:=h▸rfl
theorem VW(a b:List UInt8):bytes a++bytes b=bytes (a++b):=DI uU
theorem zq(a:List UInt8):(bytes a).size=a.length:=xi
theorem cz{t yt:bA}{x y:bb}{m k:aH}(a b:List UInt8)(ho:o.op=.binOp .add t x y yt)(hx:aw st x=some (cK m))(hy:aw st y=some (cK k))(ha:m=bytes a)(hb:k=bytes b)(hl:a.length+b.length <= 9223372036854775807):co P U o st (cK (bytes (a++b))):=by
 subst ha;subst hb;rw [←VW];exact Ie ho hx hy (by rw [zq,zq];exact hl)
theorem back(s:aH):s=bytes s.data.toList:=uU
theorem da{F:FuncId}{ks:Array bb}{ph:Array bA}{us:List AT}{QQ:AT -> aJ -> Prop}(ho:o.op=.call {callee:=.value (.func F),args:=ks,argTypes:=ph})(hd:o.dst=some d)(hn:d<n)
  (hcf:∀args w,(callFunc F args).run P w=.ok (.enter F args) w) (has:ks.toList.map (aw ⟨n,T,s,ts⟩)=us.map some) (hc:aU P F us [] s QQ) (h:∀r s',QQ r s' -> K ⟨n,T,s',(d,r)::ts⟩):dZ P U o ⟨n,T,s,ts⟩ K:=
 bm [] ho hd hn hcf has hc dJ dJ (λ_=>dJ) h
theorem qk{c:Code}(N i:Nat)(fx:Nat -> List (Nat×AT))(hs:Sub ⟨n,T,s,ts⟩ ⟨n,T,s,(i,ae 0)::fx 0⟩)
  (round:∀k,k <= N -> br P c ⟨n,T,s,(i,ae k)::fx k⟩ (lX (λs'=>k<N /\ Sub s' ⟨n,T,s,(i,ae (k+1))::fx (k+1)⟩) Q)):br P (.loop c) ⟨n,T,s,ts⟩ Q:=by
 refine f9 (λk=>⟨n,T,s,(i,ae k)::fx k⟩) (λk=>k <= N) (λk=>N-k) 0 hs (eT _) λk hk=>sN (round k hk) λe s' h=>?_;cases e with
 |normal=>exact ⟨k+1,h.1,by have:=h.1;omega,h.2⟩
 |_=>exact h
theorem jr{c:Code}(p:Nat -> Prop)(N i:Nat)(fx:Nat -> List (Nat×AT))(hp:p 0)(hs:Sub ⟨n,T,s,ts⟩ ⟨n,T,s,(i,ae 0)::fx 0⟩)
  (round:∀k,k <= N -> p k -> br P c ⟨n,T,s,(i,ae k)::fx k⟩ (lX (λs'=>k<N /\ p (k+1) /\ Sub s' ⟨n,T,s,(i,ae (k+1))::fx (k+1)⟩) Q)):br P (.loop c) ⟨n,T,s,ts⟩ Q:=by
 refine f9 (λk=>⟨n,T,s,(i,ae k)::fx k⟩) (λk=>k <= N /\ p k) (λk=>N-k) 0 hs ⟨eT _,hp⟩ λk hk=>sN (round k hk.1 hk.2) λe s' h=>?_;cases e with
 |normal=>exact ⟨k+1,⟨h.1,h.2.1⟩,by have:=h.1;omega,h.2.2⟩
 |_=>exact h
theorem Gk{c:Code}{bx bx0:List aV}{rw rw0:List aP}(p:Nat -> Prop)(N i j:Nat)(E:bA)(z:Nat)(cnt:Nat -> Nat)(cs:Nat -> List aO)(T0:List Nat)(fx:Nat -> List (Nat×AT))(hp:p 0)
  (hs:Sub ⟨n,T,⟨bx0,rw0⟩,ts⟩ ⟨n,aR (.slice none 0 0)++T0,⟨bx,⟨.slice none 0 0,E,z,cnt 0,cs 0⟩::rw⟩,(i,ae 0)::(j,.c (aK))::fx 0⟩)
  (round:∀k v,k <= N -> p k -> br P c ⟨n,aR v++T0,⟨bx,⟨v,E,z,cnt k,cs k⟩::rw⟩,(i,ae k)::(j,av v)::fx k⟩
   (lX (λs'=>k<N /\ p (k+1) /\ ∃v',Sub s' ⟨n,aR v'++T0,⟨bx,⟨v',E,z,cnt (k+1),cs (k+1)⟩::rw⟩,(i,ae (k+1))::(j,av v')::fx (k+1)⟩) Q)):br P (.loop c) ⟨n,T,⟨bx0,rw0⟩,ts⟩ Q:=by
 refine f9 (λg:Nat×aN=>⟨n,aR g.2++T0,⟨bx,⟨g.2,E,z,cnt g.1,cs g.1⟩::rw⟩,(i,ae g.1)::(j,av g.2)::fx g.1⟩) (λg=>g.1 <= N /\ p g.1) (λg=>N-g.1) (0,.slice none 0 0) hs ⟨eT _,hp⟩ λg hg=>sN (round g.1 g.2 hg.1 hg.2) λe s' h=>?_;cases e with
 |normal=>
  obtain ⟨h1,h2,v',h3⟩:=h;exact ⟨(g.1+1,v'),⟨h1,h2⟩,by show N-(g.1+1)<N-g.1;omega,h3⟩
 |_=>exact h
end
def Oper.Fm{P:Program}{Q Q':Exit -> Act -> ab -> Prop}{o:Oper}{a:Act}{w:ab}{K K':Act -> ab -> Prop}(h:∀a w,K a w -> K' a w)(hq:∀e a w,e≠.normal -> Q e a w -> Q' e a w)(hl:LetsOut Q -> LetsOut Q')
  (hh:o.wp P a w K Q):o.wp P a w K' Q':=by
 unfold Oper.wp at *;generalize (execOp a.eval o).run P w=r at *;cases r with
 |ok n w'=>
  cases n<;>simp only [Oper.upon] at hh⊢<;>
   first
    |exact h _ _ hh
    |exact Calls.mono hh (λe w'' he=>by cases e<;>first|exact h _ _ he|exact hq _ _ _ aL he|exact hl he)
    |exact Rows.mono hh (λ_ _ he=>h _ _ he)
 |halt x w'=>cases x<;>simp only [Oper.upon] at hh⊢<;>first|exact hq _ _ _ aL hh|exact hh
def Gi{P:Program}{ops:Array Oper}{Q Q1:Exit -> Act -> ab -> Prop}{l2:List Oper}(hn:∀a w,Q1 .normal a w -> wpList P ops Q l2 a w)(hq:∀e a w,e≠.normal -> Q1 e a w -> Q e a w):∀(l1:List Oper)(a:Act)(w:ab),wpList P ops Q1 l1 a w -> wpList P ops Q (l1++l2) a w
 |[],a,w,h=>hn a w h
 |o::l1,a,w,h=>by
  rw [eA];unfold wpList at h⊢;split at h
  ·rename_i hw;rw [if_pos hw];rcases h with h|⟨h1,a2,w2,h2⟩
   ·refine .inl ?_;have hK:∀a w,wpList P ops Q1 l1 a w -> wpList P ops Q (l1++l2) a w:=λa w=>Gi hn hq l1 a w;have hL:LetsOut Q1 -> LetsOut Q:=λ⟨a,w,h⟩=>⟨a,w,hq _ a w aL h⟩;exact Oper.Fm hK hq hL h
   exact .inr ⟨h1,a2,w2,hq _ _ _ aL h2⟩
  rename_i hw;rw [if_neg hw];exact Gi hn hq l1 _ _ h
class pk (N:Nat) (l:List Oper) (l1 l2:outParam (List Oper)):Prop where h:l=l1++l2
instance ZY{l:List Oper}:pk 0 l [] l:=⟨rfl⟩
instance aGL{N:Nat}{o:Oper}{l l1 l2:List Oper}[h:pk N l l1 l2]:pk (N+1) (o::l) (o::l1) l2:=⟨by rw [h.h];rfl⟩
instance ZV{N:Nat}{o:Oper}{l m l1 l2:List Oper}[h:pk (N+1) (o::List.append l m) l1 l2]:pk (N+1) (List.append (o::l) m) l1 l2:=⟨h.h⟩
instance aDB{N:Nat}{m l1 l2:List Oper}[h:pk N m l1 l2]:pk N (List.append [] m) l1 l2:=⟨h.h⟩
instance aDI{j t:Nat}{o:Oper}{l m:List Oper}[h:tN (o::List.append l m) j t]:tN (List.append (o::l) m) j t:=⟨h.h⟩
instance aBq{j t:Nat}{m:List Oper}[h:tN m j t]:tN (List.append [] m) j t:=⟨h.h⟩
instance aEL{P:Program}{ops:Array Oper}{o:Oper}{l m:List Oper}{st:AS}{Q:Exit -> AS -> Prop}{N:Nat}{g:Prop}[h:dq (N+1) (cO P ops (o::List.append l m) st Q) g]:dq (N+1) (cO P ops (List.append (o::l) m) st Q) g:=⟨h.out⟩
instance aBz{P:Program}{ops:Array Oper}{m:List Oper}{st:AS}{Q:Exit -> AS -> Prop}{N:Nat}{g:Prop}[h:dq (N+1) (cO P ops m st Q) g]:dq (N+1) (cO P ops (List.append [] m) st Q) g:=⟨h.out⟩
def Uv{P:Program}{ops:Array Oper}{l l1 l2:List Oper}{st:AS}{Q:Exit -> AS -> Prop}(N:Nat)(st':AS)[hs:pk N l l1 l2](h1:cO P ops l1 st (λe s=>e=.normal /\ Sub s st'))(h2:cO P ops l2 st' Q):cO P ops l st Q:=by
 rw [hs.h];intro a w hS QQ hQ;refine Gi (Q1:=λe a' w'=>match e with|.normal=>∃s,Sub s st' /\ ep s a' w' /\ iP st w s w'|_=>False) ?_ ?_ l1 a w (h1 a w hS _ ?_)
 ·rintro a' w' ⟨s,hs1,hs2,hs3⟩;exact h2 a' w' (hs1 a' w' hs2).1 QQ λe a2 w2 s2 q k1 k2=>hQ e a2 w2 s2 q k1 ((hs3.trans (hs1.ext hs2)).trans k2)
 ·intro e a' w' he h;cases e with
  |normal=>exact absurd rfl he
  |_=>exact h.elim
 rintro e a' w' s ⟨rfl,h⟩ k1 k2;exact ⟨s,h,k1,k2⟩
def pO{P:Program}{ops:Array Oper}{l l1 l2:List Oper}{n:Nat}{T:List Nat}{s:aJ}{ts:List (Nat×AT)}{Q:Exit -> AS -> Prop}(N:Nat)(ts':List (Nat×AT))[hs:pk N l l1 l2](h1:cO P ops l1 ⟨n,T,s,ts⟩ (λe s'=>e=.normal /\ Sub s' ⟨n,T,s,ts'⟩))(h2:cO P ops l2 ⟨n,T,s,ts'⟩ Q):cO P ops l ⟨n,T,s,ts⟩ Q:=Uv N _ h1 h2
def pA{P:Program}{x y:Code}{n:Nat}{T:List Nat}{s:aJ}{ts:List (Nat×AT)}{Q:Exit -> AS -> Prop}(ts':List (Nat×AT))(h1:br P x ⟨n,T,s,ts⟩ (λe s'=>e=.normal /\ Sub s' ⟨n,T,s,ts'⟩))(h2:br P y ⟨n,T,s,ts'⟩ Q):br P (.seq x y) ⟨n,T,s,ts⟩ Q:=
 zy (sN h1 λe s ⟨he,hs⟩=>by subst he;exact D' (rp hs h2))
end
section
open Go.RowKit
def Py(x n:Int)(hn:0<n):-n<x.tmod n:=by
 by_cases hx:0 <= x
 ·have:=Int.tmod_nonneg n hx;omega
 have h1:=Fl (-x) hn;rw [Int.neg_tmod] at h1;omega
def Ql(x n:Int)(hn:0<n):(x.tmod n+n).tmod n=x%n:=by
 have h1:=Fl x hn;have h2:=Py x n hn;rw [Int.tmod_eq_emod_of_nonneg Y,Int.add_emod_right];rw [Int.tmod_def];rw [show x-n*x.tdiv n=x+n*(-(x.tdiv n)) by rw [Int.mul_neg];omega,Int.add_mul_emod_self_left]
def Rx(x n:Int)(w:ab)(hn:0<n)(hn2:n <= 4611686018427387904):
  Calls prog 16 #[.int .i64 x,.int .i64 n] w λe w'=>e=.returned (.int .i64 (x%n)) /\ w=w':=by
 have h1:=Fl x hn;have h2:=Py x n hn;have h3:=Ql x n hn;have h4:0 <= x%n:=AQ x Y;have h5:x%n<n:=FV x hn;have hw1:IntKind.i64.wrap (x.tmod n)=x.tmod n:=IntWalk.i64_in _ Y;have hw2:IntKind.i64.wrap (x.tmod n+n)=x.tmod n+n:=IntWalk.i64_in _ Y;have hw3:IntKind.i64.wrap (x%n)=x%n:=IntWalk.i64_in _ Y
 go_enter func16,Tryz.ntmps16
 go_wp2
 go_ret
 exact ⟨ku (by simp [h3]),J⟩
def O7(x n:Int)(hn:0<n)(hn2:n <= 4611686018427387904)(s:aJ):aU prog 16 [an x,an n] [] s λr s'=>r=an (x%n) /\ s'=s:=
 I3 rfl rfl (us:=[.int .i64 x,.int .i64 n]) (λw=>Rx x n w hn hn2) s
def Lk{p:Prop}[Decidable p](h:p):some (decide p)=some true:=by rw [decide_eq_true h]
def P2{p:Prop}[Decidable p](h:¬p):some (decide p)=some false:=by rw [decide_eq_false h]
end
section
def eQ:Nat -> List ByteArray
 |0=>[⟨#[124,124]⟩]
 |1=>[⟨#[38,38]⟩]
 |2=>[⟨#[61,61]⟩,⟨#[33,61]⟩,⟨#[60]⟩,⟨#[60,61]⟩,⟨#[62]⟩,⟨#[62,61]⟩]
 |3=>[⟨#[43]⟩,⟨#[45]⟩]
 |_=>[⟨#[42]⟩,⟨#[47]⟩,⟨#[37]⟩]
def d5:Nat -> List Int
 |0=>[17]
 |1=>[16]
 |2=>[14,15,10,11,12,13]
 |3=>[8,9]
 |_=>[5,6,7]
def Ff(k:Nat):(d5 k).length=(eQ k).length /\ 1 <= (eQ k).length /\ (eQ k).length <= 6:=by
 rcases k with _|_|_|_|k<;>simp [d5,eQ]
def Sr(k:Nat)(hk:k<5):∀j (h:j<(eQ k).length),fP (eQ k)[j]=false:=by
 rcases (show k=0∨k=1∨k=2∨k=3∨k=4 by omega) with rfl|rfl|rfl|rfl|rfl<;>decide
def Mo(k:Nat)(hk:k<5):∀j (h:j<(eQ k).length) (h':j<(d5 k).length),(((binOp (eQ k)[j]).1:Int)=(d5 k)[j]) /\ (binOp (eQ k)[j]).2=k+1:=by
 rcases (show k=0∨k=1∨k=2∨k=3∨k=4 by omega) with rfl|rfl|rfl|rfl|rfl<;>decide
def Xa(k:Nat)(hk:k<5)(s:aH)(h:(binOp s).2=k+1):s∈eQ k:=by
 by_cases ha:s=bytes [124,124]∨s=bytes [38,38]∨s=bytes [61,61]∨s=bytes [33,61]∨s=bytes [60]∨s=bytes [60,61]∨s=bytes [62]∨s=bytes [62,61]∨s=bytes [43]∨s=bytes [45]∨s=bytes [42]∨s=bytes [47]∨s=bytes [37]
 ·rcases (show k=0∨k=1∨k=2∨k=3∨k=4 by omega) with rfl|rfl|rfl|rfl|rfl<;>rcases ha with rfl|rfl|rfl|rfl|rfl|rfl|rfl|rfl|rfl|rfl|rfl|rfl|rfl<;>first|(exfalso;revert h;decide)|simp [eQ,bytes]
 exfalso;simp only [not_or] at ha;obtain ⟨a1,a2,a3,a4,a5,a6,a7,a8,a9,b1,b2,b3,b4⟩:=ha;rw [binOp,if_neg a1,if_neg a2,if_neg a3,if_neg a4,if_neg a5,if_neg a6,if_neg a7,if_neg a8,if_neg a9,if_neg b1,if_neg b2,if_neg b3,if_neg b4] at h;simp at h
end
section
open Go.RowKit
def Hh(k:Nat):dF k=(if k/10=0 then [] else dF (k/10))++[UInt8.ofNat (48+k%10)]:=by
 conv=>lhs;rw [dF]
 by_cases h:k<10
 ·rw [if_pos h,if_pos Y,show k%10=k by omega];rfl
 rw [if_neg h,if_neg Y]
def SZ(m:Nat):∀n,n<10 ^ m -> 0<m -> (dF n).length <= m:=by
 induction m with
 |zero=>intro n _ h;omega
 |succ m ih=>
  intro n hn _;rw [Hh];by_cases h:n/10=0
  ·rw [if_pos h];simp
  rw [if_neg h,length_append];have h1:n/10<10 ^ m:=by rw [yG] at hn;omega
  have hm:0<m:=by
   rcases xL m with rfl|h2
   ·simp at h1;omega
   exact h2
  have:=ih (n/10) h1 hm;simp;omega
def zt(n:Nat)(hn:n<18446744073709551616):(dF n).length <= 20:=
 SZ 20 n (Nat.lt_trans hn V) Y
def LV(w:ab)(c:UInt8):(convert 58 9 (.slice (some ⟨w.heap.size,0,none⟩) 1 1)).run prog (w.alloc (.cells #[.int .u8 c.toNat] 5))=.ok (.string (bytes [c])) (w.alloc (.cells #[.int .u8 c.toNat] 5)):=
 F5 [c] (some ⟨w.heap.size,0,none⟩) 1 _ (.inr ⟨w.heap.size,0,rfl,λj u hu=>by
  have:=Cq w (dS [c]) 5 j u hu;have e:(⟨w.heap.size,0,none⟩:Addr).add j=⟨w.heap.size,0+j,none⟩:=Af;rw [e] at this;exact this⟩)
def bytes_append(a b:List UInt8):bytes a++bytes b=bytes (a++b):=DI uU
def GV(a:List UInt8):(bytes a).size=a.length:=xi
def XO(n:Nat)(w:World)(u v:Value)(wr:World):Prop:=∃(k:Nat) (t:List UInt8),u=.int .u64 k /\ v=.string (bytes t) /\ dF n=(if k=0 then [] else dF k)++t /\ k <= n /\ Below w.heap.size w wr
def VC(n:Nat)(w:ab)(hn:n<18446744073709551616):
  Calls prog 134 #[.int .u64 n] w λe w'=>e=.returned (.string (bytes (dF n))) /\ Below w.heap.size w w':=by
 have hst:=Hh n;have hl20:=zt n hn;obtain ⟨c,hcd⟩:∃c,c=UInt8.ofNat (48+n%10):=⟨_,rfl⟩;have hc:(c.toNat:Int)=48+(n:Int)%10:=by rw [hcd,UInt8.toNat_ofNat'];omega
 rw [←hcd] at hst;have hcv:=LV w c;rw [hc] at hcv;have hb0:(n:Int) <= 18446744073709551615:=Y;have HL:=Lib.hid hl20;have HST:=Lib.hid hst;clear hc hcd hst hl20 hn
 go_enter func134,Tryz.ntmps134
 go_wp2_with fail
 go_loopw [0,3] (λu v wr=>XO n w u v wr) (λu _ _=>(intOf u).toNat)
 case atStart=>exact ⟨n/10,[c],kw,rfl,HST.out,Y,eS⟩
 case round=>
  obtain ⟨k,t,rfl,rfl,hd,hkn,hb⟩:=hrel;have hsz:=hb.size;have htl:t.length <= 20:=by
   have:=congrArg List.length hd;rw [length_append] at this;have:=HL.out;omega
  have HD:=Lib.hid hd;clear hd hcv;by_cases hk:0<k
  ·have g1:(0:Int)<k:=Y;obtain ⟨d,hdd⟩:∃d,d=UInt8.ofNat (48+k%10):=⟨_,rfl⟩;have hdn:(d.toNat:Int)=48+(k:Int)%10:=by rw [hdd,UInt8.toNat_ofNat'];omega
   have hcv:=LV wr d;rw [hdn] at hcv;have hadd:∀W:ab,(Op.stringOp .add (bytes [d]) (bytes t)).run prog W=.ok (.string (bytes (d::t))) W:=λW=>by
    rw [run_string_add_sum (P:=prog) (w:=W) _ _ (by rw [GV,GV];simp;omega),bytes_append];rfl
   have HDD:=Lib.hid hdd;have hkb:(k:Int) <= 18446744073709551615:=Y;clear hdn hdd
   go_wp2_with fail
   go_roundw
   case rel=>
    refine ⟨k/10,d::t,kw,J,?_,Y,eS⟩;have h1:=HD.out;rw [if_neg Y,Hh k,←HDD.out] at h1;rw [h1];simp
   case measure=>simp [intOf];omega
  have g1:(k:Int) <= 0:=Y;have HK:=Lib.hid (show k=0 by omega);clear hk
  go_wp2_with fail
  go_ret
  refine ⟨?_,hb⟩;have h1:=HD.out;rw [if_pos HK.out] at h1;rw [h1];rfl
def V2(z:Int)(n:Nat)(w:ab)(hz:z=n)(hn:n<18446744073709551616):
  Calls prog 134 #[.int .u64 z] w λe w'=>e=.returned (.string (bytes (dF n))) /\ Below w.heap.size w w':=by
 subst hz;exact VC n w hn
def Uf(n:Int)(w:ab)(h1:-9223372036854775808 <= n)(h2:n <= 9223372036854775807):
  Calls prog 100 #[.int .i64 n] w λe w'=>e=.returned (.string (bytes (fT n))) /\ Below w.heap.size w w':=by
 obtain ⟨m,hm⟩:∃m,m=n.natAbs:=⟨_,rfl⟩;have hml:m<18446744073709551616:=Y;have hl:=zt m hml;have hadd:∀W:ab,(Op.stringOp .add ⟨#[45]⟩ (bytes (dF m))).run prog W=.ok (.string (bytes (45::dF m))) W:=λW=>by
  rw [run_string_add_sum (P:=prog) (w:=W) _ _ (by rw [GV,show (⟨#[45]⟩:aH).size=1 from rfl];omega)];exact congrArg (λx=>Result.ok (Value.string x) W) (bytes_append [45] (dF m))
 have HM:=Lib.hid hm;have HML:=Lib.hid hml;clear hm hl hml;by_cases hn:n<0;focus
  have hnl:fT n=45::dF m:=by unfold fT;rw [if_pos hn,HM.out]
 rotate_left;have hnl:fT n=dF m:=by unfold fT;rw [if_neg hn,HM.out]
 all_goals
  have HN:=Lib.hid hnl;clear hnl
  go_enter func100,Tryz.ntmps100
  go_wp2_with (go_at_call 134;((with_reducible refine (V2 _ m _ (by have:=HM.out;omega) HML.out).mono ?_);rintro e w1 ⟨rfl,hb⟩))
  go_ret
  exact ⟨by rw [HN.out];rfl,hb⟩
def R4{w:ab}{v:aN}{n:Nat}{cells:List aN}(h:d_ w v n cells)(o:Obj):d_ (w.alloc o) v n cells:=h.below ((Below.refl w.heap.size w).alloc (bX _) o) (bX _)
def Qh(k:Nat)(w:ab)(hk:k<5):
  Calls prog 140 #[.int .i64 k] w λe w'=>(∃v u,e=.returned (.tuple #[v,u]) /\ d_ w' v (eQ k).length ((eQ k).map .string) /\ d_ w' u (d5 k).length ((d5 k).map (.int .i64))) /\ Below w.heap.size w w':=by
 have hcases:k=0∨k=1∨k=2∨k=3∨k=4:=Y;rcases hcases with rfl|rfl|rfl|rfl|rfl;all_goals
  go_enter func140,Tryz.ntmps140
  go_wp2_with fail
  go_ret2
  exact ⟨⟨_,_,J,R4 (d_.new w _ 9 _) _,d_.aGv _ _ 3 _ _ aL⟩,eS⟩
def Tu(k:Nat)(hk:k<5)(op:Int)(h:op∈d5 k):dN op=k:=by
 have hcases:k=0∨k=1∨k=2∨k=3∨k=4:=Y;rcases hcases with rfl|rfl|rfl|rfl|rfl<;>simp only [d5,mem_cons,not_mem_nil,or_false] at h
 ·subst h;rfl
 ·subst h;rfl
 ·rcases h with rfl|rfl|rfl|rfl|rfl|rfl<;>rfl
 ·rcases h with rfl|rfl<;>rfl
 rcases h with rfl|rfl|rfl<;>rfl
def V4(op:Int)(h:∀k,k<5 -> op∉d5 k):(op=3∨op=4 -> dN op=5) /\ (¬(op=3∨op=4) -> dN op=6):=by
 have h0:=h 0 Y;have h1:=h 1 Y;have h2:=h 2 Y;have h3:=h 3 Y;have h4:=h 4 Y;simp only [d5,mem_cons,not_mem_nil,or_false,not_or] at h0 h1 h2 h3 h4;unfold dN;rw [if_neg h0,if_neg h1,if_neg Y,if_neg Y,if_neg Y];exact ⟨λh=>if_pos h,λh=>if_neg h⟩
def Wj(op:Int)(w:World)(v:Value)(wr:World):Prop:=∃k:Nat,v=.int .i64 k /\ k <= 5 /\ (∀j,j<k -> op∉d5 j) /\ Below w.heap.size w wr
def Uo(op:Int)(k:Nat)(v:Value):Prop:=∃i:Nat,v=.int .i64 i /\ i <= (d5 k).length /\ op∉(d5 k).take i
def Tk(op:Int)(w:ab):
  Calls prog 158 #[.int .i64 op] w λe w'=>e=.returned (.int .i64 (dN op)) /\ Below w.heap.size w w':=by
 go_enter func158,Tryz.ntmps158
 go_wp2_with fail
 go_loopw [3] (λv wr=>Wj op w v wr) (λv _=>5-(intOf v).toNat)
 case atStart=>exact ⟨0,rfl,Y,λj h=>absurd h Y,Below.refl _ _⟩
 case round=>
  obtain ⟨k,rfl,hk,hno,hb⟩:=hrel;have HNO:=Lib.hid hno;clear hno;have hsz:=hb.size;by_cases hlt:k<5
  ·have g1:(k:Int)<5:=Y
   go_wp2_with (go_at_call 140;((with_reducible refine (Qh k _ hlt).mono ?_);rintro e w1 ⟨⟨v,u,rfl,hv,hu⟩,hb1⟩;clear hv;obtain ⟨a,c,rfl,hc,hr⟩:=hu;have HR:=Lib.hid hr;clear hr))
   go_hide hQ
   go_loop [6] (λv=>Uo op k v) (λv=>(d5 k).length-(intOf v).toNat)
   case atStart=>exact ⟨0,rfl,Y,aL⟩
   case round=>
    obtain ⟨i,rfl,hi,hni⟩:=hrel;have HNI:=Lib.hid hni;clear hni;have hll:(d5 k).length <= 6:=by
     have hcases:k=0∨k=1∨k=2∨k=3∨k=4:=Y;rcases hcases with rfl|rfl|rfl|rfl|rfl<;>decide
    by_cases hil:i<(d5 k).length
    ·rcases HR.out with h0|⟨b,off,rfl,hr⟩
     ·exfalso;have:=congrArg List.length h0;simp at this;rw [this] at hil;simp at hil
     have hcell:=hr i (.int .i64 (d5 k)[i]) (by simp [hil]);clear hr;by_cases he:(d5 k)[i]=op
     ·have q:=Tu k hlt op (he▸getElem_mem hil);have hq:((d5 k)[i] == op)=true:=by rw [he];simp
      have Q:=Lib.hid q;clear q he
      go_wp2_with fail
      subst hQ
      go_wp2_with fail
      go_ret
      exact ⟨ku (by rw [Q.out]),hb.trans (hb1.mono hsz)⟩
     have hq:((d5 k)[i] == op)=false:=vH;have HE:=Lib.hid he;clear he
     go_wp2_with fail
     go_round
     case rel=>exact ⟨i+1,kw,Y,by rw [gz hil];simp only [mem_append,jK,not_or];exact ⟨HNI.out,λh=>HE.out h.symm⟩⟩
     case measure=>simp [intOf];omega
    have hnot:op∉d5 k:=by have h:=HNI.out;rw [take_of_length_le Y] at h;exact h
    have RK:∀j,j<k+1 -> op∉d5 j:=by
     intro j hj;rcases jv j k with h|h
     ·exact HNO.out j h
     obtain rfl:j=k:=Y;exact hnot
    have HN2:=Lib.hid RK;clear hnot RK
    go_wp2_with fail
    subst hQ
    go_wp2_with fail
    go_roundw
    case rel=>exact ⟨k+1,kw,Y,HN2.out,hb.trans (hb1.mono hsz)⟩
    case measure=>simp [intOf];omega
  have hout:=V4 op (λj hj=>HNO.out j Y);have HO:=Lib.hid hout;clear hout;by_cases h3:op=3∨op=4
  ·have hs:=HO.out.1 h3;have HS:=Lib.hid hs;clear hs;rcases h3 with rfl|rfl;all_goals
    go_wp2_with fail
    go_ret
    exact ⟨ku (by rw [HS.out];rfl),hb⟩
  have hs:=HO.out.2 h3;have HS:=Lib.hid hs;have q3:(op == 3)=false:=by rw [beq_eq_false_iff_ne];exact λh=>h3 (.inl h)
  have q4:(op == 4)=false:=by rw [beq_eq_false_iff_ne];exact λh=>h3 (.inr h)
  clear hs h3
  go_wp2_with fail
  go_ret
  exact ⟨ku (by rw [HS.out];rfl),hb⟩
def G9{P:Program}{F:FuncId}{ts:List AT}{us:List aN}{u:aN}(h1:u.oneCell'=true)(hts:ts=us.map λu=>av u)(h:∀w,Calls P F us.toArray w λe w'=>e=.returned u /\ Below w.heap.size w w')(s:aJ):aU P F ts [] s λr s'=>r=av u /\ s'=s:=by
 intro vs w hm _ hl hr;subst hts;obtain rfl:vs=us:=by
  refine oR tr λi h1 h2=>?_;have h3:=hr i pf h1;simp only [rE] at h3;exact h3.val
 exact (h w).mono λe w' ⟨h2,h3⟩=>by
  obtain ⟨hk,hm'⟩:=Ag hm h3;exact ⟨_,_,s,h2,⟨J,J⟩,.c _ _ (.val _ h1),hm',hk,λb hb=>.inl hb⟩
def JP{P:Program}{U:List Nat}{o:Oper}{st:AS}{E yt:bA}{x y:bb}{m k:Nat}(r:Nat)(ho:o.op=.binOp .rem E x y yt)(hx:aw st x=some (ae m))(hy:aw st y=some (ae k))(hk:k≠0)(hr:m%k=r):co P U o st (ae r):=by
 subst hr;exact FD ho hx hy Y J
def m3(i:Nat)(c:UInt8):Bool:=gC c||(decide (i≠0) && dR c)
def Tq(s:aH)(h:∀j (hj:j<s.size),m3 j s[j]=true):cG s=(decide (1 <= s.size) && decide (s.size <= 16) && !fP s):=by
 unfold cG;have hl:s.size=s.data.toList.length:=J;have hall:∀j (hj:j<s.data.toList.length),m3 j s.data.toList[j]=true:=λj hj=>h j (by rw [hl];exact hj);rw [hl];cases hd:s.data.toList with
 |nil=>simp
 |cons c r=>
  rw [hd] at hall;have h0:=hall 0 aL;have hr:r.all dU=true:=by
   rw [e0];intro x hx;obtain ⟨i,hi,rfl⟩:=mp hx;have:=hall (i+1) pW;simpa [m3,dU] using this
  have h1:gC c=true:=by simpa [m3] using h0
  simp only [h1,hr,yw,length_cons];rw [show decide (1 <= r.length+1)=true by simp,yw]
def XZ(s:aH)(k:Nat)(hk:k<s.size)(h:m3 k s[k]=false):cG s=false:=by
 unfold cG;have hk':k<s.data.toList.length:=hk;have h':m3 k s.data.toList[k]=false:=h;cases hd:s.data.toList with
 |nil=>rfl
 |cons c r=>
  simp only [hd] at h' hk';cases k with
  |zero=>
   have:gC c=false:=by simpa [m3] using h'
   simp [this]
  |succ k=>
   have hkr:k<r.length:=by simpa using hk'
   have hx:dU r[k]=false:=by simpa [m3,dU] using h'
   have:r.all dU=false:=by
    rw [List.all_eq_false];exact ⟨r[k],getElem_mem _,zu⟩
   simp [this]
def SK(s:ByteArray)(v:Value):Prop:=∃k:Nat,v=.int .i64 k /\ k <= s.size /\ ∀j (hj:j<s.size),j<k -> m3 j s[j]=true
def T_(s:aH)(w:ab)(hs:s.size <= 4611686018427387904):
  Calls prog 72 #[.string s] w λe w'=>e=.returned (.bool (cG s)) /\ Below w.heap.size w w':=by
 go_enter func72,Tryz.ntmps72
 go_wp2_with fail
 go_loop [3] (λv=>SK s v) (λv=>s.size-(intOf v).toNat)
 case atStart=>exact ⟨0,rfl,Y,λj _ h=>absurd h Y⟩
 case round=>
  obtain ⟨k,rfl,hk,hall⟩:=hrel;have HA:=Lib.hid hall;clear hall;by_cases hlt:k<s.size
  ·cases hc:m3 k s[k] with
   |true=>
    have aJ8:∀j (hj:j<s.size),j<k+1 -> m3 j s[j]=true:=by
     intro j hj h;rcases jv j k with h1|h1
     ·exact HA.out j hj h1
     obtain rfl:j=k:=Y;exact hc
    have HA2:=Lib.hid aJ8;have HC:=Lib.hid hc;clear aJ8 hc
    go_wp2_with (first|(go_at_call 81;((with_reducible refine (nD _ _).mono ?_);rintro e w' ⟨rfl,rfl⟩))|(go_at_call 82;((with_reducible refine (nn _ _).mono ?_);rintro e w' ⟨rfl,rfl⟩)))
    all_goals first
     |(go_round;(case rel=>exact ⟨k+1,kw,Y,HA2.out⟩);(case measure=>simp [intOf];omega))
     |(exfalso;have h:=HC.out;simp [m3] at h;simp_all;done)
     |(exfalso;have h:=HC.out;simp [m3] at h;simp_all;omega)
   |false=>
    have hb:=XZ s k hlt hc;have HB:=Lib.hid hb;have HC:=Lib.hid hc;clear hb hc
    go_wp2_with (first|(go_at_call 81;((with_reducible refine (nD _ _).mono ?_);rintro e w' ⟨rfl,rfl⟩))|(go_at_call 82;((with_reducible refine (nn _ _).mono ?_);rintro e w' ⟨rfl,rfl⟩)))
    all_goals first
     |(go_ret;exact ⟨by rw [HB.out];rfl,Below.refl _ _⟩)
     |(exfalso;have h:=HC.out;simp [m3] at h;simp_all;done)
     |(exfalso;have h:=HC.out;simp [m3] at h;simp_all;omega)
  ·have hnm:=Tq s (λj hj=>HA.out j hj Y);have HN:=Lib.hid hnm;clear hnm
   go_wp2_with (go_at_call 83;((with_reducible refine (Ej _ _).mono ?_);rintro e w1 ⟨rfl,hb⟩))
   all_goals
    go_ret
    refine ⟨qg ?_,by first|exact hb|exact Below.refl _ _⟩;rw [HN.out];simp_all
    try omega
end
section
mutual
def aS.nodes:aS -> Nat
 |.mk _ _ _ args=>1+d2 args
def d2:List aS -> Nat
 |[]=>0
 |e::es=>1+e.nodes+d2 es
end
def qV:∀(l:List aS)(k:Nat)(h:k<l.length),l[k].nodes<d2 l
 |[],k,h=>rh
 |e::es,0,h=>by rw [d2];simp;omega
 |e::es,k+1,h=>by have:=qV es k i_;rw [d2];simp;omega
def BC:∀(l:List aS),l.length <= d2 l
 |[]=>aL
 |e::es=>by have:=BC es;rw [d2];simp;omega
end
section
open Go.RowKit
def uI(x:aH)(h:x.size <= 4611686018427387904)(s:aJ):aU prog 72 [cK x] [] s λr s'=>r=bC (cG x) /\ s'=s:=
 G9 (us:=[.string x]) rfl rfl (λw=>T_ x w h) s
def yc(op:Int)(s:aJ):aU prog 158 [an op] [] s λr s'=>r=an (dN op:Int) /\ s'=s:=
 G9 (us:=[.int .i64 op]) rfl rfl (λw=>Tk op w) s
def LE(e:aS)(k:Nat)(hk:k<e.args.length)(s:aJ):aU prog 159 [.agg (bo e),ae k] [] s λt s'=>t=bC (kA e.op k e.args[k].op) /\ s'=s:=by
 obtain ⟨bx,rw⟩:=s;refine bR 29 func159 ?_;refine go 7 λb1=>?_;refine cB [b1] (aa [0,1,2] 9 (go 4 ?_));refine ac 3 J (bf bc bo e.args g_ fv k J J J J Y V jY dw) (aa [4,5,7,8] 4 (go 5 ?_));refine aW 6 J J (da J J V call158 J (yc (e.args[k].op) _) ?_);rintro _ _ ⟨rfl,rfl⟩;refine aW 9 J J (da J J V call158 J (yc e.op _) ?_);rintro _ _ ⟨rfl,rfl⟩;refine aa [10,11] 0 (go 3 ?_);refine bH (go 5 ?_);by_cases h3:((dN (e.args[k].op):Nat):Int)<(dN e.op:Int);focus
  refine aI J (c_ h3) (go 13 ?_)
 rotate_left;focus
  refine aG J (cv h3) (go 3 ?_);by_cases h4:((dN (e.args[k].op):Nat):Int)=(dN e.op:Int);focus
   refine aI J (bU h4) (go 2 ?_);by_cases h5:(k:Int)=1;focus
    refine aI J (bU h5) (go 6 ?_)
   rotate_left;refine aG J (bO h5) (go 6 ?_)
  rotate_left 2;refine aG J (bO h4) (go 9 ?_)
 all_goals
  exact az (s':=⟨bx,rw⟩) J cT ⟨bZ M5,J⟩
def Ou(b:Int):∀(l:List aS)(j:Nat)(x:aS),jH b j (l++[x])=max (jH b j l) (iJ x+if kA b (j+l.length) x.op then 1 else 0)
 |[],j,x=>by simp [jH]
 |y::l,j,x=>by
  rw [eA,jH,Ou b l (j+1) x,jH,Nat.max_assoc];have:j+1+l.length=j+(y::l).length:=dh;rw [this]
def BQ(b:Int)(l:List aS)(k:Nat)(h:k<l.length):jH b 0 (l.take (k+1))=max (jH b 0 (l.take k)) (iJ l[k]+if kA b k l[k].op then 1 else 0):=by
 rw [gz h,Ou,ke,ss Y,cp]
def Ad(N:Nat):∀(e:aS),e.nodes <= N -> iJ e+1 <= 2*e.nodes:=by
 induction N with
 |zero=>intro e h;cases e;rw [aS.nodes] at h;omega
 |succ N ih=>
  rintro ⟨op,num,name,args⟩ h;rw [aS.nodes] at h;have key:∀(l:List aS)(k:Nat),d2 l <= N -> jH op k l <= 2*d2 l:=by
   intro l;induction l with
   |nil=>intro k _;rw [jH];omega
   |cons e es ih2=>
    intro k hl;rw [d2] at hl⊢;rw [jH];have h1:=ih e Y;have h2:=ih2 (k+1) Y;split<;>omega
  have:=key args 0 Y;rw [iJ,aS.nodes];split<;>omega
def F4(e:aS)(k:Nat)(h:k<e.args.length):e.args[k].nodes<e.nodes:=by
 cases e with
 |mk op num name args=>have:=qV args k h;rw [aS.nodes];show args[k].nodes<_;omega
def sJ(e:aS):e.args.length<e.nodes:=by
 cases e with
 |mk op num name args=>have:=BC args;rw [aS.nodes];show args.length<_;omega
def AM(e:aS):iJ e=jH e.op 0 e.args+if dN e.op=5 then 1 else 0:=by cases e;rw [iJ];rfl
def Yd(e:aS)(hN:e.nodes <= 1000000000)(ih:∀k (h:k<e.args.length) (s:aJ),aU prog 133 [.agg (bo e.args[k])] [] s λr s'=>r=an ((iJ e.args[k]:Nat):Int) /\ s'=s)(s:aJ):aU prog 133 [.agg (bo e)] [] s λt s'=>t=an (iJ e:Int) /\ s'=s:=by
 obtain ⟨bx,rw⟩:=s;have hlen:=sJ e;refine bR 34 func133 ?_;refine go 18 λb1=>?_;refine qk (e.args.length) 4 (λk=>[(3,an ((jH e.op 0 (e.args.take (k)):Nat):Int)),(1,aF b1)]) (ax J) λk hk=>?_;show br prog _ ⟨34,_,_,(4,ae k)::[(3,an ((jH e.op 0 (e.args.take (k)):Nat):Int)),(1,aF b1)]⟩ _;refine go 7 ?_;by_cases h1:(k:Int)<(e.args.length:Int)
 ·refine aI J (c_ h1) (go 12 ?_);refine aD J (bf bc bo e.args g_ fv k J J J J Y V jY dw) (go 1 ?_);refine cc J call133 J (ih k Y _) ?_;rintro _ _ ⟨rfl,rfl⟩;refine go 6 ?_;have hle:=Ad _ e.args[k] (bX _);have hnk:=F4 e k Y;refine go 2 ?_;refine cc J call159 J (LE e k Y _) ?_;rintro _ _ ⟨hr4,rfl⟩;rcases bw (kA e.op k e.args[k].op) with h5|h5;focus
   rw [h5] at hr4;subst hr4;refine go 5 ?_;refine bP J (go 6 ?_)
  rotate_left;rw [h5] at hr4;subst hr4;refine go 8 ?_;all_goals
   have hmx:=BQ e.op e.args k Y;refine aD J (H8 _ J J J J) (go 6 ?_);refine bP J (go 2 ?_);exact ⟨Y,(ay J (cD Y) (ay J (cD (by rw [BQ _ _ _ Y,h5];simp only [if_true,mz,if_false];omega)) (ax J)))⟩
 refine aG J (cv h1) (go 11 ?_);have hle0:=Ad _ e (bX _);have hq:=AM e;obtain rfl:k=e.args.length:=Y;rw [take_of_length_le (bX _)];refine go 2 ?_;refine cc J call158 J (yc e.op _) ?_;rintro _ _ ⟨rfl,rfl⟩;by_cases h10:(dN e.op:Int)=5
 ·refine aI J (bU h10) (go 5 ?_);refine bP J (go 10 ?_);exact az (s':=⟨bx,rw⟩) J cT ⟨fa Jp,J⟩
 refine aG J (bO h10) (go 12 ?_);exact az (s':=⟨bx,rw⟩) J cT ⟨fa PQ,J⟩
def Lo:∀(N:Nat)(e:aS),e.nodes <= N -> N <= 1000000000 -> ∀s:aJ,aU prog 133 [.agg (bo e)] [] s λr s'=>r=an (iJ e:Int) /\ s'=s
 |0,e,h,_=>rq
 |N+1,e,h,hN=>Yd e Y λk hk s=>Lo N e.args[k] q6 Y s
def rL(e:aS):dv e=((if dN e.op=6 then lh e.op e.num e.name else decide (e.num=0) && decide (e.name=a_)) && decide (e.args.length=arity e.op) && fO e.args):=by cases e;rw [dv];rfl
def HU:∀(l:List aS)(k:Nat)(h:k<l.length),fO (l.take (k+1))=(fO (l.take k) && dv l[k])
 |e::es,0,_=>by simp [fO]
 |e::es,k+1,h=>by
  rw [jW,jW,fO,fO,HU es k i_,Bool.and_assoc]
  rfl
def zr:∀(l:List aS)(k:Nat)(h:k<l.length),dv l[k]=false -> fO l=false
 |e::es,0,_,hs=>by rw [fO];simp only [FW] at hs;rw [hs];rfl
 |e::es,k+1,h,hs=>by rw [fO,zr es k i_ (by simpa using hs),rR]
def Yo(e:aS)(hsz:e.name.size <= 4611686018427387904)(hN:e.nodes <= 1000000000)(ih:∀k (h:k<e.args.length) (s:aJ),aU prog 132 [.agg (bo e.args[k])] [] s λr s'=>r=bC (dv e.args[k]) /\ s'=s)(s:aJ):aU prog 132 [.agg (bo e)] [] s λt s'=>t=bC (dv e) /\ s'=s:=by
 obtain ⟨bx,rw⟩:=s;have hlen:=sJ e;refine bR 77 func132 ?_;refine go 16 λb1=>?_;refine cc J call158 J (yc e.op _) ?_;rintro _ _ ⟨rfl,rfl⟩;refine go 5 ?_;by_cases h2:(dN e.op:Int)=6;focus
  refine aI J (bU h2) (go 10 ?_);refine cB [b1] (aa [0,1] 26 (go 3 ?_));by_cases h4:e.op=1;focus
   refine ac 2 J (fC true J J J (bU h4)) (aa [3,4,5] 22 (go 4 ?_));by_cases h5:(0:Int) <= e.num;focus
    refine ac 6 J (fC true J J J (nB h5)) (aa [7,8,9,10] 17 (go 5 ?_));by_cases h6:e.name=a_;focus
     refine ac 11 J (fc true J J J (pF h6)) (aa [12,13,14] 13 (go 4 ?_));refine ac 15 J (fC false J J J (bO Y)) (aa [16,17,18,19,20,21,22,23,24,25,26,27] 0 (go 13 ?_));refine bH (go 22 ?_);by_cases h8:(e.args.length:Int)=0
     ·refine aG J (fF h8) (go 2 ?_);refine aG J jz (go 23 ?_);refine jr (λk=>fO (e.args.take k)=true) (e.args.length) 6 (λk=>[(1,aF b1),(3,an 0)]) J (ax J) λk hk hvk=>?_;replace hvk:fO (e.args.take k)=true:=hvk
      try dsimp only
      refine go 5 ?_;refine aG J (cv Y) (go 14 ?_);exact az (s':=⟨bx,rw⟩) J cT ⟨bZ Au,J⟩
     refine aI J (fl h8) (go 24 ?_)
    rotate_left;refine ac 11 J (fc false J J J (od h6)) (aa [12,13,14] 13 (go 4 ?_));refine ac 15 J (fC false J J J (bO Y)) (aa [16,17,18,19,20,21,22,23,24,25,26,27] 0 (go 13 ?_));refine bH (go 20 ?_)
   rotate_left 2;refine ac 6 J (fC false J J J (oQ h5)) (aa [7,8,9,10,11,12,13,14] 13 (go 9 ?_));refine ac 15 J (fC false J J J (bO Y)) (aa [16,17,18,19,20,21,22,23,24,25,26,27] 0 (go 13 ?_));refine bH (go 20 ?_)
  rotate_left 3;focus
   refine ac 2 J (fC false J J J (bO h4)) (aa [3,4,5,6,7,8,9,10,11,12,13,14] 13 (go 13 ?_));by_cases n6:e.op=2;focus
    refine ac 15 J (fC true J J J (bU n6)) (aa [16,17,18] 9 (go 4 ?_));by_cases rd:e.num=0;focus
     refine ac 19 J (fC true J J J (bU rd)) (aa [20,21,22,23] 4 (go 5 ?_));refine aW 24 J J (da J J V call72 J (uI e.name (by first|assumption|exact hsz) _) ?_);rintro _ _ ⟨RT,rfl⟩;rcases bw (cG e.name) with rx|rx;focus
      rw [rx] at RT;subst RT;refine aa [25,26,27] 0 (go 4 ?_);refine bH (go 22 ?_);by_cases h19:(e.args.length:Int)=0
      ·refine aG J (fF h19) (go 2 ?_);refine aG J jz (go 23 ?_);refine jr (λk=>fO (e.args.take k)=true) (e.args.length) 6 (λk=>[(1,aF b1),(3,an 0)]) J (ax J) λk hk hvk=>?_;replace hvk:fO (e.args.take k)=true:=hvk
       try dsimp only
       refine go 5 ?_;refine aG J (cv Y) (go 14 ?_);exact az (s':=⟨bx,rw⟩) J cT ⟨bZ Au,J⟩
      refine aI J (fl h19) (go 24 ?_)
     rotate_left;rw [rx] at RT;subst RT;refine aa [25,26,27] 0 (go 4 ?_);refine bH (go 20 ?_)
    rotate_left 2;refine ac 19 J (fC false J J J (bO rd)) (aa [20,21,22,23,24,25,26,27] 0 (go 9 ?_));refine bH (go 20 ?_)
   rotate_left 3;refine ac 15 J (fC false J J J (bO n6)) (aa [16,17,18,19,20,21,22,23,24,25,26,27] 0 (go 13 ?_));refine bH (go 20 ?_)
 rotate_left 7;focus
  refine aG J (bO h2) (go 6 ?_);by_cases h27:(dN e.op:Int)=5;focus
   refine aI J (bU h27) (go 16 ?_);by_cases LT:(e.args.length:Int)=1;focus
    refine aG J (fF LT) (go 2 ?_);refine aI J J (go 3 ?_);by_cases DA:e.num=0;focus
     refine aG J (fF DA) (go 3 ?_);by_cases h31:e.name=a_
     ·refine aD J (fc false J J J (CJ h31)) (go 15 ?_);refine jr (λk=>fO (e.args.take k)=true) (e.args.length) 6 (λk=>[(1,aF b1),(3,an 1)]) J (ax J) λk hk hvk=>?_;replace hvk:fO (e.args.take k)=true:=hvk
      try dsimp only
      refine go 5 ?_;by_cases If:(k:Int)<1
      ·refine aI J (c_ If) (go 12 ?_);refine aD J (bf bc bo e.args g_ fv k J J J J Y V jY dw) (go 1 ?_);refine cc J call132 J (ih k Y _) ?_;rintro _ _ ⟨L7,rfl⟩;rcases bw (dv e.args[k]) with h36|h36
       ·rw [h36] at L7;subst L7;refine go 9 ?_;refine bP J (go 2 ?_);exact ⟨Y,(by rw [HU _ _ Y,hvk,h36];rfl),(ay J (cD Y) (ax J))⟩
       rw [h36] at L7;subst L7;refine go 15 ?_;exact az (s':=⟨bx,rw⟩) J cT ⟨bZ (by rw [rL,zr _ _ _ h36,rR]),J⟩
      refine aG J (cv If) (go 14 ?_);exact az (s':=⟨bx,rw⟩) J cT ⟨bZ Au,J⟩
     refine aD J (fc true J J J (C7 h31)) (go 13 ?_)
    rotate_left;refine aI J (fl DA) (go 17 ?_)
   rotate_left 2;refine aI J (fl LT) (go 24 ?_)
  rotate_left 3;focus
   refine aG J (bO h27) (go 14 ?_);by_cases h44:(e.args.length:Int)=2;focus
    refine aG J (fF h44) (go 2 ?_);refine aI J J (go 3 ?_);by_cases h45:e.num=0;focus
     refine aG J (fF h45) (go 3 ?_);by_cases h46:e.name=a_
     ·refine aD J (fc false J J J (CJ h46)) (go 15 ?_);refine jr (λk=>fO (e.args.take k)=true) (e.args.length) 6 (λk=>[(1,aF b1),(3,an 2)]) J (ax J) λk hk hvk=>?_;replace hvk:fO (e.args.take k)=true:=hvk
      try dsimp only
      refine go 5 ?_;by_cases h48:(k:Int)<2
      ·refine aI J (c_ h48) (go 12 ?_);refine aD J (bf bc bo e.args g_ fv k J J J J Y V jY dw) (go 1 ?_);refine cc J call132 J (ih k Y _) ?_;rintro _ _ ⟨BT,rfl⟩;rcases bw (dv e.args[k]) with h51|h51
       ·rw [h51] at BT;subst BT;refine go 9 ?_;refine bP J (go 2 ?_);exact ⟨Y,(by rw [HU _ _ Y,hvk,h51];rfl),(ay J (cD Y) (ax J))⟩
       rw [h51] at BT;subst BT;refine go 15 ?_;exact az (s':=⟨bx,rw⟩) J cT ⟨bZ (by rw [rL,zr _ _ _ h51,rR]),J⟩
      refine aG J (cv h48) (go 14 ?_);exact az (s':=⟨bx,rw⟩) J cT ⟨bZ Au,J⟩
     refine aD J (fc true J J J (C7 h46)) (go 13 ?_)
    rotate_left;refine aI J (fl h45) (go 17 ?_)
   rotate_left 2;refine aI J (fl h44) (go 24 ?_)
 all_goals
  exact az (s':=⟨bx,rw⟩) J cT ⟨bZ (by rw [rL];unfold lh arity;(repeat' split)<;>first|omega|(simp_all;done)|(simp_all;omega)),rfl⟩
end
section
def cL.small(N:Nat)(r:cL):Prop:=r.index.length <= 1 /\ ∀x,x∈r.index -> x.nodes <= N
def cI.small(N:Nat)(a:cI):Prop:=a.ref.small N /\ a.expr.nodes <= N
mutual
def aE.small(N:Nat):aE -> Prop
 |.mk _ _ e r a t f=>e.nodes <= N /\ r.small N /\ a.length <= N /\ (∀x,x∈a -> x.small N) /\ t.length <= N /\ smalls N t /\ f.length <= N /\ smalls N f
def smalls(N:Nat):List aE -> Prop
 |[]=>True
 |s::r=>s.small N /\ smalls N r
end
def bB.small(N:Nat)(f:bB):Prop:=f.params.length <= N /\ f.body.length <= N /\ smalls N f.body
def aY.small(N:Nat)(p:aY):Prop:=p.globals.length <= N /\ p.mutexes.length <= N /\ p.funcs.length <= N /\ ∀f,f∈p.funcs -> f.small N
end
section
open Go.RowKit
abbrev nU(l:List ByteArray):aO:=.sl l.length (l.map λs=>ah s)
abbrev nQ(l:List Int):aO:=.sl l.length (l.map λn=>aA n)
def RI(s:aJ):aU prog 140 [ae 0] [] s λt s'=>t=.fd [.c (nU (eQ 0)),.c (nQ (d5 0))] /\ s'=s:=by
 obtain ⟨bx,rw⟩:=s;refine bR 23 func140 ?_;refine go 15 ?_;refine aI J jz (go 6 ?_);refine aX J (bV io ?_);refine aX J (bV qA ?_);refine go 7 ?_;exact ⟨.inr J,_,⟨bx,rw⟩,iu J (bN J) (bN J),ai (.refl _) (.refl _),J,J⟩
def XI(s:aJ):aU prog 140 [ae 1] [] s λt s'=>t=.fd [.c (nU (eQ 1)),.c (nQ (d5 1))] /\ s'=s:=by
 obtain ⟨bx,rw⟩:=s;refine bR 23 func140 ?_;refine go 15 ?_;refine aG J J (go 6 ?_);refine aI J jz (go 6 ?_);refine aX J (bV io ?_);refine aX J (bV qA ?_);refine go 7 ?_;exact ⟨.inr J,_,⟨bx,rw⟩,iu J (bN J) (bN J),ai (.refl _) (.refl _),J,J⟩
def YI(s:aJ):aU prog 140 [ae 2] [] s λt s'=>t=.fd [.c (nU (eQ 2)),.c (nQ (d5 2))] /\ s'=s:=by
 obtain ⟨bx,rw⟩:=s;refine bR 23 func140 ?_;refine go 15 ?_;refine aG J J (go 6 ?_);refine aG J J (go 6 ?_);refine aI J jz (go 6 ?_);refine aX J (tD Tryz.t9 [ah ⟨#[]⟩,ah ⟨#[]⟩,ah ⟨#[]⟩,ah ⟨#[]⟩,ah ⟨#[]⟩,ah ⟨#[]⟩] J J V (.cons J (.cons J (.cons J (.cons J (.cons J (.cons J .nil)))))) o0 aQ J V V aQ aQ J ?_);refine aX J (tD Tryz.t3 [aA 0,aA 0,aA 0,aA 0,aA 0,aA 0] J J V (.cons J (.cons J (.cons J (.cons J (.cons J (.cons J .nil)))))) ta aQ J V V aQ aQ J ?_);refine go 7 ?_;exact ⟨.inr J,_,⟨bx,rw⟩,iu J (bN J) (bN J),ai (.refl _) (.refl _),J,J⟩
def Xs(s:aJ):aU prog 140 [ae 3] [] s λt s'=>t=.fd [.c (nU (eQ 3)),.c (nQ (d5 3))] /\ s'=s:=by
 obtain ⟨bx,rw⟩:=s;refine bR 23 func140 ?_;refine go 15 ?_;refine aG J J (go 6 ?_);refine aG J J (go 6 ?_);refine aG J J (go 6 ?_);refine aI J jz (go 6 ?_);refine aX J (bV (hps:=(.cons J (.cons J .nil))) D4 ?_);refine aX J (tD Tryz.t3 [aA 0,aA 0] J J V (.cons J (.cons J .nil)) ta aQ J V V aQ aQ J ?_);refine go 7 ?_;exact ⟨.inr J,_,⟨bx,rw⟩,iu J (bN J) (bN J),ai (.refl _) (.refl _),J,J⟩
def XT(s:aJ):aU prog 140 [ae 4] [] s λt s'=>t=.fd [.c (nU (eQ 4)),.c (nQ (d5 4))] /\ s'=s:=by
 obtain ⟨bx,rw⟩:=s;refine bR 23 func140 ?_;refine go 15 ?_;refine aG J J (go 6 ?_);refine aG J J (go 6 ?_);refine aG J J (go 6 ?_);refine aG J J (go 9 ?_);refine aX J (bV (hps:=(.cons J (.cons J (.cons J .nil)))) tl ?_);refine aX J (tD Tryz.t3 [aA 0,aA 0,aA 0] J J V (.cons J (.cons J (.cons J .nil))) ta aQ J V V aQ aQ J ?_);refine go 5 ?_;exact ⟨.inr J,_,⟨bx,rw⟩,iu J (bN J) (bN J),ai (.refl _) (.refl _),J,J⟩
def I_(lv:Nat)(h:lv<5)(s:aJ):aU prog 140 [an (lv:Int)] [] s λt s'=>t=.fd [.c (nU (eQ lv)),.c (nQ (d5 lv))] /\ s'=s:=by
 rcases (show lv=0∨lv=1∨lv=2∨lv=3∨lv=4 by omega) with rfl|rfl|rfl|rfl|rfl
 ·exact RI s
 ·exact XI s
 ·exact YI s
 ·exact Xs s
 exact XT s
end
section
def p8(n:Nat)(l:List UInt8):Nat:=l.foldl (λn c=>10*n+(c.toNat-48)) n
def K_(n:Nat):p8 n []=n:=rfl
def Fb(n:Nat)(c:UInt8)(r:List UInt8):p8 n (c::r)=p8 (10*n+(c.toNat-48)) r:=by unfold p8;rw [t2]
def Q9(l:List UInt8)(c:UInt8)(n:Nat):p8 n (l++[c])=10*p8 n l+(c.toNat-48):=by
 unfold p8;rw [B1];rfl
def Lv(k:Nat):dR (UInt8.ofNat (48+k%10))=true:=by
 have hc:(UInt8.ofNat (48+k%10)).toNat=48+k%10:=C6;simp only [dR,decide_eq_true_eq,hc];omega
def WM(l:List UInt8):∀n,n <= p8 n l:=by
 induction l with
 |nil=>intro n;exact bX _
 |cons c r ih=>intro n;have:=ih (10*n+(c.toNat-48));rw [Fb];omega
def TD(l:List UInt8)(h:∀c∈l,dR c=true):∀n,n <= 9223372036854775807 -> fQ n l=if p8 n l <= 9223372036854775807 then some (p8 n l) else none:=by
 induction l with
 |nil=>intro n hn;rw [fQ,K_,if_pos hn]
 |cons c r ih=>
  intro n hn;have hc:=h c (me ..);simp only [dR,decide_eq_true_eq] at hc;rw [fQ,Fb];by_cases ho:(9223372036854775807-(c.toNat-48))/10<n
  ·rw [if_pos ho];have:=WM r (10*n+(c.toNat-48));rw [if_neg Y]
  rw [if_neg ho,ih (λd hd=>h d (eG _ hd)) _ Y]
def So(c:UInt8)(h:dR c=true):gC c=false /\ isSp c=false /\ c≠47:=by
 simp only [dR,decide_eq_true_eq] at h;refine ⟨?_,?_,?_⟩
 ·simp only [gC,decide_eq_false_iff_not];omega
 ·simp only [isSp,decide_eq_false_iff_not];omega
 rintro rfl;revert h;decide
end
section
structure eP where
 kind:Nat
 text:ByteArray
 num:Nat
def Tok.pt(t:Tok):eP:=⟨t.kind,t.text,t.num⟩
def ez(s:List UInt8):eP:=⟨4,bytes s,0⟩
def mU(s:List UInt8):eP:=⟨3,bytes s,0⟩
inductive ew:List UInt8 -> List eP -> Prop where
 |nil {s:List UInt8} (h:js s=[]):ew s []
 |cons {s r:List UInt8} {kind len num:Nat} {ps:List eP} (h:js s=r) (h0:r≠[]) (hn:eC r=.tok kind len num) (ht:ew (r.drop len) ps):ew s (⟨kind,bytes (r.take len),num⟩::ps)
def ew.same{s s':List UInt8}{ps:List eP}(h:ew s ps)(he:js s'=js s):ew s' ps:=by
 cases h with
 |nil h=>exact .nil (he.trans h)
 |cons h h0 hn ht=>exact .cons (he.trans h) h0 hn ht
def ew.sp{c:UInt8}{r:List UInt8}{ps:List eP}(h:ew r ps)(hc:isSp c=true):ew (c::r) ps:=h.same (HH hc)
def ew.bl{r:List UInt8}{ps:List eP}(h:ew r ps):ew (32::r) ps:=h.sp V
def ew.end:ew [] []:=.nil Er
def zU(r:List UInt8):Prop:=∀c,r.head?=some c -> dU c=false
def PD{p:UInt8 -> Bool}{l r:List UInt8}(h:∀c∈l,p c=true)(hr:∀c,r.head?=some c -> p c=false):(l++r).takeWhile p=l:=by
 induction l with
 |nil=>
  cases r with
  |nil=>rfl
  |cons c r=>rw [cg,List.takeWhile_cons_of_neg];rw [hr c rfl];simp
 |cons c l ih=>rw [eA,su (h c (me ..)),ih λd hd=>h d (eG _ hd)]
def LJ{c:UInt8}(h:gC c=true):isSp c=false /\ c≠47:=by
 simp only [gC,decide_eq_true_eq] at h;refine ⟨?_,?_⟩
 ·simp only [isSp,decide_eq_false_iff_not];omega
 rintro rfl;revert h;decide
def ew.letters{s r:List UInt8}{ps:List eP}(h:ew r ps)(c:UInt8)(q:List UInt8)(hs:s=c::q)(hc:gC c=true)(hq:∀d∈q,dU d=true)(hl:s.length <= 16)(hr:zU r):ew (s++r) (⟨if fP (bytes s) then 3 else 1,bytes s,0⟩::ps):=by
 subst hs;have ht:((c::q)++r).takeWhile dU=c::q:=PD (λd hd=>by
  rcases mem_cons.1 hd with rfl|hd
  ·simp [dU,hc]
  exact hq d hd) hr
 have hn:eC ((c::q)++r)=.tok (if fP (bytes (c::q)) then 3 else 1) (c::q).length 0:=by
  rw [eA] at ht⊢;rw [vO hc,ht,if_neg Y]
 have:=ew.cons (s:=(c::q)++r) (r:=(c::q)++r) (yO (r:=q++r) (LJ hc).1 (λh=>(LJ hc).2 h.1)) aL hn (ps:=ps) (by rw [List.drop_left];exact h);rw [List.take_left] at this;exact this
def U4(s:aH):bytes s.data.toList=s:=uU
def ew.name{r:List UInt8}{ps:List eP}(h:ew r ps)(s:aH)(hs:cG s=true)(hr:zU r):ew (s.data.toList++r) (⟨1,s,0⟩::ps):=by
 unfold cG at hs;split at hs
 ·cases hs
 rename_i c q he;simp only [di,e0,decide_eq_true_eq,yo] at hs;obtain ⟨⟨⟨h1,h2⟩,h3⟩,h4⟩:=hs;have:=h.letters (s:=s.data.toList) c q he h1 h2 (by exact h3) hr;rw [U4,h4] at this;exact this
def Ui(n:Nat):∀c∈dF n,dR c=true:=by
 induction n using dF.induct with
 |case1 n h=>
  rw [dF,if_pos h];intro c hc;simp only [jK] at hc;subst hc;have:=Lv n
  rwa [Nat.mod_eq_of_lt h] at this
 |case2 n h ih=>
  rw [dF,if_neg h];intro c hc;rcases mem_append.1 hc with hc|hc
  ·exact ih c hc
  simp only [jK] at hc;subst hc;exact Lv n
def Qu(n:Nat):dF n≠[]:=by rw [dF];split<;>simp
def Wu(n:Nat):p8 0 (dF n)=n:=by
 induction n using dF.induct with
 |case1 n h=>
  have hc:(UInt8.ofNat (48+n)).toNat=48+n:=C6;rw [dF,if_pos h,Fb,K_,hc];omega
 |case2 n h ih=>
  have hc:(UInt8.ofNat (48+n%10)).toNat=48+n%10:=C6;rw [dF,if_neg h,Q9,ih,hc];omega
def ew.num{r:List UInt8}{ps:List eP}(h:ew r ps)(n:Nat)(hn:n <= 9223372036854775807)(hr:zU r):ew (dF n++r) (⟨2,bytes (dF n),n⟩::ps):=by
 obtain ⟨c,q,he⟩:=C2 (Qu n);have hd:=Ui n;have hv:=TD (dF n) hd 0 Y;rw [Wu,if_pos hn] at hv;have ht:(dF n++r).takeWhile dR=dF n:=PD hd λc hc=>by
  have:=hr c hc;unfold dU at this;simp only [Bool.or_eq_false_iff] at this;exact this.2
 have hc:=hd c (by rw [he];exact me ..);have hx:=So c hc;have hnx:eC (dF n++r)=.tok 2 (dF n).length n:=by
  rw [he,eA] at ht⊢;rw [xA hx.1 hc (n:=n) (by rw [ht,←he];exact hv),ht]
 have:=ew.cons (s:=dF n++r) (r:=dF n++r) (by rw [he];exact yO (r:=q++r) hx.2.1 (λh=>hx.2.2 h.1)) (by rw [he];simp) hnx (ps:=ps) (by rw [List.drop_left];exact h);rw [List.take_left] at this;exact this
def Vn:∀c,c∈j' -> gC c=false /\ dR c=false /\ isSp c=false:=V
def ew.one{r:List UInt8}{ps:List eP}(h:ew r ps)(c:UInt8)(hc:c∈j')(hr:∀d,r.head?=some d -> [c,d]∉kU /\ ¬(c=47 /\ d=47)):ew (c::r) (ez [c]::ps):=by
 obtain ⟨h1,h2,h3⟩:=Vn c hc;have hno:¬(2 <= (c::r).length /\ (c::r).take 2∈kU):=by
  rintro ⟨h4,h5⟩;cases r with
  |nil=>simp at h4
  |cons d r=>exact (hr d rfl).1 h5
 have hn:eC (c::r)=.tok 4 1 0:=by rw [uh h1 h2,Ei hno hc];rfl
 exact ew.cons (yO h3 (λ⟨h4,h5⟩=>(hr 47 h5).2 ⟨h4,J⟩)) aL hn h
def Ym:∀x,x∈kU -> gC (x.headD 0)=false /\ dR (x.headD 0)=false /\ isSp (x.headD 0)=false /\ x.headD 0≠47:=V
def ew.two{r:List UInt8}{ps:List eP}(h:ew r ps)(c d:UInt8)(hc:[c,d]∈kU):ew (c::d::r) (ez [c,d]::ps):=by
 obtain ⟨h1,h2,h3,h4⟩:=Ym _ hc;have hn:eC (c::d::r)=.tok 4 2 0:=by rw [uh (c:=c) h1 h2,G_ (l:=c::d::r) aL hc];rfl
 exact ew.cons (yO h3 (λh5=>h4 h5.1)) aL hn h
def Fin(r:List UInt8):Prop:=∀c,r.head?=some c -> c∈([32,41,93,59,44]:List UInt8)
def Fin.cons{c:UInt8}{r:List UInt8}(h:c∈([32,41,93,59,44]:List UInt8)):Fin (c::r):=λd hd=>by cases hd;exact h
def Fin.nil:Fin []:=λc hc=>by cases hc
def zU.cons{c:UInt8}{r:List UInt8}(h:dU c=false):zU (c::r):=λd hd=>by cases hd;exact h
def Yn:∀c,c∈([40,41,123,125,91,93,44,59,43,45,42,37]:List UInt8) -> c∈j' /\ c≠47 /\ ∀x,x∈kU -> x.headD 0≠c:=V
def ew.free{r:List UInt8}{ps:List eP}(h:ew r ps)(c:UInt8)(hc:c∈([40,41,123,125,91,93,44,59,43,45,42,37]:List UInt8)):ew (c::r) (ez [c]::ps):=by
 obtain ⟨h1,h2,h3⟩:=Yn c hc;exact h.one c h1 λd _=>⟨λhm=>h3 _ hm J,λh4=>h2 h4.1⟩
end
section
inductive nI:aS -> Prop where
 |num (n:Nat) (h:n <= 9223372036854775807):nI (.mk 1 n a_ [])
 |name (s:ByteArray) (h:cG s=true):nI (.mk 2 0 s [])
 |un (op:Int) (x:aS) (h:op=3∨op=4) (hx:nI x):nI (.mk op 0 a_ [x])
 |bin (op:Int) (x y:aS) (h:5 <= op /\ op <= 17) (hx:nI x) (hy:nI y):nI (.mk op 0 a_ [x,y])
def tR(b:Bool)(t:List eP):List eP:=if b then ez [40]::(t++[ez [41]]) else t
def Pp(op num:Int)(name:ByteArray)(ts:List (List eP)):List eP:=
 if op=1 then [⟨2,bytes (dF num.natAbs),num.natAbs⟩] else if op=2 then [⟨1,name,0⟩] else if op=3 then ez [45]::ts.getD 0 [] else if op=4 then ez [33]::ts.getD 0 [] else
 ts.getD 0 []++ez (oF op)::ts.getD 1 []
mutual
def eh:aS -> List eP
 |.mk op num name args=>Pp op num name (rQ op 0 args)
def rQ(b:Int):Nat -> List aS -> List (List eP)
 |_,[]=>[]
 |k,e::es=>tR (kA b k e.op) (eh e)::rQ b (k+1) es
end
def Nf(n:Nat):eh (.mk 1 n a_ [])=[⟨2,bytes (dF n),n⟩]:=by rw [eh,rQ];rfl
def JG(s:aH):eh (.mk 2 0 s [])=[⟨1,s,0⟩]:=by rw [eh,rQ];rfl
def Kb{op:Int}(h:op=3∨op=4)(x:aS):eh (.mk op 0 a_ [x])=ez [if op=3 then 45 else 33]::tR (kA op 0 x.op) (eh x):=by
 rw [eh,rQ,rQ];rcases h with rfl|rfl<;>rfl
def Js{op:Int}(h:5 <= op /\ op <= 17)(x y:aS):eh (.mk op 0 a_ [x,y])=tR (kA op 0 x.op) (eh x)++ez (oF op)::tR (kA op 1 y.op) (eh y):=by
 rw [eh,rQ,rQ,rQ];unfold Pp;rw [if_neg Y,if_neg Y,if_neg Y,if_neg Y]
 rfl
def Ea(r:List UInt8):Prop:=∃c q,r=c::q /\ c≠61 /\ c≠38 /\ c≠124 /\ c≠47
def Ea.app{r:List UInt8}(h:Ea r)(s:List UInt8):Ea (r++s):=by
 obtain ⟨c,q,rfl,h1⟩:=h;exact ⟨c,q++s,J,h1⟩
def Seg(l:List Tok)(k:Nat)(ps:List eP):Prop:=ps <+:(l.map Tok.pt).drop k
def Seg.app{l:List Tok}{k:Nat}{a b:List eP}(h:Seg l k (a++b)):Seg l k a /\ Seg l (k+a.length) b:=by
 obtain ⟨t,ht⟩:=h;refine ⟨⟨b++t,by rw [←ht,append_assoc]⟩,⟨t,?_⟩⟩;rw [←List.drop_drop,←ht,append_assoc,List.drop_left]
def vQ(l:List Tok)(k m:Nat):Prop:=¬((dm l k).kind=4 /\ m <= (binOp (dm l k).text).2)
def vQ.mono{l:List Tok}{k m n:Nat}(h:vQ l k m)(hn:m <= n):vQ l k n:=λhh=>h ⟨hh.1,Y⟩
section
variable {l:List Tok}
structure Reads (l:List Tok) (e:aS):Prop where
 single:∀d k,iJ e <= d -> Seg l k (eh e) -> 5 <= dN e.op -> e_ l d k=.ok e (k+(eh e).length)
 bin:∀d k j,iJ e <= d -> Seg l k (eh e) -> j <= 5 -> 5 <= dN e.op+j -> vQ l (k+(eh e).length) (6-j) -> ig l (e_ l d) j k=.ok e (k+(eh e).length)
 chain:∀d k j,iJ e <= d -> Seg l k (eh e) -> j<5 -> 5 <= dN e.op+(j+1) -> vQ l (k+(eh e).length) (6-j) -> ∃a k0 m,ig l (e_ l d) j k=.ok a k0 /\ m <= (eh e).length /\ ∀n,jf l (ig l (e_ l d) j) (5-j) (m+n) a k0=jf l (ig l (e_ l d) j) (5-j) n e (k+(eh e).length)
theorem Reads.of{e:aS}(single:∀d k,iJ e <= d -> Seg l k (eh e) -> 5 <= dN e.op -> e_ l d k=.ok e (k+(eh e).length))
  (step:∀d k j,iJ e <= d -> Seg l k (eh e) -> j<5 -> dN e.op+j=4 -> vQ l (k+(eh e).length) (6-j) -> ∃a k0 m,ig l (e_ l d) j k=.ok a k0 /\ m <= (eh e).length /\ ∀n,jf l (ig l (e_ l d) j) (5-j) (m+n) a k0=jf l (ig l (e_ l d) j) (5-j) n e (k+(eh e).length)):Reads l e:=by
 have bin:∀j d k,iJ e <= d -> Seg l k (eh e) -> j <= 5 -> 5 <= dN e.op+j -> vQ l (k+(eh e).length) (6-j) -> ig l (e_ l d) j k=.ok e (k+(eh e).length):=by
  intro j;induction j with
  |zero=>intro d k hd hs _ h5 hf;exact single d k hd hs Y
  |succ j ih=>
   intro d k hd hs hj h5 hf;by_cases h6:5 <= dN e.op+j
   ·unfold ig;rw [ih d k hd hs Y h6 (hf.mono Y)];show jf l _ (5-j) (l.length+1) _ _=_;unfold jf;rw [if_neg];rintro ⟨h1,h2⟩;exact hf ⟨h1,Y⟩
   obtain ⟨a,k0,m,h1,h2,h3⟩:=step d k j hd hs Y Y (hf.mono Y);have hl:(eh e).length <= l.length:=by
    obtain ⟨t,ht⟩:=hs;have:=congrArg List.length ht;simp at this;omega
   unfold ig;rw [h1];show jf l _ (5-j) (l.length+1) _ _=_;have:=h3 (l.length-m+1);rw [show m+(l.length-m+1)=l.length+1 by omega] at this;rw [this];unfold jf;rw [if_neg];rintro ⟨h1,h2⟩;exact hf ⟨h1,Y⟩
 refine ⟨single,λd k j hd hs hj h5 hf=>bin j d k hd hs hj h5 hf,λd k j hd hs hj h5 hf=>?_⟩;by_cases h6:5 <= dN e.op+j
 ·exact ⟨e,_,0,bin j d k hd hs Y h6 hf,Y,λn=>by rw [cp]⟩
 exact step d k j hd hs hj Y hf
end
end
section
def ql(s:ByteArray):eP:=⟨1,s,0⟩
def FJ(n:Nat):eP:=⟨2,bytes (dF n),n⟩
def wO(e:aS):Prop:=nI e /\ iJ e <= 24
inductive zX:cL -> Prop where
 |one (n:ByteArray) (h:cG n=true):zX ⟨n,[]⟩
 |el (n:ByteArray) (e:aS) (h:cG n=true) (he:wO e):zX ⟨n,[e]⟩
inductive wQ:cI -> Prop where
 |mutex (r:cL) (h:zX r):wQ ⟨true,r,.zero⟩
 |expr (e:aS) (h:wO e):wQ ⟨false,.zero,e⟩
inductive iL:Nat -> List aE -> Prop where
 |nil {d:Nat}:iL d []
 |var {d:Nat} {n:ByteArray} {e:aS} {r:List aE} (hn:cG n=true) (he:wO e) (h:iL d r):iL d (.mk 1 n e .zero [] [] []::r)
 |assign {d:Nat} {n:ByteArray} {e:aS} {r:List aE} (hn:cG n=true) (he:wO e) (h:iL d r):iL d (.mk 2 n e .zero [] [] []::r)
 |call {d:Nat} {n:ByteArray} {a:List cI} {r:List aE} (hn:cG n=true) (ha:∀x,x∈a -> wQ x) (h:iL d r):iL d (.mk 3 n .zero .zero a [] []::r)
 |go {d:Nat} {n:ByteArray} {a:List cI} {r:List aE} (hn:cG n=true) (ha:∀x,x∈a -> wQ x) (h:iL d r):iL d (.mk 4 n .zero .zero a [] []::r)
 |lock {d:Nat} {f:cL} {r:List aE} (hf:zX f) (h:iL d r):iL d (.mk 5 a_ .zero f [] [] []::r)
 |unlock {d:Nat} {f:cL} {r:List aE} (hf:zX f) (h:iL d r):iL d (.mk 6 a_ .zero f [] [] []::r)
 |cond {d:Nat} {e:aS} {t f r:List aE} (he:wO e) (ht:iL d t) (hf:iL d f) (h:iL (d+1) r):iL (d+1) (.mk 7 a_ e .zero [] t f::r)
 |loop {d:Nat} {e:aS} {t r:List aE} (he:wO e) (ht:iL d t) (h:iL (d+1) r):iL (d+1) (.mk 8 a_ e .zero [] t []::r)
 |ret {d:Nat} {r:List aE} (h:iL d r):iL d (.mk 9 a_ .zero .zero [] [] []::r)
def tt(r:cL):List eP:=match r.index with|[]=>[ql r.name]|e::_=>ql r.name::ez [91]::(eh e++[ez [93]])
def wx(a:cI):List eP:=if a.mutex then mU [109,117,116,101,120]::tt a.ref else eh a.expr
def tZ{α:Type}(f:α -> List eP):List α -> List eP
 |[]=>[]
 |x::r=>f x++(r.map λy=>ez [44]::f y).flatten
def UK{α:Type}(f:α -> List eP)(x y:α)(r:List α):tZ f (x::y::r)=f x++ez [44]::tZ f (y::r):=by simp [tZ]
def Ht(l:List cI):List eP:=ez [40]::(tZ wx l++[ez [41]])
mutual
def nJ:aE -> List eP
 |.mk kind name expr ref args thn els=>
  (if kind=1 then mU [118,97,114]::ql name::ez [61]::(eh expr++[ez [59]])
   else if kind=2 then ql name::ez [61]::(eh expr++[ez [59]])
   else if kind=3 then ql name::(Ht args++[ez [59]])
   else if kind=4 then mU [103,111]::ql name::(Ht args++[ez [59]])
   else if kind=5 then mU [108,111,99,107]::(tt ref++[ez [59]])
   else if kind=6 then mU [117,110,108,111,99,107]::(tt ref++[ez [59]])
   else if kind=7∨kind=8 then
    (if kind=8 then mU [119,104,105,108,101] else mU [105,102])::(eh expr++ez [123]::(jb thn++ez [125]::
     (if els.length=0 then [] else mU [101,108,115,101]::ez [123]::(jb els++[ez [125]]))))
   else [mU [114,101,116,117,114,110],ez [59]])
def jb:List aE -> List eP
 |[]=>[]
 |s::r=>nJ s++jb r
end
section
variable {r:List UInt8}{ps:List eP}
theorem ew.nl(h:ew r ps):ew (10::r) ps:=h.sp V
theorem ew.semi(h:ew r ps):ew (59::10::r) (ez [59]::ps):=h.nl.free 59 V
end
section
variable {l:List Tok}{k:Nat}
theorem Seg.len{ps:List eP}(h:Seg l k ps)(hk:k <= l.length):k+ps.length <= l.length:=by
 obtain ⟨t,ht⟩:=h;have:=congrArg List.length ht;simp at this;omega
theorem YK{s:List UInt8}(h:(dm l k).pt=mU s)(u:List UInt8):gL l k u=decide (bytes s=bytes u):=by
 have h1:(dm l k).kind=3:=congrArg eP.kind h;have h2:(dm l k).text=bytes s:=congrArg eP.text h;unfold gL;rw [h1,h2];simp
theorem UO{t:eP}(h:(dm l k).pt=t)(ht:t.kind≠3)(u:List UInt8):gL l k u=false:=by
 have h1:(dm l k).kind=t.kind:=congrArg eP.kind h;unfold gL;rw [h1,decide_eq_false ht];rfl
def NO(t:eP):Prop:=t.kind=1∨t.kind=2∨∃c,t=ez [c] /\ c∈([45,33,40]:List UInt8)
theorem nI.dg{e:aS}(h:nI e):∃t q,eh e=t::q /\ NO t:=by
 induction h with
 |num n h=>exact ⟨_,_,Nf n,.inr (.inl rfl)⟩
 |name s h=>exact ⟨_,_,JG s,.inl rfl⟩
 |un op x h hx ih=>
  refine ⟨_,_,Kb h x,.inr (.inr ⟨_,J,?_⟩)⟩;rcases h with rfl|rfl<;>decide
 |bin op x y h hx hy ihx ihy=>
  rw [Js h];cases kA op 0 x.op with
  |true=>exact ⟨_,_,rfl,.inr (.inr ⟨40,rfl,V⟩)⟩
  |false=>
   obtain ⟨t,q,h1,h2⟩:=ihx;exact ⟨t,_,by show eh x++_=_;rw [h1];rfl,h2⟩
theorem wQ.dg{a:cI}(h:wQ a):∃t q,wx a=t::q /\ (t.kind=3∨NO t):=by
 cases h with
 |mutex f h=>exact ⟨_,_,rfl,.inl rfl⟩
 |expr e h=>
  obtain ⟨t,q,h1,h2⟩:=h.1.dg;exact ⟨t,q,h1,.inr h2⟩
end
end
section
section
variable {l:List Tok}
def Ee(t:eP):Prop:=t.kind=1∨∃s,t=mU s /\ decide (bytes s=bytes [101,108,115,101])=false
theorem Ee.els{t:eP}{k:Nat}(h:Ee t)(ht:(dm l k).pt=t):gL l k [101,108,115,101]=false:=by
 rcases h with h|⟨u,rfl,hu⟩
 ·exact UO ht Y _
 rw [YK ht];exact hu
theorem iL.dg{d:Nat}{s:aE}{r:List aE}(h:iL d (s::r)):∃t q,nJ s=t::q /\ Ee t:=by
 cases h with
 |var|go|lock|unlock|ret|loop|cond=>exact ⟨_,_,by rw [nJ];rfl,.inr ⟨_,rfl,V⟩⟩
 |assign|call=>exact ⟨_,_,by rw [nJ];rfl,.inl rfl⟩
theorem iL.tail{d:Nat}{s:aE}{r:List aE}(h:iL d (s::r)):iL d r:=by cases h<;>assumption
end
end
section
inductive sS where
 |aI3 (g:b_)
 |mtx (m:cn)
 |fn (f:bB)
def XY(g:b_):Prop:=cG g.name=true /\ g.init.natAbs <= 9223372036854775807
def Ww(m:cn):Prop:=cG m.name=true /\ 0 <= m.size /\ m.size <= 64 /\ (m.ex=true -> m.size=0)
def We(f:bB):Prop:=cG f.name=true /\ f.params.length <= 6 /\ (∀x,x∈f.params -> cG x.name=true) /\ iL 23 f.body
def sS.ok:sS -> Prop
 |.aI3 g=>XY g
 |.mtx m=>Ww m
 |.fn f=>We f
def sS.text:sS -> List UInt8
 |.aI3 g=>cS g
 |.mtx m=>cf m
 |.fn f=>funcText f
def Ty(g:b_):List eP:=mU [118,97,114]::ql g.name::((if g.init=0 then [] else ez [61]::(if g.init<0 then [ez [45],FJ g.init.natAbs] else [FJ g.init.natAbs]))++[ez [59]])
def Q2(m:cn):List eP:=(if m.ex then mU [114,109,117,116,101,120] else mU [109,117,116,101,120])::ql m.name::((if 0<m.size then [ez [91],FJ m.size.natAbs,ez [93]] else [])++[ez [59]])
def Vp(x:bg):List eP:=(if x.mutex then [mU [109,117,116,101,120]] else [])++[ql x.name]
def VF(f:bB):List eP:=mU [102,117,110,99]::ql f.name::ez [40]::(tZ Vp f.params++ez [41]::ez [123]::(jb f.body++[ez [125]]))
def sS.toks:sS -> List eP
 |.aI3 g=>Ty g
 |.mtx m=>Q2 m
 |.fn f=>VF f
def sS.add(x:aY):sS -> aY
 |.aI3 g=>{x with globals:=x.globals++[g]}
 |.mtx m=>{x with mutexes:=x.mutexes++[m]}
 |.fn f=>{x with funcs:=x.funcs++[f]}
end
section
def fit(n:Int):Prop:=-9223372036854775808 <= n /\ n <= 9223372036854775807
mutual
def aS.bt:aS -> Prop
 |.mk _ num name args=>fit num /\ name.size <= 4611686018427387904 /\ jD args
def jD:List aS -> Prop
 |[]=>True
 |e::es=>e.bt /\ jD es
end
def cL.bt(r:cL):Prop:=r.name.size <= 4611686018427387904 /\ jD r.index
def cI.bt(a:cI):Prop:=a.ref.bt /\ a.expr.bt
mutual
def aE.bt:aE -> Prop
 |.mk _ n e r args t el=>n.size <= 4611686018427387904 /\ e.bt /\ r.bt /\ (∀a,a∈args -> a.bt) /\ eO t /\ eO el
def eO:List aE -> Prop
 |[]=>True
 |s::r=>s.bt /\ eO r
end
def bB.bt(f:bB):Prop:=f.name.size <= 4611686018427387904 /\ (∀x,x∈f.params -> x.name.size <= 4611686018427387904) /\ eO f.body
structure aY.bt (p:aY):Prop where
 globals:∀g,g∈p.globals -> fit g.init /\ g.name.size <= 4611686018427387904
 mutexes:∀m,m∈p.mutexes -> fit m.size /\ m.name.size <= 4611686018427387904
 funcs:∀f,f∈p.funcs -> f.bt
def qR:∀(l:List aS),jD l -> ∀e,e∈l -> e.bt
 |[],_,_,h=>iH
 |x::l,hs,e,h=>by
  rw [jD] at hs;rcases mem_cons.1 h with rfl|h
  ·exact hs.1
  exact qR l hs.2 e h
def tA:∀(l:List aE),eO l -> ∀e,e∈l -> e.bt
 |[],_,_,h=>iH
 |x::l,hs,e,h=>by
  rw [eO] at hs;rcases mem_cons.1 h with rfl|h
  ·exact hs.1
  exact tA l hs.2 e h
def Pm(op:Int):(dN op<5 /\ 5 <= op /\ op <= 17)∨(dN op=5 /\ (op=3∨op=4))∨dN op=6:=by
 unfold dN
 repeat' split
 all_goals omega
mutual
def Iz:∀(e:aS),e.bt -> dv e=true -> nI e
 |.mk op num name args,hs,h=>by
  rw [aS.bt] at hs;rw [dv] at h;simp only [di,decide_eq_true_eq] at h;obtain ⟨⟨h1,h2⟩,h3⟩:=h;have hv:=Lp args hs.2.2 h3;rcases Pm op with ⟨k1,k2⟩|⟨k1,k2⟩|k1
  ·rw [if_neg Y] at h1;simp only [di,decide_eq_true_eq] at h1;obtain ⟨rfl,rfl⟩:=h1;rw [arity,if_neg Y,if_neg Y] at h2
   match args,h2,hv with
   |[a,b],_,hv=>exact .bin op a b k2 (hv a aL) (hv b aL)
  ·rw [if_neg Y] at h1;simp only [di,decide_eq_true_eq] at h1;obtain ⟨rfl,rfl⟩:=h1;rw [arity,if_neg Y,if_pos k1] at h2
   match args,h2,hv with
   |[a],_,hv=>exact .un op a k2 (hv a aL)
  rw [if_pos k1] at h1;rw [arity,if_pos k1] at h2;obtain rfl:=kJ.1 h2;unfold lh at h1;simp only [nN,di,decide_eq_true_eq] at h1;rcases h1 with ⟨⟨rfl,h0⟩,rfl⟩|⟨⟨rfl,rfl⟩,h0⟩
  ·obtain ⟨n,rfl⟩:∃n:Nat,num=n:=⟨num.toNat,Y⟩;exact .num n (by have:=hs.1.2;omega)
  exact .name name h0
def Lp:∀(l:List aS),jD l -> fO l=true -> ∀x,x∈l -> nI x
 |[],_,_,_,h=>iH
 |y::l,hs,h,x,hx=>by
  rw [jD] at hs;rw [fO,di] at h;rcases mem_cons.1 hx with hx|hx
  ·rw [hx];exact Iz y hs.1 h.1
  exact Lp l hs.2 h.2 x hx
end
def z_(D:Nat):∀(l:List aE),dC D l=true -> D<24
 |[],h=>by rw [dC] at h;exact of_decide_eq_true h
 |s::r,h=>by rw [dC,di] at h;exact z_ D r h.2
end
section
open Go.RowKit
abbrev cj(l:List ByteArray):List aO:=l.map λx=>ah x
def yC(names:List aH)(j:Nat)(h:j<names.length):fg false 1 (cj names) (0+j*1)=some (cK (names[j])):=by
 unfold fg cj;rw [if_neg V,cp,rZ,nb,k_ h];rfl
def J0{e:aS}(h:e.bt)(k:Nat)(hk:k<e.args.length):e.args[k].bt:=by
 cases e with
 |mk op num name args=>rw [aS.bt] at h;exact qR _ h.2.2 _ (getElem_mem hk)
def Wq{e:aS}(h:e.bt):e.name.size <= 4611686018427387904:=by cases e;rw [aS.bt] at h;exact h.2.1
def Pl:∀(N:Nat)(e:aS),e.nodes <= N -> N <= 1000000000 -> e.bt -> ∀s:aJ,aU prog 132 [.agg (bo e)] [] s λr s'=>r=bC (dv e) /\ s'=s
 |0,e,h,_,_=>rq
 |N+1,e,h,hN,hs=>Yo e (Wq hs) Y λk hk s=>Pl N e.args[k] q6 Y (J0 hs k hk) s
def HW(e:aS)(hN:e.nodes <= 1000000000)(hs:e.bt)(s:aJ):aU prog 96 [.agg (bo e)] [] s λt s'=>t=bC (fJ e) /\ s'=s:=by
 obtain ⟨bx,rw⟩:=s;refine bR 10 func96 ?_;refine go 9 λb1=>?_;refine cc J call132 J (Pl _ e (bX _) hN hs _) ?_;rintro _ _ ⟨hr1,rfl⟩;rcases bw (dv e) with h2|h2;focus
  rw [h2] at hr1;subst hr1;refine go 2 ?_;refine cc J call133 J (Lo _ e (bX _) hN _) ?_;rintro _ _ ⟨rfl,rfl⟩;by_cases h4:(iJ e:Int) <= 24;focus
   refine aI J (zg h4) (go 5 ?_)
  rotate_left;refine aG J (yQ h4) (go 5 ?_)
 rotate_left 2;rw [h2] at hr1;subst hr1;refine go 9 ?_;all_goals
  exact az (s':=⟨bx,rw⟩) J cT ⟨bZ (by unfold fJ;first|(rw [h2];simp;omega)|(rw [h2];rfl)),J⟩
def A'(z:Int)(h:fit z)(s:aJ):aU prog 100 [an z] [] s λr s'=>r=cK (bytes (fT z)) /\ s'=s:=
 G9 (us:=[.int .i64 z]) rfl rfl (λw=>Uf z w h.1 h.2) s
def qh(e:aS):bv e=kH e.op e.num e.name (kF e.op 0 e.args):=by cases e;rw [bv];rfl
def Mp(b:Int):∀(l:List aS)(j:Nat),(kF b j l).length=l.length
 |[],j=>by rw [kF];rfl
 |e::es,j=>by rw [kF,length_cons,length_cons,Mp b es]
def Ct(b:Int):∀(l:List aS)(j k:Nat)(h:k<l.length),(kF b j l)[k]?=some (if kA b (j+k) l[k].op then [40]++bv l[k]++[41] else bv l[k])
 |e::es,j,0,h=>by rw [kF];rfl
 |e::es,j,k+1,h=>by
  rw [kF,List.getElem?_cons_succ,Ct b es (j+1) k i_];rw [show j+1+k=j+(k+1) by omega];rfl
def LD{e:aS}(h:dv e=true):(e.op=1 /\ e.args.length=0)∨(e.op=2 /\ e.args.length=0)∨((e.op=3∨e.op=4) /\ e.args.length=1 /\ dN e.op=5)∨(dN e.op<5 /\ 5 <= e.op /\ e.op <= 17 /\ e.args.length=2):=by
 rw [rL,di,di,decide_eq_true_eq] at h;obtain ⟨⟨h1,h2⟩,-⟩:=h;unfold arity at h2;rcases Pm e.op with ⟨k1,k2⟩|⟨k1,k2⟩|k1
 ·rw [if_neg Y,if_neg Y] at h2;exact .inr (.inr (.inr ⟨k1,k2.1,k2.2,h2⟩))
 ·rw [if_neg Y,if_pos k1] at h2;exact .inr (.inr (.inl ⟨k2,h2,k1⟩))
 rw [if_pos k1] at h1 h2;unfold lh at h1;simp only [nN,di,decide_eq_true_eq] at h1;rcases h1 with h1|h1
 ·exact .inl ⟨h1.1.1,h2⟩
 exact .inr (.inl ⟨h1.1.1,h2⟩)
def WI{e:aS}(h:dv e=true)(k:Nat)(hk:k<e.args.length):dv e.args[k]=true:=by
 cases hs:dv e.args[k] with
 |true=>rfl
 |false=>rw [rL,zr _ _ hk hs,rR] at h;cases h
def KX{e:aS}(h:dv e=true)(k:Nat)(hk:k<e.args.length):((kF e.op 0 e.args).getD k []).length <= (bv e).length:=by
 rw [qh];rcases LD h with h1|h1|h1|h1
 ·omega
 ·omega
 ·obtain rfl:k=0:=Y;unfold kH;rcases h1.1 with h3|h3<;>simp [h3]
 unfold kH;rw [if_neg Y,if_neg Y,if_neg Y,if_neg Y,if_pos h1.1];have:k=0∨k=1:=Y;rcases this with rfl|rfl<;>(simp only [length_append];omega)
def N8{e:aS}(h:dv e=true)(k:Nat)(hk:k<e.args.length):(bv e.args[k]).length <= (bv e).length:=by
 have h1:=KX h k hk;have h2:=Ct e.op e.args 0 k hk;rw [EK,h2,we] at h1;split at h1<;>(try simp only [length_append] at h1)<;>omega
def OG{op:Int}(h:5 <= op /\ op <= 17):op=5∨op=6∨op=7∨op=8∨op=9∨op=10∨op=11∨op=12∨op=13∨op=14∨op=15∨op=16∨op=17:=Y
def TL{op:Int}(h:5 <= op /\ op <= 17):op∈d5 (dN op):=by
 rcases OG h with rfl|rfl|rfl|rfl|rfl|rfl|rfl|rfl|rfl|rfl|rfl|rfl|rfl<;>decide
def W7{op:Int}(h:5 <= op /\ op <= 17):∀i (h1:i<(d5 (dN op)).length) (h2:i<(eQ (dN op)).length),(d5 (dN op))[i]=op -> (eQ (dN op))[i]=bytes (oF op):=by
 rcases OG h with rfl|rfl|rfl|rfl|rfl|rfl|rfl|rfl|rfl|rfl|rfl|rfl|rfl<;>decide
def VS{c:Prop}[Decidable c]{l r:List UInt8}{n:Nat}(h1:l.length <= n)(h2:r.length <= n):(if c then l else r).length <= n:=by split<;>assumption
def S6(op:Int):(oF op).length <= 2:=by
 unfold oF
 repeat' (with_reducible apply VS)
 all_goals decide
def Aa(ts:List (List UInt8))(j:Nat)(h:j<(ts.map bytes).length):(ts.map bytes)[j]=bytes (ts.getD j []):=by
 have h1:j<ts.length:=i_;simp [List.getD,h1]
def VN(e:aS)(hN:e.nodes <= 1000000000)(hs:e.bt)(hsh:dv e=true)(hL:(bv e).length <= 1000000000000000)(ih:∀k (h:k<e.args.length) (s:aJ),aU prog 135 [.agg (bo e.args[k])] [] s λr s'=>r=cK (bytes (bv e.args[k])) /\ s'=s)(s:aJ):aU prog 135 [.agg (bo e)] [] s λt s'=>t=cK (bytes (bv e)) /\ s'=s:=by
 obtain ⟨bx,rw⟩:=s;have hlen:=sJ e;have hops:=LD hsh;have hfit:fit e.num:=by cases e;rw [aS.bt] at hs;exact hs.1
 have hget:=Ct e.op e.args 0;have htl:=Mp e.op e.args 0;have hal:=KX hsh;simp only [cp] at hget;obtain ⟨ts,hts⟩:∃ts,kF e.op 0 e.args=ts:=⟨_,rfl⟩;rw [hts] at hget htl hal;refine bR 95 func135 ?_;refine go 18 λb1=>?_;refine f_ 9 1 ?_;refine Gk (λk=>True) (e.args.length) 4 3 9 1 (λk=>((ts.take k).map bytes).length) (λk=>cj ((ts.take k).map bytes)) [b1] (λk=>[(1,aF b1)]) trivial (bD ue) λk v hk hvk=>?_;replace hvk:True:=hvk
 try dsimp only
 have hrl:((ts.take k).map bytes).length <= k:=by simp only [gI,ke];omega
 refine go 7 ?_;by_cases h1:(k:Int)<(e.args.length:Int)
 ·refine aI J (c_ h1) (go 12 ?_);refine aD J (bf bc bo e.args g_ fv k J J J J Y V jY dw) (go 1 ?_);refine cc J sF J (ih k Y _) ?_;rintro _ _ ⟨rfl,rfl⟩;refine go 6 ?_;have hpl:=N8 hsh k Y;refine go 2 ?_;refine cc J call159 J (LE e k Y _) ?_;rintro _ _ ⟨hr4,rfl⟩;rcases bw (kA e.op k e.args[k].op) with h5|h5;focus
   rw [h5] at hr4;subst hr4;refine go 5 ?_;refine aD J (cz [40] (bv e.args[k]) J J J J J r_) ?_;refine aD J (cz ([40]++(bv e.args[k])) [41] J J J J J r_) (go 6 ?_);refine aX J (bV (r:=cj [(bytes (([40]++(bv e.args[k]))++[41]))]) io ?_);refine aX J (dQ [] pC J J V cN Y (@length_append _ ((ts.take k).map bytes) [(bytes (([40]++(bv e.args[k]))++[41]))]).symm fu cm (fL (f:=λx=>aO.val (.string x))).symm λw2=>?_);refine go 6 ?_;refine bP J (go 2 ?_);rw [show (ts.take (k+1)).map bytes=(ts.take k).map bytes++[(bytes (([40]++(bv e.args[k]))++[41]))] by rw [List.take_succ,hget k Y,h5];simp]
  rotate_left;rw [h5] at hr4;subst hr4;refine go 8 ?_;refine aX J (bV (r:=cj [(bytes (bv e.args[k]))]) io ?_);refine aX J (dQ [] pC J J V cN Y (@length_append _ ((ts.take k).map bytes) [(bytes (bv e.args[k]))]).symm fu cm (fL (f:=λx=>aO.val (.string x))).symm λw3=>?_);refine go 6 ?_;refine bP J (go 2 ?_);rw [show (ts.take (k+1)).map bytes=(ts.take k).map bytes++[(bytes (bv e.args[k]))] by rw [List.take_succ,hget k Y,h5];simp];all_goals
   exact ⟨Y,trivial,_,bD (h:=ay J (cD Y) (ax J)) fD⟩
 refine aG J (cv h1) (go 12 ?_);obtain rfl:k=e.args.length:=Y;rw [take_of_length_le Y];refine iX 3 J ?_;refine go 2 ?_;by_cases h9:e.op=1
 ·refine aI J (bU h9) (go 8 ?_);refine cc J call100 J (A' e.num hfit _) ?_;rintro _ _ ⟨rfl,rfl⟩;refine go 6 ?_;exact az (s':=⟨bx,rw⟩) J cT ⟨mb (by rw [qh,hts];unfold kH;simp only [if_pos h9];try rfl),J⟩
 refine aG J (bO h9) (go 8 ?_);by_cases Bk:e.op=2
 ·refine aI J (bU Bk) (go 14 ?_);exact az (s':=⟨bx,rw⟩) J cT ⟨mb (by rw [qh,hts];unfold kH;simp only [if_neg h9,if_pos Bk];try exact (back _).symm),J⟩
 refine aG J (bO Bk) (go 8 ?_);by_cases h16:e.op=3
 ·refine aI J (bU h16) (go 6 ?_);have hl1:e.args.length=1:=zW;have hg0:=hal 0 Y;refine go 1 ?_;refine aD J (mj (λx=>ah x) (ts.map bytes) 0 J J J J sT kP iK) (go 1 ?_);refine aD J (cz [45] (ts.getD 0 []) J J J J (Aa _ _ sT) r_) (go 6 ?_);exact az (s':=⟨bx,rw⟩) J cT ⟨mb (by rw [qh,hts];unfold kH;simp only [if_neg h9,if_neg Bk,if_pos h16];try rfl),J⟩
 refine aG J (bO h16) (go 8 ?_);by_cases h19:e.op=4
 ·refine aI J (bU h19) (go 6 ?_);have hl1:e.args.length=1:=zW;have hg0:=hal 0 Y;refine go 1 ?_;refine aD J (mj (λx=>ah x) (ts.map bytes) 0 J J J J sT kP iK) (go 1 ?_);refine aD J (cz [33] (ts.getD 0 []) J J J J (Aa _ _ sT) r_) (go 6 ?_);exact az (s':=⟨bx,rw⟩) J cT ⟨mb (by rw [qh,hts];unfold kH;simp only [if_neg h9,if_neg Bk,if_neg h16,if_pos h19];try rfl),J⟩
 refine aG J (bO h19) (go 11 ?_);have aQh:dN e.op<5:=zW;have hop:5 <= e.op /\ e.op <= 17:=zW;have hl2:e.args.length=2:=zW;have hsl:=Ff (dN e.op);have hg0:=hal 0 Y;have hg1:=hal 1 Y;refine cc J call158 J (yc e.op _) ?_;rintro _ _ ⟨rfl,rfl⟩;refine cc J call140 J (I_ (dN e.op) Y _) ?_;rintro _ _ ⟨rfl,rfl⟩;refine go 14 ?_;refine jr (λi=>∀j (h:j<(d5 (dN e.op)).length),j<i -> (d5 (dN e.op))[j]≠e.op) ((d5 (dN e.op)).length) 8 (λi=>[(1,aF b1),(3,.c (.sl (ts.map bytes).length ((ts.map bytes).map λx=>ah x))),(6,.c (nU (eQ (dN e.op)))),(7,.c (nQ (d5 (dN e.op))))]) nF (ax J) λi hi bp=>?_;replace bp:∀j (h:j<(d5 (dN e.op)).length),j<i -> (d5 (dN e.op))[j]≠e.op:=bp
 try dsimp only
 refine go 6 ?_;by_cases DP:(i:Int)<(((d5 (dN e.op)).length:Nat):Int)
 ·refine aI J (c_ DP) (go 8 ?_);refine cB [b1] (aa [0,1] 5 (go 3 ?_));refine ac 2 J (mj (λx=>aA x) (d5 (dN e.op)) i J J J J Y wq kx) (aa [3,4,5] 1 (go 4 ?_));by_cases ur:(d5 (dN e.op))[i]=e.op
  ·refine ac 6 J (fC true J J J (bU ur)) ?_;refine bH (go 3 ?_);refine cB [b1] (aa [0] 14 (go 2 ?_));refine ac 1 J (mj (λx=>ah x) (ts.map bytes) 0 J J J J sT kP iK) (aa [2] 12 (go 2 ?_));refine ac 3 J (cz (ts.getD 0 []) [32] J J J (Aa _ _ sT) J r_) (aa [4,5] 9 (go 3 ?_));refine ac 6 J (mj (λx=>ah x) (eQ (dN e.op)) i J J J J Y kP iK) (aa [7] 7 (go 2 ?_));refine ac 8 J (cz ((ts.getD 0 [])++[32]) (oF e.op) J J J J (W7 hop i Y Y ur) r_) ?_;refine ac 9 J (cz (((ts.getD 0 [])++[32])++(oF e.op)) [32] J J J J J r_) (aa [10] 4 (go 2 ?_));refine ac 11 J (mj (λx=>ah x) (ts.map bytes) 1 J J J J sT kP iK) (aa [12] 2 (go 2 ?_));refine ac 13 J (cz ((((ts.getD 0 [])++[32])++(oF e.op))++[32]) (ts.getD 1 []) J J J J (Aa _ _ sT) r_) (aa [14] 0 (go 2 ?_));refine bH (go 7 ?_);exact az (s':=⟨bx,rw⟩) J cT ⟨mb (by rw [qh,hts];unfold kH;simp only [if_neg h9,if_neg Bk,if_neg h16,if_neg h19,if_pos aQh];try rfl),J⟩
  refine ac 6 J (fC false J J J (bO ur)) ?_;refine bH (go 7 ?_);refine bP J (go 2 ?_);exact ⟨Y,(λj hj hlt hq=>(jv j i).elim (λh9=>bp j hj h9 hq) (λh9=>by have h8:j=i:=Y;subst h8;exact ur hq)),(ay J (cD Y) (ax J))⟩
 refine aG J (cv DP) (go 14 ?_);exact absurd (List.mem_iff_getElem.1 (TL hop)) (λ⟨j,hj,hq⟩=>bp j hj Y hq)
def sM:∀(N:Nat)(e:aS),e.nodes <= N -> N <= 1000000000 -> e.bt -> dv e=true -> (bv e).length <= 1000000000000000 -> ∀s:aJ,aU prog 135 [.agg (bo e)] [] s λr s'=>r=cK (bytes (bv e)) /\ s'=s
 |0,e,h,_,_,_,_=>rq
 |N+1,e,h,hN,hs,hsh,hL=>VN e Y hs hsh hL λk hk s=>sM N e.args[k] q6 Y (J0 hs k hk) (WI hsh k hk) (iS (N8 hsh k hk) hL) s
def cL.wt(r:cL):Nat:=1+d2 r.index
def cI.wt(a:cI):Nat:=1+a.ref.wt+a.expr.nodes
def dz:List cI -> Nat
 |[]=>0
 |a::l=>a.wt+dz l
mutual
def aE.wt:aE -> Nat
 |.mk _ _ e r a t f=>1+e.nodes+r.wt+dz a+au t+au f
def au:List aE -> Nat
 |[]=>0
 |s::l=>s.wt+au l
end
def uC:∀(l:List cI)(k:Nat)(h:k<l.length),l[k].wt <= dz l
 |a::l,0,_=>by rw [dz];simp
 |a::l,k+1,h=>by have:=uC l k i_;rw [dz];simp;omega
def p9:∀(l:List cI),l.length <= dz l
 |[]=>aL
 |a::l=>by have:=p9 l;rw [dz,cI.wt];simp;omega
def qH:∀(l:List aE)(k:Nat)(h:k<l.length),l[k].wt <= au l
 |a::l,0,_=>by rw [au];simp
 |a::l,k+1,h=>by have:=qH l k i_;rw [au];simp;omega
def gM(s:aE):s.wt=1+s.expr.nodes+s.ref.wt+dz s.args+au s.thn+au s.els:=by cases s;rw [aE.wt];rfl
def o5:∀(l:List aE),l.length <= au l
 |[]=>aL
 |a::l=>by have:=o5 l;rw [au,gM];simp;omega
def BJ{r:cL}(h:okRefB r=true):cG r.name=true /\ (r.index.length=0∨r.index.length=1) /\ ∀e,e∈r.index -> fJ e=true:=by
 obtain ⟨n,ix⟩:=r;unfold okRefB at h;rw [di] at h
 match ix,h with
 |[],h=>exact ⟨h.1,.inl rfl,λe he=>by cases he⟩
 |[e],h=>exact ⟨h.1,.inr rfl,λx hx=>by rw [jK.1 hx];exact h.2⟩
 |_::_::_,h=>simp at h
def sL{e:aS}(h:fJ e=true):dv e=true:=by rw [fJ,di] at h;exact h.1
def CV{r:cL}(h:0<r.index.length):fi r=r.name.data.toList++[(91:UInt8)]++bv r.index[0]++[93]:=by
 obtain ⟨n,ix⟩:=r
 match ix,h with
 |e::_,_=>rfl
def NR{r:cL}(h:r.index.length=0):fi r=r.name.data.toList:=by
 obtain ⟨n,ix⟩:=r;rw [kJ] at h;dsimp only at h;subst h;rfl
def G0{α:Type}(f:α -> List UInt8):∀(l:List α)(k:Nat),(dL f (l.take k)).length <= (dL f l).length
 |[],k=>xk
 |x::l,0=>xk
 |x::l,k+1=>by
  simp only [jW,dL,length_append,List.length_flatten,oh];have:∀(m:List α)(k:Nat),(List.map (List.length ∘ λy=>[44,32]++f y) (m.take k)).sum <= (List.map (List.length ∘ λy=>[44,32]++f y) m).sum:=by
   intro m;induction m with
   |nil=>intro k;simp
   |cons a m ih=>intro k;cases k with
    |zero=>simp
    |succ k=>have:=ih k;simp only [jW,dE,p_];omega
  have:=this l k;omega
def M6{α:Type}(f:α -> List UInt8)(l:List α)(k:Nat)(h:k<l.length):(f l[k]).length <= (dL f l).length:=by
 have h1:=G0 f l (k+1);rw [rT f l k h] at h1;simp only [length_append] at h1;omega
def xW{a:cI}(h:a.mutex=true):eu a=[109,117,116,101,120,32]++fi a.ref:=by unfold eu;rw [if_pos h]
def xJ{a:cI}(h:a.mutex=false):eu a=bv a.expr:=by unfold eu;rw [if_neg oD]
def ER{a:cI}(h:fX a=true):(a.mutex=true -> okRefB a.ref=true) /\ (a.mutex=false -> fJ a.expr=true):=by
 unfold fX at h;constructor
 ·intro hm;rw [hm,if_pos rfl,di] at h;exact h.1
 intro hm;rw [hm,if_neg V,di] at h;exact h.2
def A6(r:cL)(hok:okRefB r=true)(hs:r.bt)(hN:d2 r.index <= 900000000)(hL:(fi r).length <= 1000000000000000)(s:aJ):aU prog 137 [.agg (encR r)] [] s λt s'=>t=cK (bytes (fi r)) /\ s'=s:=by
 obtain ⟨bx,rw⟩:=s;replace hok:=BJ hok;have hnm:r.name.data.toList.length <= 4611686018427387904:=hs.1;refine bR 19 func137 ?_;refine go 12 λb1=>?_;by_cases h1:(r.index.length:Int)=0
 ·refine aI J (bU h1) (go 12 ?_);exact az (s':=⟨bx,rw⟩) J cT ⟨mb Od,J⟩
 refine aG J (bO h1) (go 6 ?_);refine cB [b1] ?_;have hi0:0<r.index.length:=Y;have hse:=qR _ hs.2 _ (getElem_mem hi0);have hsh:=sL (hok.2.2 _ (getElem_mem hi0));have hni:=qV r.index 0 hi0;have hL1:=hL;rw [CV hi0] at hL1;simp only [length_append] at hL1;replace hL1:(bv r.index[0]).length <= 1000000000000000:=by omega
 refine aa [0,1] 9 (go 3 ?_);refine ac 2 J (cz r.name.data.toList ([91]:List UInt8) J J J (back _) J h_) (aa [3,4] 6 (go 3 ?_));refine ac 5 J (bf bc bo r.index g_ fv 0 J J J J Y V jY dw) (aa [6] 4 (go 2 ?_));refine aW 7 J J (da J J V sF J (sM _ r.index[0] (bX _) Y hse hsh hL1 _) ?_);rintro _ _ ⟨rfl,rfl⟩;refine ac 8 J (cz (r.name.data.toList++([91]:List UInt8)) (bv r.index[0]) J J J J J h_) ?_;refine ac 9 J (cz ((r.name.data.toList++([91]:List UInt8))++(bv r.index[0])) [93] J J J J J h_) (aa [10] 0 (go 2 ?_));refine bH (go 2 ?_);exact az (s':=⟨bx,rw⟩) J cT ⟨mb (by rw [CV hi0]),J⟩
def KH(l:List cI)(hok:∀a,a∈l -> fX a=true)(hs:∀a,a∈l -> a.bt)(hw:dz l <= 900000000)(hL:(iI l).length <= 1000000000000000)(s:aJ):aU prog 136 [.c (aB cd l)] [] s λt s'=>t=cK (bytes (iI l)) /\ s'=s:=by
 obtain ⟨bx,rw⟩:=s;have hal:=p9 l;have hL1:=hL;unfold iI at hL1;simp only [length_append] at hL1;refine bR 39 func136 ?_;refine go 17 ?_;refine qk (l.length) 4 (λk=>[(3,cK (bytes ([40]++dL eu (l.take (k))))),(0,.c (aB cd l))]) (ax J) λk hk=>?_;show br prog _ ⟨39,_,_,(4,ae k)::[(3,cK (bytes ([40]++dL eu (l.take (k))))),(0,.c (aB cd l))]⟩ _;have hcm:=G0 eu l k;refine go 6 ?_;by_cases h1:(k:Int)<(l.length:Int)
 ·refine aI J (c_ h1) (go 10 ?_);have hlt:k<l.length:=Y;have hsa:=hs _ (getElem_mem hlt);have hoa:=ER (hok _ (getElem_mem hlt));have hwa:=uC l k hlt;unfold cI.wt cL.wt at hwa;have hci:=M6 eu l k hlt;refine go 1 ?_;by_cases h3:(0:Int)<(k:Int)
  ·refine aI J (e1 h3) (go 5 ?_);refine aD J (cz ([40]++dL eu (l.take (k))) [44,32] J J J J J h_) (go 7 ?_);refine aD J (bf cd cd l o' (λ_=>J) k J J J J Y V lH jy) (go 1 ?_);rcases bw (l[k].mutex) with h5|h5
   ·refine aD J (cP (bJ h5) (ka J J dH dG J)) (go 4 ?_);have hmx:=h5;have hri:(fi l[k].ref).length <= 1000000000000000:=MA;refine go 1 ?_;refine aD J (cz (([40]++dL eu (l.take (k)))++[44,32]) [109,117,116,101,120,32] J J J J J d6) (go 2 ?_);refine aD J (bf cd cd l o' (λ_=>J) k J J J J Y V lH jy) (go 2 ?_);refine cc J call137 J (A6 l[k].ref (hoa.1 hmx) hsa.1 Y Y _) ?_;rintro _ _ ⟨rfl,rfl⟩;refine aD J (cz ((([40]++dL eu (l.take (k)))++[44,32])++[109,117,116,101,120,32]) (fi l[k].ref) J J J J J d6) (go 6 ?_);refine bP J (go 2 ?_);exact ⟨Y,(ay J (cD Y) (ay J (fh (by rw [rT eu l k Y,if_neg Y];rw [xW h5];simp)) (ax J)))⟩
   refine aD J (cP (bJ h5) (ka J J dH dG J)) (go 4 ?_);have hmx:=h5;have hri:(bv l[k].expr).length <= 1000000000000000:=by have h9:=hci;rw [xJ hmx] at h9;omega
   refine go 3 ?_;refine aD J (bf cd cd l o' (λ_=>J) k J J J J Y V lH jy) (go 2 ?_);refine cc J sF J (sM _ l[k].expr (bX _) Y hsa.2 (sL (hoa.2 hmx)) Y _) ?_;rintro _ _ ⟨rfl,rfl⟩;refine aD J (cz (([40]++dL eu (l.take (k)))++[44,32]) (bv l[k].expr) J J J J J h_) (go 6 ?_);refine bP J (go 2 ?_);exact ⟨Y,(ay J (cD Y) (ay J (fh (by rw [rT eu l k Y,if_neg Y];rw [xJ h5];simp)) (ax J)))⟩
  refine aG J (fA h3) (go 9 ?_);refine aD J (bf cd cd l o' (λ_=>J) k J J J J Y V lH jy) (go 1 ?_);rcases bw (l[k].mutex) with h11|h11
  ·refine aD J (cP (bJ h11) (ka J J dH dG J)) (go 4 ?_);have hmx:=h11;have hri:(fi l[k].ref).length <= 1000000000000000:=MA;refine go 1 ?_;refine aD J (cz ([40]++dL eu (l.take (k))) [109,117,116,101,120,32] J J J J J d6) (go 2 ?_);refine aD J (bf cd cd l o' (λ_=>J) k J J J J Y V lH jy) (go 2 ?_);refine cc J call137 J (A6 l[k].ref (hoa.1 hmx) hsa.1 Y Y _) ?_;rintro _ _ ⟨rfl,rfl⟩;refine aD J (cz (([40]++dL eu (l.take (k)))++[109,117,116,101,120,32]) (fi l[k].ref) J J J J J d6) (go 6 ?_);refine bP J (go 2 ?_);exact ⟨Y,(ay J (cD Y) (ay J (fh (by rw [rT eu l k Y,if_pos Y];rw [xW h11];simp)) (ax J)))⟩
  refine aD J (cP (bJ h11) (ka J J dH dG J)) (go 4 ?_);have hmx:=h11;have hri:(bv l[k].expr).length <= 1000000000000000:=by have h9:=hci;rw [xJ hmx] at h9;omega
  refine go 3 ?_;refine aD J (bf cd cd l o' (λ_=>J) k J J J J Y V lH jy) (go 2 ?_);refine cc J sF J (sM _ l[k].expr (bX _) Y hsa.2 (sL (hoa.2 hmx)) Y _) ?_;rintro _ _ ⟨rfl,rfl⟩;refine aD J (cz ([40]++dL eu (l.take (k))) (bv l[k].expr) J J J J J h_) (go 6 ?_);refine bP J (go 2 ?_);exact ⟨Y,(ay J (cD Y) (ay J (fh (by rw [rT eu l k Y,if_pos Y];rw [xJ h11];simp)) (ax J)))⟩
 refine aG J (cv h1) (go 11 ?_);refine aD J (cz ([40]++dL eu (l.take (k))) [41] J J J J J h_) (go 4 ?_);exact az (s':=⟨bx,rw⟩) J d4 ⟨mb (by unfold iI;rw [take_of_length_le Y]),J⟩
def As{tabs:List UInt8}{s:aE}(h:s.kind=1):d1 tabs s=tabs++([118,97,114,32]++s.name.data.toList++[32,61,32]++bv s.expr++[59])++[10]:=by
 obtain ⟨kind,name,e,r,args,t,el⟩:=s;obtain rfl:kind=1:=h;rw [d1];rfl
def Dp{tabs:List UInt8}{s:aE}(h:s.kind=2):d1 tabs s=tabs++(s.name.data.toList++[32,61,32]++bv s.expr++[59])++[10]:=by
 obtain ⟨kind,name,e,r,args,t,el⟩:=s;obtain rfl:kind=2:=h;rw [d1];rfl
def yT{tabs:List UInt8}{s:aE}(h:s.kind=3):d1 tabs s=tabs++(s.name.data.toList++iI s.args++[59])++[10]:=by
 obtain ⟨kind,name,e,r,args,t,el⟩:=s;obtain rfl:kind=3:=h;rw [d1];rfl
def yM{tabs:List UInt8}{s:aE}(h:s.kind=4):d1 tabs s=tabs++([103,111,32]++s.name.data.toList++iI s.args++[59])++[10]:=by
 obtain ⟨kind,name,e,r,args,t,el⟩:=s;obtain rfl:kind=4:=h;rw [d1];rfl
def BG{tabs:List UInt8}{s:aE}(h:s.kind=5):d1 tabs s=tabs++([108,111,99,107,32]++fi s.ref++[59])++[10]:=by
 obtain ⟨kind,name,e,r,args,t,el⟩:=s;obtain rfl:kind=5:=h;rw [d1];rfl
def Ca{tabs:List UInt8}{s:aE}(h:s.kind=6):d1 tabs s=tabs++([117,110,108,111,99,107,32]++fi s.ref++[59])++[10]:=by
 obtain ⟨kind,name,e,r,args,t,el⟩:=s;obtain rfl:kind=6:=h;rw [d1];rfl
def wU{tabs:List UInt8}{s:aE}(h:s.kind=7):d1 tabs s=tabs++([105,102,32]++bv s.expr++[32,123,10]++bT (tabs++[9]) s.thn++tabs++[125]++(if s.els.length=0 then [] else [32,101,108,115,101,32,123,10]++bT (tabs++[9]) s.els++tabs++[125]))++[10]:=by
 obtain ⟨kind,name,e,r,args,t,el⟩:=s;obtain rfl:kind=7:=h;rw [d1];rfl
def xn{tabs:List UInt8}{s:aE}(h:s.kind=8):d1 tabs s=tabs++([119,104,105,108,101,32]++bv s.expr++[32,123,10]++bT (tabs++[9]) s.thn++tabs++[125]++(if s.els.length=0 then [] else [32,101,108,115,101,32,123,10]++bT (tabs++[9]) s.els++tabs++[125]))++[10]:=by
 obtain ⟨kind,name,e,r,args,t,el⟩:=s;obtain rfl:kind=8:=h;rw [d1];rfl
def AK{tabs:List UInt8}{s:aE}(h:¬s.kind=1 /\ ¬s.kind=2 /\ ¬s.kind=3 /\ ¬s.kind=4 /\ ¬s.kind=5 /\ ¬s.kind=6 /\ ¬s.kind=7 /\ ¬s.kind=8):d1 tabs s=tabs++[114,101,116,117,114,110,59]++[10]:=by
 obtain ⟨kind,name,e,r,args,t,el⟩:=s;obtain ⟨h1,h2,h3,h4,h5,h6,h7,h8⟩:=h;simp only [aE.kind] at h1 h2 h3 h4 h5 h6 h7 h8;rw [d1,if_neg h1,if_neg h2,if_neg h3,if_neg h4,if_neg h5,if_neg h6,if_neg (λh=>h.elim h7 h8)]
def nP(tabs:List UInt8)(l:List aE)(k:Nat)(hk:k<l.length):bT tabs (l.take (k+1))=bT tabs (l.take k)++d1 tabs l[k]:=by
 rw [gz hk,Oh,bT,bT,eV]
def Ba(tabs:List UInt8):∀(l:List aE)(k:Nat),(bT tabs (l.take k)).length <= (bT tabs l).length
 |[],k=>aL
 |s::l,0=>by rw [mJ,bT];simp
 |s::l,k+1=>by have:=Ba tabs l k;rw [jW,bT,bT,length_append,length_append];omega
def S4(tabs:List UInt8)(l:List aE)(k:Nat)(hk:k<l.length):(d1 tabs l[k]).length <= (bT tabs l).length:=by
 have h1:=Ba tabs l (k+1);rw [nP tabs l k hk,length_append] at h1;omega
structure PY (D:Nat) (s:aE):Prop where
 name:s.name.data.toList.length <= 4611686018427387904
 expr:(s.kind=1∨s.kind=2∨s.kind=7∨s.kind=8) -> dv s.expr=true
 ref:(s.kind=5∨s.kind=6) -> okRefB s.ref=true
 args:∀a,a∈s.args -> fX a=true
 thn:(s.kind=7∨s.kind=8) -> dC (D+1) s.thn=true
 els:s.els.length=0∨dC (D+1) s.els=true
 RW:s.expr.bt
 aH0:s.ref.bt
 aH1:∀a,a∈s.args -> a.bt
 aJ9:eO s.thn
 aKa:eO s.els
def Ii(D:Nat):∀(l:List aE),dC D l=true -> ∀s,s∈l -> fw D s=true
 |[],_,s,h=>iH
 |x::l,h,s,hs=>by
  rw [dC,di] at h;rcases mem_cons.1 hs with rfl|hs
  ·exact h.1
  exact Ii D l h.2 s hs
def zV{D:Nat}{s:aE}(hs:s.bt)(h:fw D s=true):PY D s:=by
 obtain ⟨k,n,e,r,args,t,el⟩:=s;rw [aE.bt] at hs;rw [fw] at h;obtain ⟨hn,he,hr,ha,ht,hel⟩:=hs;simp only [di,nN,decide_eq_true_eq] at h;obtain ⟨⟨⟨⟨⟨⟨⟨h1,h2⟩,h3⟩,h4⟩,h5⟩,h6⟩,h7⟩,h8⟩:=h;exact ⟨hn,λhp=>by
  have hp:k=1∨k=2∨k=7∨k=8:=hp;rw [if_pos hp] at h3;exact sL h3,λhp=>by
  have hp:k=5∨k=6:=hp
  rwa [if_pos hp] at h4,e0.1 h6,λhp=>by
  have hp:k=7∨k=8:=hp
  rwa [if_pos hp] at h7,h8.imp id (λh=>h.2),he,hr,ha,ht,hel⟩
def Kk(D:Nat)(l:List aE)(tabs:List UInt8)(hok:dC D l=true)(hs:eO l)(hw:au l <= 900000000)(ht:tabs.length <= 1000)(hL:(bT tabs l).length <= 1000000000000000)(ih1:∀k (h:k<l.length),dC (D+1) l[k].thn=true -> (bT (tabs++[9]) l[k].thn).length <= 1000000000000000 -> ∀s:aJ,aU prog 101 [.c (aB encS l[k].thn),cK (bytes (tabs++[9]))] [] s λt s'=>t=cK (bytes (bT (tabs++[9]) l[k].thn)) /\ s'=s)(ih2:∀k (h:k<l.length),dC (D+1) l[k].els=true -> (bT (tabs++[9]) l[k].els).length <= 1000000000000000 -> ∀s:aJ,aU prog 101 [.c (aB encS l[k].els),cK (bytes (tabs++[9]))] [] s λt s'=>t=cK (bytes (bT (tabs++[9]) l[k].els)) /\ s'=s)(s:aJ):aU prog 101 [.c (aB encS l),cK (bytes tabs)] [] s λt s'=>t=cK (bytes (bT tabs l)) /\ s'=s:=by
 obtain ⟨bx,rw⟩:=s;have hll:=o5 l;have hnil:bT tabs []=[]:=by rw [bT]
 refine bR 133 func101 ?_;refine go 17 ?_;refine qk (l.length) 6 (λk=>[(5,cK (bytes (bT tabs (l.take (k))))),(0,.c (aB encS l)),(1,cK (bytes tabs))]) (ax J) λk hk=>?_;show br prog _ ⟨133,_,_,(6,ae k)::[(5,cK (bytes (bT tabs (l.take (k))))),(0,.c (aB encS l)),(1,cK (bytes tabs))]⟩ _;have hmo:=Ba tabs l k;refine go 6 ?_;by_cases h1:(k:Int)<(l.length:Int)
 ·refine aI J (c_ h1) (go 9 ?_);have hlt:k<l.length:=Y;have ok:=zV (tA _ hs _ (getElem_mem hlt)) (Ii D l hok _ (getElem_mem hlt));have hwk:=qH l k hlt;rw [gM] at hwk;unfold cL.wt at hwk;have hsl:=S4 tabs l k hlt;have hnm:=ok.name;refine go 2 ?_;refine aD J (bf encS ci l l8 mQ k J J J J Y V jw d7) (go 9 λb1=>?_);refine aD J (cz (bT tabs (l.take (k))) tabs J J J J J h_) (go 13 ?_);by_cases h3:l[k].kind=1
  ·refine aI J (bU h3) (go 4 ?_);refine cB [b1] ?_;have hq:=hsl;rw [As h3] at hq;simp only [length_append] at hq;refine aa [0] 11 (go 2 ?_);refine ac 1 J (cz ((bT tabs (l.take (k)))++tabs) [118,97,114,32] J J J J J d6) (aa [2,3] 8 (go 3 ?_));refine ac 4 J (cz (((bT tabs (l.take (k)))++tabs)++[118,97,114,32]) l[k].name.data.toList J J J J (back _) d6) ?_;refine ac 5 J (cz ((((bT tabs (l.take (k)))++tabs)++[118,97,114,32])++l[k].name.data.toList) [32,61,32] J J J J J d6) (aa [6,7] 4 (go 3 ?_));refine aW 8 J J (da J J V sF J (sM _ l[k].expr (bX _) Y ok.RW (ok.expr Y) Y _) ?_);rintro _ _ ⟨rfl,rfl⟩;refine ac 9 J (cz (((((bT tabs (l.take (k)))++tabs)++[118,97,114,32])++l[k].name.data.toList)++[32,61,32]) (bv l[k].expr) J J J J J d6) ?_;refine ac 10 J (cz ((((((bT tabs (l.take (k)))++tabs)++[118,97,114,32])++l[k].name.data.toList)++[32,61,32])++(bv l[k].expr)) [59] J J J J J d6) (aa [11] 0 (go 2 ?_));refine bH (go 4 ?_);refine aD J (cz (((((((bT tabs (l.take (k)))++tabs)++[118,97,114,32])++l[k].name.data.toList)++[32,61,32])++(bv l[k].expr))++[59]) [10] J J J J J d6) (go 6 ?_);refine bP J (go 2 ?_);exact ⟨Y,bD (h1:=bI) (h:=ay J (cD Y) (ay J (fh (by rw [nP tabs l k Y,As h3];simp only [append_assoc,eV,cg,eA])) (ax J))) (λb hb=>eG _ (hb))⟩
  refine aG J (bO h3) (go 6 ?_);by_cases h7:l[k].kind=2
  ·refine aI J (bU h7) (go 4 ?_);refine cB [b1] ?_;have hq:=hsl;rw [Dp h7] at hq;simp only [length_append] at hq;refine aa [0,1,2] 8 (go 4 ?_);refine ac 3 J (cz ((bT tabs (l.take (k)))++tabs) l[k].name.data.toList J J J J (back _) h_) ?_;refine ac 4 J (cz (((bT tabs (l.take (k)))++tabs)++l[k].name.data.toList) [32,61,32] J J J J J d6) (aa [5,6] 4 (go 3 ?_));refine aW 7 J J (da J J V sF J (sM _ l[k].expr (bX _) Y ok.RW (ok.expr Y) Y _) ?_);rintro _ _ ⟨rfl,rfl⟩;refine ac 8 J (cz ((((bT tabs (l.take (k)))++tabs)++l[k].name.data.toList)++[32,61,32]) (bv l[k].expr) J J J J J d6) ?_;refine ac 9 J (cz (((((bT tabs (l.take (k)))++tabs)++l[k].name.data.toList)++[32,61,32])++(bv l[k].expr)) [59] J J J J J d6) (aa [10] 0 (go 2 ?_));refine bH (go 4 ?_);refine aD J (cz ((((((bT tabs (l.take (k)))++tabs)++l[k].name.data.toList)++[32,61,32])++(bv l[k].expr))++[59]) [10] J J J J J d6) (go 6 ?_);refine bP J (go 2 ?_);exact ⟨Y,bD (h1:=bI) (h:=ay J (cD Y) (ay J (fh (by rw [nP tabs l k Y,Dp h7];simp only [append_assoc,eV,cg,eA])) (ax J))) (λb hb=>eG _ (hb))⟩
  refine aG J (bO h7) (go 6 ?_);by_cases h11:l[k].kind=3
  ·refine aI J (bU h11) (go 4 ?_);refine cB [b1] ?_;have hq:=hsl;rw [yT h11] at hq;simp only [length_append] at hq;refine aa [0,1,2] 7 (go 4 ?_);refine ac 3 J (cz ((bT tabs (l.take (k)))++tabs) l[k].name.data.toList J J J J (back _) h_) (aa [4,5] 4 (go 3 ?_));refine aW 6 J J (da J J V call136 J (KH l[k].args ok.args ok.aH1 Y Y _) ?_);rintro _ _ ⟨rfl,rfl⟩;refine ac 7 J (cz (((bT tabs (l.take (k)))++tabs)++l[k].name.data.toList) (iI l[k].args) J J J J J h_) ?_;refine ac 8 J (cz ((((bT tabs (l.take (k)))++tabs)++l[k].name.data.toList)++(iI l[k].args)) [59] J J J J J h_) (aa [9] 0 (go 2 ?_));refine bH (go 4 ?_);refine aD J (cz (((((bT tabs (l.take (k)))++tabs)++l[k].name.data.toList)++(iI l[k].args))++[59]) [10] J J J J J h_) (go 6 ?_);refine bP J (go 2 ?_);exact ⟨Y,bD (h1:=bI) (h:=ay J (cD Y) (ay J (fh (by rw [nP tabs l k Y,yT h11];simp only [append_assoc,eV,cg,eA])) (ax J))) (λb hb=>eG _ (hb))⟩
  refine aG J (bO h11) (go 6 ?_);by_cases rd:l[k].kind=4
  ·refine aI J (bU rd) (go 4 ?_);refine cB [b1] ?_;have hq:=hsl;rw [yM rd] at hq;simp only [length_append] at hq;refine aa [0] 10 (go 2 ?_);refine ac 1 J (cz ((bT tabs (l.take (k)))++tabs) [103,111,32] J J J J J d6) (aa [2,3] 7 (go 3 ?_));refine ac 4 J (cz (((bT tabs (l.take (k)))++tabs)++[103,111,32]) l[k].name.data.toList J J J J (back _) d6) (aa [5,6] 4 (go 3 ?_));refine aW 7 J J (da J J V call136 J (KH l[k].args ok.args ok.aH1 Y Y _) ?_);rintro _ _ ⟨rfl,rfl⟩;refine ac 8 J (cz ((((bT tabs (l.take (k)))++tabs)++[103,111,32])++l[k].name.data.toList) (iI l[k].args) J J J J J d6) ?_;refine ac 9 J (cz (((((bT tabs (l.take (k)))++tabs)++[103,111,32])++l[k].name.data.toList)++(iI l[k].args)) [59] J J J J J d6) (aa [10] 0 (go 2 ?_));refine bH (go 4 ?_);refine aD J (cz ((((((bT tabs (l.take (k)))++tabs)++[103,111,32])++l[k].name.data.toList)++(iI l[k].args))++[59]) [10] J J J J J d6) (go 6 ?_);refine bP J (go 2 ?_);exact ⟨Y,bD (h1:=bI) (h:=ay J (cD Y) (ay J (fh (by rw [nP tabs l k Y,yM rd];simp only [append_assoc,eV,cg,eA])) (ax J))) (λb hb=>eG _ (hb))⟩
  refine aG J (bO rd) (go 6 ?_);by_cases h19:l[k].kind=5
  ·refine aI J (bU h19) (go 5 ?_);have hq:=hsl;rw [BG h19] at hq;simp only [length_append] at hq;refine go 1 ?_;refine aD J (cz ((bT tabs (l.take (k)))++tabs) [108,111,99,107,32] J J J J J d6) (go 2 ?_);refine cc J call137 J (A6 l[k].ref (ok.ref Y) ok.aH0 Y Y _) ?_;rintro _ _ ⟨rfl,rfl⟩;refine aD J (cz (((bT tabs (l.take (k)))++tabs)++[108,111,99,107,32]) (fi l[k].ref) J J J J J d6) ?_;refine aD J (cz ((((bT tabs (l.take (k)))++tabs)++[108,111,99,107,32])++(fi l[k].ref)) [59] J J J J J d6) (go 6 ?_);refine aD J (cz (((((bT tabs (l.take (k)))++tabs)++[108,111,99,107,32])++(fi l[k].ref))++[59]) [10] J J J J J d6) (go 6 ?_);refine bP J (go 2 ?_);exact ⟨Y,bD (h1:=bI) (h:=ay J (cD Y) (ay J (fh (by rw [nP tabs l k Y,BG h19];simp only [append_assoc,eV,cg,eA])) (ax J))) (λb hb=>eG _ (hb))⟩
  refine aG J (bO h19) (go 6 ?_);by_cases h23:l[k].kind=6
  ·refine aI J (bU h23) (go 5 ?_);have hq:=hsl;rw [Ca h23] at hq;simp only [length_append] at hq;refine go 1 ?_;refine aD J (cz ((bT tabs (l.take (k)))++tabs) [117,110,108,111,99,107,32] J J J J J d6) (go 2 ?_);refine cc J call137 J (A6 l[k].ref (ok.ref Y) ok.aH0 Y Y _) ?_;rintro _ _ ⟨rfl,rfl⟩;refine aD J (cz (((bT tabs (l.take (k)))++tabs)++[117,110,108,111,99,107,32]) (fi l[k].ref) J J J J J d6) ?_;refine aD J (cz ((((bT tabs (l.take (k)))++tabs)++[117,110,108,111,99,107,32])++(fi l[k].ref)) [59] J J J J J d6) (go 6 ?_);refine aD J (cz (((((bT tabs (l.take (k)))++tabs)++[117,110,108,111,99,107,32])++(fi l[k].ref))++[59]) [10] J J J J J d6) (go 6 ?_);refine bP J (go 2 ?_);exact ⟨Y,bD (h1:=bI) (h:=ay J (cD Y) (ay J (fh (by rw [nP tabs l k Y,Ca h23];simp only [append_assoc,eV,cg,eA])) (ax J))) (λb hb=>eG _ (hb))⟩
  refine aG J (bO h23) (go 7 ?_);by_cases h27:l[k].kind=7
  ·refine aI J (bU h27) (go 17 ?_);refine aG J (bO Y) (go 6 ?_);refine cB [b1] ?_;have hq:=hsl;rw [wU h27] at hq;simp only [length_append] at hq;refine aa [0,1] 16 (go 3 ?_);refine ac 2 J (cz ((bT tabs (l.take (k)))++tabs) [105,102,32] J J J J J d6) (aa [3,4,8,9,10] 10 (go 6 ?_));refine ac 11 J (cz tabs [9] J J J J J h_) (aa [14] 8 (go 2 ?_));refine aW 5 J J (da J J V sF J (sM _ l[k].expr (bX _) Y ok.RW (ok.expr Y) Y _) ?_);rintro _ _ ⟨rfl,rfl⟩;refine ac 6 J (cz (((bT tabs (l.take (k)))++tabs)++[105,102,32]) (bv l[k].expr) J J J J J d6) ?_;refine ac 7 J (cz ((((bT tabs (l.take (k)))++tabs)++[105,102,32])++(bv l[k].expr)) [32,123,10] J J J J J d6) ?_;refine aW 12 J J (da J J V call101 J (ih1 k Y (ok.thn Y) Y _) ?_);rintro _ _ ⟨rfl,rfl⟩;refine ac 13 J (cz (((((bT tabs (l.take (k)))++tabs)++[105,102,32])++(bv l[k].expr))++[32,123,10]) (bT (tabs++[9]) l[k].thn) J J J J J d6) ?_;refine ac 15 J (cz ((((((bT tabs (l.take (k)))++tabs)++[105,102,32])++(bv l[k].expr))++[32,123,10])++(bT (tabs++[9]) l[k].thn)) tabs J J J J J d6) ?_;refine ac 16 J (cz (((((((bT tabs (l.take (k)))++tabs)++[105,102,32])++(bv l[k].expr))++[32,123,10])++(bT (tabs++[9]) l[k].thn))++tabs) [125] J J J J J d6) (aa [17] 0 (go 2 ?_));refine bH (go 6 ?_);by_cases If:(0:Int)<((l[k].els.length:Nat):Int)
   ·refine aI J (e1 If) (go 4 ?_);rw [if_neg Y] at hq;simp only [length_append] at hq;refine go 1 ?_;refine aD J (cz ((((((((bT tabs (l.take (k)))++tabs)++[105,102,32])++(bv l[k].expr))++[32,123,10])++(bT (tabs++[9]) l[k].thn))++tabs)++[125]) [32,101,108,115,101,32,123,10] J J J J J d6) (go 3 ?_);refine aD J (cz tabs [9] J J J J J h_) ?_;refine cc J call101 J (ih2 k Y (ok.els.resolve_left Y) Y _) ?_;rintro _ _ ⟨rfl,rfl⟩;refine aD J (cz (((((((((bT tabs (l.take (k)))++tabs)++[105,102,32])++(bv l[k].expr))++[32,123,10])++(bT (tabs++[9]) l[k].thn))++tabs)++[125])++[32,101,108,115,101,32,123,10]) (bT (tabs++[9]) l[k].els) J J J J J d6) (go 1 ?_);refine aD J (cz ((((((((((bT tabs (l.take (k)))++tabs)++[105,102,32])++(bv l[k].expr))++[32,123,10])++(bT (tabs++[9]) l[k].thn))++tabs)++[125])++[32,101,108,115,101,32,123,10])++(bT (tabs++[9]) l[k].els)) tabs J J J J J d6) ?_;refine aD J (cz (((((((((((bT tabs (l.take (k)))++tabs)++[105,102,32])++(bv l[k].expr))++[32,123,10])++(bT (tabs++[9]) l[k].thn))++tabs)++[125])++[32,101,108,115,101,32,123,10])++(bT (tabs++[9]) l[k].els))++tabs) [125] J J J J J d6) (go 6 ?_);refine aD J (cz ((((((((((((bT tabs (l.take (k)))++tabs)++[105,102,32])++(bv l[k].expr))++[32,123,10])++(bT (tabs++[9]) l[k].thn))++tabs)++[125])++[32,101,108,115,101,32,123,10])++(bT (tabs++[9]) l[k].els))++tabs)++[125]) [10] J J J J J d6) (go 6 ?_);refine bP J (go 2 ?_);exact ⟨Y,bD (h1:=bI) (h:=ay J (cD Y) (ay J (fh (by rw [nP tabs l k Y,wU h27,if_neg Y];simp only [append_assoc,eV,cg,eA])) (ax J))) (λb hb=>eG _ (hb))⟩
   refine aG J (fA If) (go 8 ?_);refine aD J (cz ((((((((bT tabs (l.take (k)))++tabs)++[105,102,32])++(bv l[k].expr))++[32,123,10])++(bT (tabs++[9]) l[k].thn))++tabs)++[125]) [10] J J J J J d6) (go 6 ?_);refine bP J (go 2 ?_);exact ⟨Y,bD (h1:=bI) (h:=ay J (cD Y) (ay J (fh (by rw [nP tabs l k Y,wU h27,if_pos Y];simp only [append_assoc,eV,cg,eA])) (ax J))) (λb hb=>eG _ (hb))⟩
  refine aG J (bO h27) (go 5 ?_);by_cases h38:l[k].kind=8
  ·refine aI J (bU h38) (go 14 ?_);refine aI J (bU h38) (go 8 ?_);refine cB [b1] ?_;have hq:=hsl;rw [xn h38] at hq;simp only [length_append] at hq;refine aa [0,1] 16 (go 3 ?_);refine ac 2 J (cz ((bT tabs (l.take (k)))++tabs) [119,104,105,108,101,32] J J J J J d6) (aa [3,4,8,9,10] 10 (go 6 ?_));refine ac 11 J (cz tabs [9] J J J J J h_) (aa [14] 8 (go 2 ?_));refine aW 5 J J (da J J V sF J (sM _ l[k].expr (bX _) Y ok.RW (ok.expr Y) Y _) ?_);rintro _ _ ⟨rfl,rfl⟩;refine ac 6 J (cz (((bT tabs (l.take (k)))++tabs)++[119,104,105,108,101,32]) (bv l[k].expr) J J J J J d6) ?_;refine ac 7 J (cz ((((bT tabs (l.take (k)))++tabs)++[119,104,105,108,101,32])++(bv l[k].expr)) [32,123,10] J J J J J d6) ?_;refine aW 12 J J (da J J V call101 J (ih1 k Y (ok.thn Y) Y _) ?_);rintro _ _ ⟨rfl,rfl⟩;refine ac 13 J (cz (((((bT tabs (l.take (k)))++tabs)++[119,104,105,108,101,32])++(bv l[k].expr))++[32,123,10]) (bT (tabs++[9]) l[k].thn) J J J J J d6) ?_;refine ac 15 J (cz ((((((bT tabs (l.take (k)))++tabs)++[119,104,105,108,101,32])++(bv l[k].expr))++[32,123,10])++(bT (tabs++[9]) l[k].thn)) tabs J J J J J d6) ?_;refine ac 16 J (cz (((((((bT tabs (l.take (k)))++tabs)++[119,104,105,108,101,32])++(bv l[k].expr))++[32,123,10])++(bT (tabs++[9]) l[k].thn))++tabs) [125] J J J J J d6) (aa [17] 0 (go 2 ?_));refine bH (go 6 ?_);by_cases h43:(0:Int)<((l[k].els.length:Nat):Int)
   ·refine aI J (e1 h43) (go 4 ?_);rw [if_neg Y] at hq;simp only [length_append] at hq;refine go 1 ?_;refine aD J (cz ((((((((bT tabs (l.take (k)))++tabs)++[119,104,105,108,101,32])++(bv l[k].expr))++[32,123,10])++(bT (tabs++[9]) l[k].thn))++tabs)++[125]) [32,101,108,115,101,32,123,10] J J J J J d6) (go 3 ?_);refine aD J (cz tabs [9] J J J J J h_) ?_;refine cc J call101 J (ih2 k Y (ok.els.resolve_left Y) Y _) ?_;rintro _ _ ⟨rfl,rfl⟩;refine aD J (cz (((((((((bT tabs (l.take (k)))++tabs)++[119,104,105,108,101,32])++(bv l[k].expr))++[32,123,10])++(bT (tabs++[9]) l[k].thn))++tabs)++[125])++[32,101,108,115,101,32,123,10]) (bT (tabs++[9]) l[k].els) J J J J J d6) (go 1 ?_);refine aD J (cz ((((((((((bT tabs (l.take (k)))++tabs)++[119,104,105,108,101,32])++(bv l[k].expr))++[32,123,10])++(bT (tabs++[9]) l[k].thn))++tabs)++[125])++[32,101,108,115,101,32,123,10])++(bT (tabs++[9]) l[k].els)) tabs J J J J J d6) ?_;refine aD J (cz (((((((((((bT tabs (l.take (k)))++tabs)++[119,104,105,108,101,32])++(bv l[k].expr))++[32,123,10])++(bT (tabs++[9]) l[k].thn))++tabs)++[125])++[32,101,108,115,101,32,123,10])++(bT (tabs++[9]) l[k].els))++tabs) [125] J J J J J d6) (go 6 ?_);refine aD J (cz ((((((((((((bT tabs (l.take (k)))++tabs)++[119,104,105,108,101,32])++(bv l[k].expr))++[32,123,10])++(bT (tabs++[9]) l[k].thn))++tabs)++[125])++[32,101,108,115,101,32,123,10])++(bT (tabs++[9]) l[k].els))++tabs)++[125]) [10] J J J J J d6) (go 6 ?_);refine bP J (go 2 ?_);exact ⟨Y,bD (h1:=bI) (h:=ay J (cD Y) (ay J (fh (by rw [nP tabs l k Y,xn h38,if_neg Y];simp only [append_assoc,eV,cg,eA])) (ax J))) (λb hb=>eG _ (hb))⟩
   refine aG J (fA h43) (go 8 ?_);refine aD J (cz ((((((((bT tabs (l.take (k)))++tabs)++[119,104,105,108,101,32])++(bv l[k].expr))++[32,123,10])++(bT (tabs++[9]) l[k].thn))++tabs)++[125]) [10] J J J J J d6) (go 6 ?_);refine bP J (go 2 ?_);exact ⟨Y,bD (h1:=bI) (h:=ay J (cD Y) (ay J (fh (by rw [nP tabs l k Y,xn h38,if_pos Y];simp only [append_assoc,eV,cg,eA])) (ax J))) (λb hb=>eG _ (hb))⟩
  refine aG J (bO h38) (go 5 ?_);have hq:=hsl;rw [AK ⟨h3,h7,h11,rd,h19,h23,h27,h38⟩] at hq;simp only [length_append] at hq;refine go 1 ?_;refine aD J (cz ((bT tabs (l.take (k)))++tabs) [114,101,116,117,114,110,59] J J J J J d6) (go 6 ?_);refine aD J (cz (((bT tabs (l.take (k)))++tabs)++[114,101,116,117,114,110,59]) [10] J J J J J d6) (go 6 ?_);refine bP J (go 2 ?_);exact ⟨Y,bD (h1:=bI) (h:=ay J (cD Y) (ay J (fh (by rw [nP tabs l k Y,AK ⟨h3,h7,h11,rd,h19,h23,h27,h38⟩];simp only [append_assoc,eV,cg,eA])) (ax J))) (λb hb=>eG _ (hb))⟩
 refine aG J (cv h1) (go 15 ?_);exact az (s':=⟨bx,rw⟩) J d4 ⟨mb (by rw [take_of_length_le Y]),J⟩
def G1:∀(N:Nat)(D:Nat)(l:List aE)(tabs:List UInt8),au l <= N -> N <= 900000000 -> dC D l=true -> eO l -> tabs.length <= D+1 -> (bT tabs l).length <= 1000000000000000 -> ∀s:aJ,aU prog 101 [.c (aB encS l),cK (bytes tabs)] [] s λt s'=>t=cK (bytes (bT tabs l)) /\ s'=s
 |0,D,l,tabs,hw,hN,hok,hs,ht,hL,s=>by
  have hD:=z_ D l hok;have h0:=o5 l;exact Kk D l tabs hok hs Y Y hL DW DW s
 |N+1,D,l,tabs,hw,hN,hok,hs,ht,hL,s=>by
  have hD:=z_ D l hok;have hp:∀k (hk:k<l.length),au l[k].thn <= N /\ au l[k].els <= N /\ PY D l[k]:=λk hk=>by
   have h3:=qH l k hk;rw [gM] at h3;exact ⟨Y,Y,zV (tA _ hs _ (getElem_mem hk)) (Ii D l hok _ (getElem_mem hk))⟩
  exact Kk D l tabs hok hs Y Y hL (λk hk h1 h2 s=>G1 N (D+1) l[k].thn (tabs++[9]) (hp k hk).1 Y h1 (hp k hk).2.2.aJ9 dh h2 s)
   (λk hk h1 h2 s=>G1 N (D+1) l[k].els (tabs++[9]) (hp k hk).2.1 Y h1 (hp k hk).2.2.aKa dh h2 s) s
section
variable {P:Program}{U:List Nat}{o:Oper}{st:AS}
theorem eb{t yt:bA}{x y:bb}{v w:aH}(a b:List UInt8)(ho:o.op=.binOp .add t x y yt)(hx:aw st x=some (.c (.val (.string v))))(hy:aw st y=some (.c (.val (.string w))))(hv:v=bytes a)(hw:w=bytes b)
  (hl:a.length+b.length<=9223372036854775807:=by first|omega|((try simp only [Ft,zE,List.length_nil,List.length_replicate]);omega)|grind):co P U o st (.c (.val (.string (bytes (a++b))))):=cz a b ho hx hy hv hw hl
end
end
end Go.Proofs.YtjgeihmhppadaaaGreatDoor
