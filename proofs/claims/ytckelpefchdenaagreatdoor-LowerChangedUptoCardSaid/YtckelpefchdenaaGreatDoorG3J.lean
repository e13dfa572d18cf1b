import Derived.Test.YtckelpefchdenaaGreatDoorG2J
set_option linter.all false
set_option synthInstance.maxHeartbeats 1000000
set_option synthInstance.maxSize 1000000
set_option maxHeartbeats 1600000
set_option maxRecDepth 100000
namespace Go.Proofs.YtckelpefchdenaaGreatDoor
open Go.Proofs.Tryz
open List (length_append length_cons length_nil mem_append mem_cons not_mem_nil append_assoc getElem_mem take_of_length_le)
section
open Go.RowKit
def Ze{bx bx':List aV}{rw:List aQ}(h:bx'.Perm bx):jJ ⟨bx,rw⟩ ⟨bx',rw⟩:=by
 intro w hm;have hp:((⟨bx',rw⟩:aH).bl).Perm ((⟨bx,rw⟩:aH).bl):=F7 (h.map _) (C0 _);have hu:f7 (bh (⟨bx,rw⟩:aH).bl w) (bh (⟨bx',rw⟩:aH).bl w):=up_sub λb hb=>hp.mem_iff.1 hb;exact ⟨⟨hp.nodup_iff.2 hm.nodup,λb hb=>hm.lt b (hp.mem_iff.1 hb),λx hx=>let ⟨us,e,r⟩:=hm.box x (h.mem_iff.1 hx);⟨us,e,r.mono hu⟩,λx hx=>let ⟨us,e,r⟩:=hm.row x hx;⟨us,e,r.mono hu⟩⟩,λb hb=>hp.mem_iff.1 hb⟩
def Mem.aJ8{s:aH}{w:aa}{A B:List aQ}{g cap k z:Nat}{E:ax}{cs ds:List aO}{cur cur':Array aN}{us':List aN}(h:Mem s w)(hb:s.rows=A++⟨.slice (some ⟨g,0,none⟩) k cap,E,z,k,cs⟩::B)(h1:w.heap[g]?=some (.cells cur E (0,0)))(hr:dA (bh s.bl w) ds us')
  (hkc:k <= cap) (hcm:cap <= maxLen) (hsz:cur'.size=cap*z) (htk:cur'.toList.take (k*z)=us') (hlen:us'.length=k*z):
  Mem ⟨s.boxes,A++⟨.slice (some ⟨g,0,none⟩) k cap,E,z,k,ds⟩::B⟩ (w.setRow g cur'):=by
 have hbl:(⟨s.boxes,A++⟨.slice (some ⟨g,0,none⟩) k cap,E,z,k,ds⟩::B⟩:aH).bl=s.bl:=vE;have hmem:g∈s.bl:=Kt;have hk:=zZ w g cur';have hu:f7 (bh s.bl w) (bh s.bl (w.setRow g cur')):=l_ hk IF (λx hx=>.inl hx);have hnd:=h.nodup;have hg:g∈aR (.slice (some ⟨g,0,none⟩) k cap):=gy;have hnd2:(s.boxes.map aV.b++(A.flatMap (λr=>aR r.v)++(aR (.slice (some ⟨g,0,none⟩) k cap)++B.flatMap λr=>aR r.v))).Nodup:=by
  have:=hnd;unfold aH.bl at this;rw [hb] at this;simpa using this
 have aNn:∀x,x∈s.boxes -> x.b≠g:=λx hx he=>(eF.1 hnd2).2.2 x.b (k_.2 ⟨x,hx,J⟩) g (by simp [hg]) he;have hrow:∀r,r∈A∨r∈B -> g∉aR r.v:=by
  intro r hr hm;have h2:=(eF.1 hnd2).2.1;rcases hr with hr|hr
  ·exact (eF.1 h2).2.2 g (kr.2 ⟨r,hr,hm⟩) g (gW _ hg) J
  exact (eF.1 (eF.1 h2).2.1).2.2 g hg g (kr.2 ⟨r,hr,hm⟩) J
 refine ⟨by rw [hbl];exact hnd,λx hx=>Gr,λx hx=>?_,λr hr2=>?_⟩
 ·rw [hbl];obtain ⟨us,ae,e2⟩:=h.box x hx;exact ⟨us,Pj,e2.mono hu⟩
 rw [hbl];have old:r∈A∨r∈B -> ∃us,pB (w.setRow g cur') r us /\ dA (bh s.bl (w.setRow g cur')) r.cs us:=λhr=>by
  have hr3:r∈s.rows:=Jw;obtain ⟨us,ae,e2⟩:=h.row r hr3;exact ⟨us,ae.keep λq hq=>hk.block q (h.lt q (gz _ (kr.2 ⟨r,hr3,hq⟩))) M8,e2.mono hu⟩
 simp only [mem_append,mem_cons] at hr2;rcases hr2 with hr2|rfl|hr2
 ·exact old (.inl hr2)
 ·exact ⟨us',.inl ⟨hlen,.inr ⟨g,cap,cur',J,eL _,setRow_heap w g cur _ E (0,0) h1,hkc,hcm,hsz,htk⟩⟩,hr.mono hu⟩
 exact old (.inr hr2)
def ZG{P:Program}{U:List Nat}{o:Oper}{st:AS}{K:AS -> Prop}{ty E:ax}{x y:bb}{g off z zz k cap:Nat}{cs ds r:List aO}{t:AT}(A:List aQ){B:List aQ}(ho:o.op=.store ty x y)(hd:o.dst=none)(hx:aw st x=some (ap (.pointer (some ⟨g,off,none⟩))))(hy:aw st y=some t)(hc:kc t=some ds)
  (hb:st.s.rows=A++⟨.slice (some ⟨g,0,none⟩) k cap,E,zz,k,cs⟩::B) (hS:∀w,(sizeOf ty).run P w=.ok z w) (hz:ds.length=z) (hl:off+z <= cs.length) (hr:splice cs off ds=r) (hT:g∈st.T) (hU:st.s.bl.Nodup -> g∈U)
  (h:K {st with s:=⟨st.s.boxes,A++⟨.slice (some ⟨g,0,none⟩) k cap,E,zz,k,r⟩::B⟩}):db P U o st K:=by
 intro a w hs KK QQ hK;subst hr;have hmem:(⟨.slice (some ⟨g,0,none⟩) k cap,E,zz,k,cs⟩:aQ)∈st.s.rows:=ub;obtain ⟨us,la,h2⟩:=hs.mem.row _ hmem;obtain ⟨h0,h1⟩:=la.row0 rfl;rcases h1 with ⟨h1,-⟩|⟨g',cap',cur,hv,-,hh,hkc,hcm,hcs,htk⟩
 ·cases h1
 cases hv;dsimp only at h0 hh hkc hcs htk;have hv:=uw hc (hs.ev hy);have hlen:=hv.len;have hl2:us.length=cs.length:=h2.len;have hle:k*zz <= cur.size:=by rw [hcs];exact D3 _ hkc
 have hbl:(⟨st.s.boxes,A++⟨.slice (some ⟨g,0,none⟩) k cap,E,zz,k,splice cs off ds⟩::B⟩:aH).bl=st.s.bl:=vE;have hbm:g∈st.s.bl:=Kt;generalize hvs:(a.eval y).cells.toList=vs at hv hlen;have hst:=run_storeCells_at (P:=P) g off E vs 0 cur w hh Y hv.one;simp only [ui] at hst;have hk:=zZ w g (cur.toList.take off++vs++cur.toList.drop (off+vs.length)).toArray;unfold Oper.wp;have hrun:(execOp a.eval o).run P w=.ok .skip (w.setRow g (cur.toList.take off++vs++cur.toList.drop (off+vs.length)).toArray):=by
  have hsz:(a.eval y).cells.size=z:=by rw [←sP,hvs,hlen,hz]
  simp only [execOp,ho,hs.val hx,Instr.storeAt,Instr.sureAddr,storeVar,dK,fo,eu,hS,hsz,ne_eq,not_true_eq_false,if_false,hvs];rw [hst];rfl
 rw [hrun,Oper.upon_skip,hd];have aRe:(cur.toList.take off++vs++cur.toList.drop (off+vs.length)).take (k*zz)=us.take off++vs++us.drop (off+vs.length):=by
  subst htk;refine Bw λj=>?_;rw [pD];by_cases hj:j<k*zz
  ·rw [if_pos hj];simp only [List.getElem?_append,length_append,kU,sP,pD,rK]
   repeat' split
   all_goals first|rfl|omega|(congr 1;omega)|skip
  rw [if_neg hj,AB];simp only [length_append,kU,kA,sP];omega
 have hm:=hs.mem.aJ8 (cur':=(cur.toList.take off++vs++cur.toList.drop (off+vs.length)).toArray) hb hh (h2.splice hv off) hkc hcm (by simp only [xm,length_append,kU,kA,sP];omega) aRe (by simp only [length_append,kU,kA];omega);refine hK _ _ _ h (hs.step st.T (hk.mono t_) hm (λx hx=>.inl tO)) ⟨hk.mono t_,hk.mono AA,λx hx=>.inl tO,λx hx=>.inl hx⟩ (hk.mono zN)
section
variable {P:Program}{ops:Array Oper}{Z T:List Nat}{o:Oper}{n:Nat}{s:aH}{ts:List (Nat×AT)}{K:AS -> Prop}{bx:List aV}{rw:List aQ}{Q:Exit -> AS -> Prop}{l:List Oper}
theorem three(i j k:Nat){o2 o3:Oper}{fuel:Nat}{listed:Array Bool}(hr:Region.ready .any ops listed=[i,j,k])(hi:ops.toList[i]?=some o)(hw:d6 ops o ⟨n,T,s,ts⟩=some true)(hi2:ops.toList[j]?=some o2)(hw2:d6 ops o2 ⟨n,T,s,ts⟩=some true)(hi3:ops.toList[k]?=some o3)(hw3:d6 ops o3 ⟨n,T,s,ts⟩=some true)
  (h:db P (fq s Z) o ⟨n,T,s,ts⟩ λs=>dq P ops Z fuel (listed.setIfInBounds i true) s K) (h2:db P (fq s Z) o2 ⟨n,T,s,ts⟩ λs=>dq P ops Z fuel (listed.setIfInBounds j true) s K) (h3:db P (fq s Z) o3 ⟨n,T,s,ts⟩ λs=>dq P ops Z fuel (listed.setIfInBounds k true) s K):dq P ops Z (fuel+1) listed ⟨n,T,s,ts⟩ K:=
 Dg hr rfl (uc hi hw h (uc hi2 hw2 h2 (uc hi3 hw3 h3 D')))
theorem Wu{x y:aV}{B:List aV}(h:cN P ops l ⟨n,T,⟨y::x::B,rw⟩,ts⟩ Q):cN P ops l ⟨n,T,⟨x::y::B,rw⟩,ts⟩ Q:=
 u' (rS (st:=⟨n,T,⟨x::y::B,rw⟩,ts⟩) (Ze (List.Perm.swap _ _ _))) h
theorem cz{Z:List Nat}{r:aQ}{b:Nat}[h1:AU bx Z](hn:(⟨bx,rw⟩:aH).bl.Nodup)(hb:b∈aR r.v)(hr:r∈rw:=by simp):b∈fq ⟨bx,rw⟩ Z:=by
 have h3:b∈rw.flatMap λr=>aR r.v:=kr.2 ⟨r,hr,hb⟩;refine gZ.2 ⟨gz _ h3,λhz=>?_⟩;exact (eF.1 hn).2.2 b (h1.h b hz) b h3 J
theorem pg{P:Program}{U:List Nat}{o:Oper}{st:AS}{E yt:ax}{x y:bb}{c d:UInt8}{a b r:aI}(ho:o.op=.binOp .add E x y yt)(hx:aw st x=some (cK a))(hy:aw st y=some (cK b))(ha:a=bytes [c])(hb:b=bytes [d])(hr:bytes [c,d]=r):cp P U o st (cK r):=by
 subst hr;subst hb;subst ha;exact I4 (P:=P) (U:=U) ho hx hy (by show 1+1 <= _;decide)
end
def lX{P:Program}{U T:List Nat}{o:Oper}{n:Nat}{bx:List aV}{ts:List (Nat×AT)}{K:AS -> Prop}{ty E:ax}{x y:bb}{g off z zz k cap:Nat}{cs ds r:List aO}{t:AT}(A:List aQ){B:List aQ}(ho:o.op=.store ty x y)(hd:o.dst=none)(hx:aw ⟨n,T,⟨bx,A++⟨.slice (some ⟨g,0,none⟩) k cap,E,zz,k,cs⟩::B⟩,ts⟩ x=some (ap (.pointer (some ⟨g,off,none⟩))))(hy:aw ⟨n,T,⟨bx,A++⟨.slice (some ⟨g,0,none⟩) k cap,E,zz,k,cs⟩::B⟩,ts⟩ y=some t)(hc:kc t=some ds)
  (hS:∀w,(sizeOf ty).run P w=.ok z w) (hz:ds.length=z) (hl:off+z <= cs.length) (hr:splice cs off ds=r) (hT:g∈T) (hU:(⟨bx,A++⟨.slice (some ⟨g,0,none⟩) k cap,E,zz,k,cs⟩::B⟩:aH).bl.Nodup -> g∈U)
  (h:K ⟨n,T,⟨bx,A++⟨.slice (some ⟨g,0,none⟩) k cap,E,zz,k,r⟩::B⟩,ts⟩):db P U o ⟨n,T,⟨bx,A++⟨.slice (some ⟨g,0,none⟩) k cap,E,zz,k,cs⟩::B⟩,ts⟩ K:=ZG A ho hd hx hy hc rfl hS hz hl hr hT hU h
end
section
open Go.RowKit
section
variable {m n:Int}
def bR(h:m=n):ef .eql m n=some true:=sA
def bN(h:¬m=n):ef .eql m n=some false:=sA
def gG(h:¬m=n):ef .neq m n=some true:=sA
def eG(h:m=n):ef .neq m n=some false:=sA
def cw(h:m<n):ef .lss m n=some true:=sA
def ct(h:¬m<n):ef .lss m n=some false:=ET
def zw(h:m <= n):ef .leq m n=some true:=sA
def AP(h:¬m <= n):ef .leq m n=some false:=ET
def fF(h:n<m):ef .gtr m n=some true:=sA
def fE(h:¬n<m):ef .gtr m n=some false:=ET
def oJ(h:n <= m):ef .geq m n=some true:=sA
def pF(h:¬n <= m):ef .geq m n=some false:=ET
end
section
variable {m n:ByteArray}
def ob(h:m=n):l8 .eql m n=some true:=by simp [l8,h]
def o_(h:¬m=n):l8 .eql m n=some false:=by simp [l8,h]
def Dt(h:¬m=n):l8 .neq m n=some true:=by simp [l8,h]
def A_(h:m=n):l8 .neq m n=some false:=by simp [l8,h]
end
section
variable {P:Program}{U T:List Nat}{o:Oper}{n d:Nat}{ts:List (Nat×AT)}{s:aH}{K:AS -> Prop}{st:AS}{Q:Exit -> AS -> Prop}
theorem cP{t t':AT}(h:bI t t')(hy:cp P U o st t):cp P U o st t':=λa w hs hu=>
 let ⟨v,h1,h2⟩:=hy a w hs hu
 ⟨v,h _ _ h1,h2⟩
theorem bH{a b:Bool}(h:a=b):bI (au a) (au b):=h▸bI.refl _
theorem b_{a b:Int}(h:a=b):bI (aj a) (aj b):=h▸bI.refl _
theorem fj{a b:aI}(h:a=b):bI (cK a) (cK b):=h▸bI.refl _
theorem qk{x:Bool}(h:x=true):(!x)=false:=o7
theorem qh{x:Bool}(h:x=false):(!x)=true:=o7
theorem bZ{a b:Bool}(h:b=a):AT.c (bD a)=au b:=h▸rfl
theorem ff{a b:Int}(h:b=a):AT.c (aA a)=aj b:=h▸rfl
theorem mc{a b:aI}(h:b=a):AT.c (ac a)=cK b:=h▸rfl
theorem Ub(a b:List UInt8):bytes a++bytes b=bytes (a++b):=CP wL
theorem AY(a:List UInt8):(bytes a).size=a.length:=wm
theorem dC{t yt:ax}{x y:bb}{m k:aI}(a b:List UInt8)(ho:o.op=.binOp .add t x y yt)(hx:aw st x=some (cK m))(hy:aw st y=some (cK k))(ha:m=bytes a)(hb:k=bytes b)(hl:a.length+b.length <= 9223372036854775807):cp P U o st (cK (bytes (a++b))):=by
 subst ha;subst hb;rw [←Ub];exact I4 ho hx hy (by rw [AY,AY];exact hl)
theorem back(s:aI):s=bytes s.data.toList:=wL
theorem dv{F:FuncId}{ks:Array bb}{rg:Array ax}{us:List AT}{QQ:AT -> aH -> Prop}(ho:o.op=.call {callee:=.value (.func F),args:=ks,argTypes:=rg})(hd:o.dst=some d)(hn:d<n)
  (hcf:∀args w,(callFunc F args).run P w=.ok (.enter F args) w) (has:ks.toList.map (aw ⟨n,T,s,ts⟩)=us.map some) (hc:aT P F us [] s QQ) (h:∀r s',QQ r s' -> K ⟨n,T,s',(d,r)::ts⟩):db P U o ⟨n,T,s,ts⟩ K:=
 bo [] ho hd hn hcf has hc dX dX (λ_=>dX) h
theorem m9{c:Code}(N i:Nat)(fx:Nat -> List (Nat×AT))(hs:Sub ⟨n,T,s,ts⟩ ⟨n,T,s,(i,ab 0)::fx 0⟩)
  (round:∀k,k <= N -> bi P c ⟨n,T,s,(i,ab k)::fx k⟩ (lH (λs'=>k<N /\ Sub s' ⟨n,T,s,(i,ab (k+1))::fx (k+1)⟩) Q)):bi P (.loop c) ⟨n,T,s,ts⟩ Q:=by
 refine fv (λk=>⟨n,T,s,(i,ab k)::fx k⟩) (λk=>k <= N) (λk=>N-k) 0 hs (eL _) λk hk=>sK (round k hk) λe s' h=>?_;cases e with
 |normal=>exact ⟨k+1,h.1,by have:=h.1;omega,h.2⟩
 |_=>exact h
theorem jr{c:Code}(p:Nat -> Prop)(N i:Nat)(fx:Nat -> List (Nat×AT))(hp:p 0)(hs:Sub ⟨n,T,s,ts⟩ ⟨n,T,s,(i,ab 0)::fx 0⟩)
  (round:∀k,k <= N -> p k -> bi P c ⟨n,T,s,(i,ab k)::fx k⟩ (lH (λs'=>k<N /\ p (k+1) /\ Sub s' ⟨n,T,s,(i,ab (k+1))::fx (k+1)⟩) Q)):bi P (.loop c) ⟨n,T,s,ts⟩ Q:=by
 refine fv (λk=>⟨n,T,s,(i,ab k)::fx k⟩) (λk=>k <= N /\ p k) (λk=>N-k) 0 hs ⟨eL _,hp⟩ λk hk=>sK (round k hk.1 hk.2) λe s' h=>?_;cases e with
 |normal=>exact ⟨k+1,⟨h.1,h.2.1⟩,by have:=h.1;omega,h.2.2⟩
 |_=>exact h
theorem Gs{c:Code}{bx bx0:List aV}{rw rw0:List aQ}(p:Nat -> Prop)(N i j:Nat)(E:ax)(z:Nat)(cnt:Nat -> Nat)(cs:Nat -> List aO)(T0:List Nat)(fx:Nat -> List (Nat×AT))(hp:p 0)
  (hs:Sub ⟨n,T,⟨bx0,rw0⟩,ts⟩ ⟨n,aR (.slice none 0 0)++T0,⟨bx,⟨.slice none 0 0,E,z,cnt 0,cs 0⟩::rw⟩,(i,ab 0)::(j,.c (aK))::fx 0⟩)
  (round:∀k v,k <= N -> p k -> bi P c ⟨n,aR v++T0,⟨bx,⟨v,E,z,cnt k,cs k⟩::rw⟩,(i,ab k)::(j,ap v)::fx k⟩
   (lH (λs'=>k<N /\ p (k+1) /\ ∃v',Sub s' ⟨n,aR v'++T0,⟨bx,⟨v',E,z,cnt (k+1),cs (k+1)⟩::rw⟩,(i,ab (k+1))::(j,ap v')::fx (k+1)⟩) Q)):bi P (.loop c) ⟨n,T,⟨bx0,rw0⟩,ts⟩ Q:=by
 refine fv (λg:Nat×aN=>⟨n,aR g.2++T0,⟨bx,⟨g.2,E,z,cnt g.1,cs g.1⟩::rw⟩,(i,ab g.1)::(j,ap g.2)::fx g.1⟩) (λg=>g.1 <= N /\ p g.1) (λg=>N-g.1) (0,.slice none 0 0) hs ⟨eL _,hp⟩ λg hg=>sK (round g.1 g.2 hg.1 hg.2) λe s' h=>?_;cases e with
 |normal=>
  obtain ⟨h1,h2,v',h3⟩:=h;exact ⟨(g.1+1,v'),⟨h1,h2⟩,by show N-(g.1+1)<N-g.1;omega,h3⟩
 |_=>exact h
end
def Oper.Fm{P:Program}{Q Q':Exit -> Act -> aa -> Prop}{o:Oper}{a:Act}{w:aa}{K K':Act -> aa -> Prop}(h:∀a w,K a w -> K' a w)(hq:∀e a w,e≠.normal -> Q e a w -> Q' e a w)(hl:LetsOut Q -> LetsOut Q')
  (hh:o.wp P a w K Q):o.wp P a w K' Q':=by
 unfold Oper.wp at *;generalize (execOp a.eval o).run P w=r at *;cases r with
 |ok n w'=>
  cases n<;>simp only [Oper.upon] at hh⊢<;>
   first
    |exact h _ _ hh
    |exact Calls.mono hh (λe w'' he=>by cases e<;>first|exact h _ _ he|exact hq _ _ _ aM he|exact hl he)
    |exact Rows.mono hh (λ_ _ he=>h _ _ he)
 |halt x w'=>cases x<;>simp only [Oper.upon] at hh⊢<;>first|exact hq _ _ _ aM hh|exact hh
def GM{P:Program}{ops:Array Oper}{Q Q1:Exit -> Act -> aa -> Prop}{l2:List Oper}(hn:∀a w,Q1 .normal a w -> wpList P ops Q l2 a w)(hq:∀e a w,e≠.normal -> Q1 e a w -> Q e a w):∀(l1:List Oper)(a:Act)(w:aa),wpList P ops Q1 l1 a w -> wpList P ops Q (l1++l2) a w
 |[],a,w,h=>hn a w h
 |o::l1,a,w,h=>by
  rw [eE];unfold wpList at h⊢;split at h
  ·rename_i hw;rw [if_pos hw];rcases h with h|⟨h1,a2,w2,h2⟩
   ·refine .inl ?_;have hK:∀a w,wpList P ops Q1 l1 a w -> wpList P ops Q (l1++l2) a w:=λa w=>GM hn hq l1 a w;have hL:LetsOut Q1 -> LetsOut Q:=λ⟨a,w,h⟩=>⟨a,w,hq _ a w aM h⟩;exact Oper.Fm hK hq hL h
   exact .inr ⟨h1,a2,w2,hq _ _ _ aM h2⟩
  rename_i hw;rw [if_neg hw];exact GM hn hq l1 _ _ h
class pY (N:Nat) (l:List Oper) (l1 l2:outParam (List Oper)):Prop where h:l=l1++l2
instance aBQ{l:List Oper}:pY 0 l [] l:=⟨rfl⟩
instance aCl{N:Nat}{o:Oper}{l l1 l2:List Oper}[h:pY N l l1 l2]:pY (N+1) (o::l) (o::l1) l2:=⟨by rw [h.h];rfl⟩
instance aDy{N:Nat}{o:Oper}{l m l1 l2:List Oper}[h:pY (N+1) (o::List.append l m) l1 l2]:pY (N+1) (List.append (o::l) m) l1 l2:=⟨h.h⟩
instance aG8{N:Nat}{m l1 l2:List Oper}[h:pY N m l1 l2]:pY N (List.append [] m) l1 l2:=⟨h.h⟩
instance aES{j t:Nat}{o:Oper}{l m:List Oper}[h:tG (o::List.append l m) j t]:tG (List.append (o::l) m) j t:=⟨h.h⟩
instance aDN{j t:Nat}{m:List Oper}[h:tG m j t]:tG (List.append [] m) j t:=⟨h.h⟩
instance aBi{P:Program}{ops:Array Oper}{o:Oper}{l m:List Oper}{st:AS}{Q:Exit -> AS -> Prop}{N:Nat}{g:Prop}[h:dt (N+1) (cN P ops (o::List.append l m) st Q) g]:dt (N+1) (cN P ops (List.append (o::l) m) st Q) g:=⟨h.out⟩
instance aEf{P:Program}{ops:Array Oper}{m:List Oper}{st:AS}{Q:Exit -> AS -> Prop}{N:Nat}{g:Prop}[h:dt (N+1) (cN P ops m st Q) g]:dt (N+1) (cN P ops (List.append [] m) st Q) g:=⟨h.out⟩
def UV{P:Program}{ops:Array Oper}{l l1 l2:List Oper}{st:AS}{Q:Exit -> AS -> Prop}(N:Nat)(st':AS)[hs:pY N l l1 l2](h1:cN P ops l1 st (λe s=>e=.normal /\ Sub s st'))(h2:cN P ops l2 st' Q):cN P ops l st Q:=by
 rw [hs.h];intro a w hS QQ hQ;refine GM (Q1:=λe a' w'=>match e with|.normal=>∃s,Sub s st' /\ e0 s a' w' /\ iT st w s w'|_=>False) ?_ ?_ l1 a w (h1 a w hS _ ?_)
 ·rintro a' w' ⟨s,hs1,hs2,hs3⟩;exact h2 a' w' (hs1 a' w' hs2).1 QQ λe a2 w2 s2 q k1 k2=>hQ e a2 w2 s2 q k1 ((hs3.trans (hs1.ext hs2)).trans k2)
 ·intro e a' w' he h;cases e with
  |normal=>exact absurd rfl he
  |_=>exact h.elim
 rintro e a' w' s ⟨rfl,h⟩ k1 k2;exact ⟨s,h,k1,k2⟩
def pQ{P:Program}{ops:Array Oper}{l l1 l2:List Oper}{n:Nat}{T:List Nat}{s:aH}{ts:List (Nat×AT)}{Q:Exit -> AS -> Prop}(N:Nat)(ts':List (Nat×AT))[hs:pY N l l1 l2](h1:cN P ops l1 ⟨n,T,s,ts⟩ (λe s'=>e=.normal /\ Sub s' ⟨n,T,s,ts'⟩))(h2:cN P ops l2 ⟨n,T,s,ts'⟩ Q):cN P ops l ⟨n,T,s,ts⟩ Q:=UV N _ h1 h2
def pK{P:Program}{x y:Code}{n:Nat}{T:List Nat}{s:aH}{ts:List (Nat×AT)}{Q:Exit -> AS -> Prop}(ts':List (Nat×AT))(h1:bi P x ⟨n,T,s,ts⟩ (λe s'=>e=.normal /\ Sub s' ⟨n,T,s,ts'⟩))(h2:bi P y ⟨n,T,s,ts'⟩ Q):bi P (.seq x y) ⟨n,T,s,ts⟩ Q:=
 yy (sK h1 λe s ⟨he,hs⟩=>by subst he;exact HQ (rY hs h2))
end
section
open Go.RowKit
def LI(x n:Int)(hn:0<n):-n<x.tmod n:=by
 by_cases hx:0 <= x
 ·have:=Int.tmod_nonneg n hx;omega
 have h1:=JA (-x) hn;rw [Int.neg_tmod] at h1;omega
def VJ(x n:Int)(hn:0<n):(x.tmod n+n).tmod n=x%n:=by
 have h1:=JA x hn;have h2:=LI x n hn;rw [Int.tmod_eq_emod_of_nonneg Y,Int.add_emod_right];rw [Int.tmod_def];rw [show x-n*x.tdiv n=x+n*(-(x.tdiv n)) by rw [Int.mul_neg];omega,Int.add_mul_emod_self_left]
def VX(x n:Int)(w:aa)(hn:0<n)(hn2:n <= 4611686018427387904):
  Calls prog 10 #[.int .i64 x,.int .i64 n] w λe w'=>e=.returned (.int .i64 (x%n)) /\ w=w':=by
 have h1:=JA x hn;have h2:=LI x n hn;have h3:=VJ x n hn;have h4:0 <= x%n:=As x Y;have h5:x%n<n:=FG x hn;have hw1:IntKind.i64.wrap (x.tmod n)=x.tmod n:=IntWalk.i64_in _ Y;have hw2:IntKind.i64.wrap (x.tmod n+n)=x.tmod n+n:=IntWalk.i64_in _ Y;have hw3:IntKind.i64.wrap (x%n)=x%n:=IntWalk.i64_in _ Y
 go_enter func10,Tryz.ntmps10
 go_wp2
 go_ret
 exact ⟨kz (by simp [h3]),J⟩
def LS(x n:Int)(hn:0<n)(hn2:n <= 4611686018427387904)(s:aH):aT prog 10 [aj x,aj n] [] s λr s'=>r=aj (x%n) /\ s'=s:=
 PR rfl rfl (us:=[.int .i64 x,.int .i64 n]) (λw=>VX x n w hn hn2) s
def J'{p:Prop}[Decidable p](h:p):some (decide p)=some true:=by rw [decide_eq_true h]
def Pq{p:Prop}[Decidable p](h:¬p):some (decide p)=some false:=by rw [decide_eq_false h]
end
section
def eT:Nat -> List ByteArray
 |0=>[⟨#[124,124]⟩]
 |1=>[⟨#[38,38]⟩]
 |2=>[⟨#[61,61]⟩,⟨#[33,61]⟩,⟨#[60]⟩,⟨#[60,61]⟩,⟨#[62]⟩,⟨#[62,61]⟩]
 |3=>[⟨#[43]⟩,⟨#[45]⟩]
 |_=>[⟨#[42]⟩,⟨#[47]⟩,⟨#[37]⟩]
def d8:Nat -> List Int
 |0=>[17]
 |1=>[16]
 |2=>[14,15,10,11,12,13]
 |3=>[8,9]
 |_=>[5,6,7]
def Gl(k:Nat):(d8 k).length=(eT k).length /\ 1 <= (eT k).length /\ (eT k).length <= 6:=by
 rcases k with _|_|_|_|k<;>simp [d8,eT]
def TY(k:Nat)(hk:k<5):∀j (h:j<(eT k).length),fT (eT k)[j]=false:=by
 rcases (show k=0∨k=1∨k=2∨k=3∨k=4 by omega) with rfl|rfl|rfl|rfl|rfl<;>decide
def Qn(k:Nat)(hk:k<5):∀j (h:j<(eT k).length) (h':j<(d8 k).length),(((binOp (eT k)[j]).1:Int)=(d8 k)[j]) /\ (binOp (eT k)[j]).2=k+1:=by
 rcases (show k=0∨k=1∨k=2∨k=3∨k=4 by omega) with rfl|rfl|rfl|rfl|rfl<;>decide
def ZC(k:Nat)(hk:k<5)(s:aI)(h:(binOp s).2=k+1):s∈eT k:=by
 by_cases ha:s=bytes [124,124]∨s=bytes [38,38]∨s=bytes [61,61]∨s=bytes [33,61]∨s=bytes [60]∨s=bytes [60,61]∨s=bytes [62]∨s=bytes [62,61]∨s=bytes [43]∨s=bytes [45]∨s=bytes [42]∨s=bytes [47]∨s=bytes [37]
 ·rcases (show k=0∨k=1∨k=2∨k=3∨k=4 by omega) with rfl|rfl|rfl|rfl|rfl<;>rcases ha with rfl|rfl|rfl|rfl|rfl|rfl|rfl|rfl|rfl|rfl|rfl|rfl|rfl<;>first|(exfalso;revert h;decide)|simp [eT,bytes]
 exfalso;simp only [not_or] at ha;obtain ⟨a1,a2,a3,a4,a5,a6,a7,a8,a9,b1,b2,b3,b4⟩:=ha;rw [binOp,if_neg a1,if_neg a2,if_neg a3,if_neg a4,if_neg a5,if_neg a6,if_neg a7,if_neg a8,if_neg a9,if_neg b1,if_neg b2,if_neg b3,if_neg b4] at h;simp at h
end
section
open Go.RowKit
def Hb(k:Nat):dH k=(if k/10=0 then [] else dH (k/10))++[UInt8.ofNat (48+k%10)]:=by
 conv=>lhs;rw [dH]
 by_cases h:k<10
 ·rw [if_pos h,if_pos Y,show k%10=k by omega];rfl
 rw [if_neg h,if_neg Y]
def Tt(m:Nat):∀n,n<10 ^ m -> 0<m -> (dH n).length <= m:=by
 induction m with
 |zero=>intro n _ h;omega
 |succ m ih=>
  intro n hn _;rw [Hb];by_cases h:n/10=0
  ·rw [if_pos h];simp
  rw [if_neg h,length_append];have h1:n/10<10 ^ m:=by rw [zi] at hn;omega
  have hm:0<m:=by
   rcases yD m with rfl|h2
   ·simp at h1;omega
   exact h2
  have:=ih (n/10) h1 hm;simp;omega
def z8(n:Nat)(hn:n<18446744073709551616):(dH n).length <= 20:=
 Tt 20 n (Nat.lt_trans hn V) Y
def NN(w:aa)(c:UInt8):(convert 63 9 (.slice (some ⟨w.heap.size,0,none⟩) 1 1)).run prog (w.alloc (.cells #[.int .u8 c.toNat] 5))=.ok (.string (bytes [c])) (w.alloc (.cells #[.int .u8 c.toNat] 5)):=
 G5 [c] (some ⟨w.heap.size,0,none⟩) 1 _ (.inr ⟨w.heap.size,0,rfl,λj u hu=>by
  have:=EL w (dU [c]) 5 j u hu;have e:(⟨w.heap.size,0,none⟩:Addr).add j=⟨w.heap.size,0+j,none⟩:=Aq;rw [e] at this;exact this⟩)
def bytes_append(a b:List UInt8):bytes a++bytes b=bytes (a++b):=CP wL
def EX(a:List UInt8):(bytes a).size=a.length:=wm
def ZK(n:Nat)(w:World)(u v:Value)(wr:World):Prop:=∃(k:Nat) (t:List UInt8),u=.int .u64 k /\ v=.string (bytes t) /\ dH n=(if k=0 then [] else dH k)++t /\ k <= n /\ Below w.heap.size w wr
def TJ(n:Nat)(w:aa)(hn:n<18446744073709551616):
  Calls prog 104 #[.int .u64 n] w λe w'=>e=.returned (.string (bytes (dH n))) /\ Below w.heap.size w w':=by
 have hst:=Hb n;have hl20:=z8 n hn;obtain ⟨c,hcd⟩:∃c,c=UInt8.ofNat (48+n%10):=⟨_,rfl⟩;have hc:(c.toNat:Int)=48+(n:Int)%10:=by rw [hcd,UInt8.toNat_ofNat'];omega
 rw [←hcd] at hst;have hcv:=NN w c;rw [hc] at hcv;have hb0:(n:Int) <= 18446744073709551615:=Y;have HL:=Lib.hid hl20;have HST:=Lib.hid hst;clear hc hcd hst hl20 hn
 go_enter func104,Tryz.ntmps104
 go_wp2_with fail
 go_loopw [0,3] (λu v wr=>ZK n w u v wr) (λu _ _=>(intOf u).toNat)
 case atStart=>exact ⟨n/10,[c],kw,rfl,HST.out,Y,eX⟩
 case round=>
  obtain ⟨k,t,rfl,rfl,hd,hkn,hb⟩:=hrel;have hsz:=hb.size;have htl:t.length <= 20:=by
   have:=congrArg List.length hd;rw [length_append] at this;have:=HL.out;omega
  have HD:=Lib.hid hd;clear hd hcv;by_cases hk:0<k
  ·have g1:(0:Int)<k:=Y;obtain ⟨d,hdd⟩:∃d,d=UInt8.ofNat (48+k%10):=⟨_,rfl⟩;have hdn:(d.toNat:Int)=48+(k:Int)%10:=by rw [hdd,UInt8.toNat_ofNat'];omega
   have hcv:=NN wr d;rw [hdn] at hcv;have hadd:∀W:aa,(Op.stringOp .add (bytes [d]) (bytes t)).run prog W=.ok (.string (bytes (d::t))) W:=λW=>by
    rw [run_string_add_sum (P:=prog) (w:=W) _ _ (by rw [EX,EX];simp;omega),bytes_append];rfl
   have HDD:=Lib.hid hdd;have hkb:(k:Int) <= 18446744073709551615:=Y;clear hdn hdd
   go_wp2_with fail
   go_roundw
   case rel=>
    refine ⟨k/10,d::t,kw,J,?_,Y,eX⟩;have h1:=HD.out;rw [if_neg Y,Hb k,←HDD.out] at h1;rw [h1];simp
   case measure=>simp [intOf];omega
  have g1:(k:Int) <= 0:=Y;have HK:=Lib.hid (show k=0 by omega);clear hk
  go_wp2_with fail
  go_ret
  refine ⟨?_,hb⟩;have h1:=HD.out;rw [if_pos HK.out] at h1;rw [h1];rfl
def Vm(z:Int)(n:Nat)(w:aa)(hz:z=n)(hn:n<18446744073709551616):
  Calls prog 104 #[.int .u64 z] w λe w'=>e=.returned (.string (bytes (dH n))) /\ Below w.heap.size w w':=by
 subst hz;exact TJ n w hn
def ZY(n:Int)(w:aa)(h1:-9223372036854775808 <= n)(h2:n <= 9223372036854775807):
  Calls prog 78 #[.int .i64 n] w λe w'=>e=.returned (.string (bytes (fW n))) /\ Below w.heap.size w w':=by
 obtain ⟨m,hm⟩:∃m,m=n.natAbs:=⟨_,rfl⟩;have hml:m<18446744073709551616:=Y;have hl:=z8 m hml;have hadd:∀W:aa,(Op.stringOp .add ⟨#[45]⟩ (bytes (dH m))).run prog W=.ok (.string (bytes (45::dH m))) W:=λW=>by
  rw [run_string_add_sum (P:=prog) (w:=W) _ _ (by rw [EX,show (⟨#[45]⟩:aI).size=1 from rfl];omega)];exact congrArg (λx=>Result.ok (Value.string x) W) (bytes_append [45] (dH m))
 have HM:=Lib.hid hm;have HML:=Lib.hid hml;clear hm hl hml;by_cases hn:n<0;focus
  have hnl:fW n=45::dH m:=by unfold fW;rw [if_pos hn,HM.out]
 rotate_left;have hnl:fW n=dH m:=by unfold fW;rw [if_neg hn,HM.out]
 all_goals
  have HN:=Lib.hid hnl;clear hnl
  go_enter func78,Tryz.ntmps78
  go_wp2_with (go_at_call 104;((with_reducible refine (Vm _ m _ (by have:=HM.out;omega) HML.out).mono ?_);rintro e w1 ⟨rfl,hb⟩))
  go_ret
  exact ⟨by rw [HN.out];rfl,hb⟩
def UR{w:aa}{v:aN}{n:Nat}{cells:List aN}(h:eD w v n cells)(o:Obj):eD (w.alloc o) v n cells:=h.below ((Below.refl w.heap.size w).alloc (bY _) o) (bY _)
def V4(k:Nat)(w:aa)(hk:k<5):
  Calls prog 129 #[.int .i64 k] w λe w'=>(∃v u,e=.returned (.tuple #[v,u]) /\ eD w' v (eT k).length ((eT k).map .string) /\ eD w' u (d8 k).length ((d8 k).map (.int .i64))) /\ Below w.heap.size w w':=by
 have hcases:k=0∨k=1∨k=2∨k=3∨k=4:=Y;rcases hcases with rfl|rfl|rfl|rfl|rfl;all_goals
  go_enter func129,Tryz.ntmps129
  go_wp2_with fail
  go_ret2
  exact ⟨⟨_,_,J,UR (eD.new w _ 9 _) _,eD.aHz _ _ 3 _ _ aM⟩,eX⟩
def VU(k:Nat)(hk:k<5)(op:Int)(h:op∈d8 k):dN op=k:=by
 have hcases:k=0∨k=1∨k=2∨k=3∨k=4:=Y;rcases hcases with rfl|rfl|rfl|rfl|rfl<;>simp only [d8,mem_cons,not_mem_nil,or_false] at h
 ·subst h;rfl
 ·subst h;rfl
 ·rcases h with rfl|rfl|rfl|rfl|rfl|rfl<;>rfl
 ·rcases h with rfl|rfl<;>rfl
 rcases h with rfl|rfl|rfl<;>rfl
def Zn(op:Int)(h:∀k,k<5 -> op∉d8 k):(op=3∨op=4 -> dN op=5) /\ (¬(op=3∨op=4) -> dN op=6):=by
 have h0:=h 0 Y;have h1:=h 1 Y;have h2:=h 2 Y;have h3:=h 3 Y;have h4:=h 4 Y;simp only [d8,mem_cons,not_mem_nil,or_false,not_or] at h0 h1 h2 h3 h4;unfold dN;rw [if_neg h0,if_neg h1,if_neg Y,if_neg Y,if_neg Y];exact ⟨λh=>if_pos h,λh=>if_neg h⟩
def Sb(op:Int)(w:World)(v:Value)(wr:World):Prop:=∃k:Nat,v=.int .i64 k /\ k <= 5 /\ (∀j,j<k -> op∉d8 j) /\ Below w.heap.size w wr
def WM(op:Int)(k:Nat)(v:Value):Prop:=∃i:Nat,v=.int .i64 i /\ i <= (d8 k).length /\ op∉(d8 k).take i
def RL(op:Int)(w:aa):
  Calls prog 127 #[.int .i64 op] w λe w'=>e=.returned (.int .i64 (dN op)) /\ Below w.heap.size w w':=by
 go_enter func127,Tryz.ntmps127
 go_wp2_with fail
 go_loopw [3] (λv wr=>Sb op w v wr) (λv _=>5-(intOf v).toNat)
 case atStart=>exact ⟨0,rfl,Y,λj h=>absurd h Y,Below.refl _ _⟩
 case round=>
  obtain ⟨k,rfl,hk,hno,hb⟩:=hrel;have HNO:=Lib.hid hno;clear hno;have hsz:=hb.size;by_cases hlt:k<5
  ·have g1:(k:Int)<5:=Y
   go_wp2_with (go_at_call 129;((with_reducible refine (V4 k _ hlt).mono ?_);rintro e w1 ⟨⟨v,u,rfl,hv,hu⟩,hb1⟩;clear hv;obtain ⟨a,c,rfl,hc,hr⟩:=hu;have HR:=Lib.hid hr;clear hr))
   go_hide hQ
   go_loop [6] (λv=>WM op k v) (λv=>(d8 k).length-(intOf v).toNat)
   case atStart=>exact ⟨0,rfl,Y,aM⟩
   case round=>
    obtain ⟨i,rfl,hi,hni⟩:=hrel;have HNI:=Lib.hid hni;clear hni;have hll:(d8 k).length <= 6:=by
     have hcases:k=0∨k=1∨k=2∨k=3∨k=4:=Y;rcases hcases with rfl|rfl|rfl|rfl|rfl<;>decide
    by_cases hil:i<(d8 k).length
    ·rcases HR.out with h0|⟨b,off,rfl,hr⟩
     ·exfalso;have:=congrArg List.length h0;simp at this;rw [this] at hil;simp at hil
     have hcell:=hr i (.int .i64 (d8 k)[i]) (by simp [hil]);clear hr;by_cases he:(d8 k)[i]=op
     ·have q:=VU k hlt op (he▸getElem_mem hil);have hq:((d8 k)[i] == op)=true:=by rw [he];simp
      have Q:=Lib.hid q;clear q he
      go_wp2_with fail
      subst hQ
      go_wp2_with fail
      go_ret
      exact ⟨kz (by rw [Q.out]),hb.trans (hb1.mono hsz)⟩
     have hq:((d8 k)[i] == op)=false:=uv;have HE:=Lib.hid he;clear he
     go_wp2_with fail
     go_round
     case rel=>exact ⟨i+1,kw,Y,by rw [gX hil];simp only [mem_append,jq,not_or];exact ⟨HNI.out,λh=>HE.out h.symm⟩⟩
     case measure=>simp [intOf];omega
    have hnot:op∉d8 k:=by have h:=HNI.out;rw [take_of_length_le Y] at h;exact h
    have ST:∀j,j<k+1 -> op∉d8 j:=by
     intro j hj;rcases jn j k with h|h
     ·exact HNO.out j h
     obtain rfl:j=k:=Y;exact hnot
    have HN2:=Lib.hid ST;clear hnot ST
    go_wp2_with fail
    subst hQ
    go_wp2_with fail
    go_roundw
    case rel=>exact ⟨k+1,kw,Y,HN2.out,hb.trans (hb1.mono hsz)⟩
    case measure=>simp [intOf];omega
  have hout:=Zn op (λj hj=>HNO.out j Y);have HO:=Lib.hid hout;clear hout;by_cases h3:op=3∨op=4
  ·have hs:=HO.out.1 h3;have HS:=Lib.hid hs;clear hs;rcases h3 with rfl|rfl;all_goals
    go_wp2_with fail
    go_ret
    exact ⟨kz (by rw [HS.out];rfl),hb⟩
  have hs:=HO.out.2 h3;have HS:=Lib.hid hs;have q3:(op == 3)=false:=by rw [beq_eq_false_iff_ne];exact λh=>h3 (.inl h)
  have q4:(op == 4)=false:=by rw [beq_eq_false_iff_ne];exact λh=>h3 (.inr h)
  clear hs h3
  go_wp2_with fail
  go_ret
  exact ⟨kz (by rw [HS.out];rfl),hb⟩
def Fv{P:Program}{F:FuncId}{ts:List AT}{us:List aN}{u:aN}(h1:u.oneCell'=true)(hts:ts=us.map λu=>ap u)(h:∀w,Calls P F us.toArray w λe w'=>e=.returned u /\ Below w.heap.size w w')(s:aH):aT P F ts [] s λr s'=>r=ap u /\ s'=s:=by
 intro vs w hm _ hl hr;subst hts;obtain rfl:vs=us:=by
  refine np uk λi h1 h2=>?_;have h3:=hr i qD h1;simp only [qe] at h3;exact h3.val
 exact (h w).mono λe w' ⟨h2,h3⟩=>by
  obtain ⟨hk,hm'⟩:=Bf hm h3;exact ⟨_,_,s,h2,⟨J,J⟩,.c _ _ (.val _ h1),hm',hk,λb hb=>.inl hb⟩
def O1{P:Program}{U:List Nat}{o:Oper}{st:AS}{E yt:ax}{x y:bb}{m k:Nat}(r:Nat)(ho:o.op=.binOp .rem E x y yt)(hx:aw st x=some (ab m))(hy:aw st y=some (ab k))(hk:k≠0)(hr:m%k=r):cp P U o st (ab r):=by
 subst hr;exact E7 ho hx hy Y J
def ml(i:Nat)(c:UInt8):Bool:=gH c||(decide (i≠0) && dT c)
def RN(s:aI)(h:∀j (hj:j<s.size),ml j s[j]=true):cH s=(decide (1 <= s.size) && decide (s.size <= 16) && !fT s):=by
 unfold cH;have hl:s.size=s.data.toList.length:=J;have hall:∀j (hj:j<s.data.toList.length),ml j s.data.toList[j]=true:=λj hj=>h j (by rw [hl];exact hj);rw [hl];cases hd:s.data.toList with
 |nil=>simp
 |cons c r=>
  rw [hd] at hall;have h0:=hall 0 aM;have hr:r.all dV=true:=by
   rw [fC];intro x hx;obtain ⟨i,hi,rfl⟩:=mT hx;have:=hall (i+1) pz;simpa [ml,dV] using this
  have h1:gH c=true:=by simpa [ml] using h0
  simp only [h1,hr,zl,length_cons];rw [show decide (1 <= r.length+1)=true by simp,zl]
def SD(s:aI)(k:Nat)(hk:k<s.size)(h:ml k s[k]=false):cH s=false:=by
 unfold cH;have hk':k<s.data.toList.length:=hk;have h':ml k s.data.toList[k]=false:=h;cases hd:s.data.toList with
 |nil=>rfl
 |cons c r=>
  simp only [hd] at h' hk';cases k with
  |zero=>
   have:gH c=false:=by simpa [ml] using h'
   simp [this]
  |succ k=>
   have hkr:k<r.length:=by simpa using hk'
   have hx:dV r[k]=false:=by simpa [ml,dV] using h'
   have:r.all dV=false:=by
    rw [List.all_eq_false];exact ⟨r[k],getElem_mem _,z_⟩
   simp [this]
def Wg(s:ByteArray)(v:Value):Prop:=∃k:Nat,v=.int .i64 k /\ k <= s.size /\ ∀j (hj:j<s.size),j<k -> ml j s[j]=true
def RI(s:aI)(w:aa)(hs:s.size <= 4611686018427387904):
  Calls prog 44 #[.string s] w λe w'=>e=.returned (.bool (cH s)) /\ Below w.heap.size w w':=by
 go_enter func44,Tryz.ntmps44
 go_wp2_with fail
 go_loop [3] (λv=>Wg s v) (λv=>s.size-(intOf v).toNat)
 case atStart=>exact ⟨0,rfl,Y,λj _ h=>absurd h Y⟩
 case round=>
  obtain ⟨k,rfl,hk,hall⟩:=hrel;have HA:=Lib.hid hall;clear hall;by_cases hlt:k<s.size
  ·cases hc:ml k s[k] with
   |true=>
    have aLe:∀j (hj:j<s.size),j<k+1 -> ml j s[j]=true:=by
     intro j hj h;rcases jn j k with h1|h1
     ·exact HA.out j hj h1
     obtain rfl:j=k:=Y;exact hc
    have HA2:=Lib.hid aLe;have HC:=Lib.hid hc;clear aLe hc
    go_wp2_with (first|(go_at_call 68;((with_reducible refine (nU _ _).mono ?_);rintro e w' ⟨rfl,rfl⟩))|(go_at_call 69;((with_reducible refine (oT _ _).mono ?_);rintro e w' ⟨rfl,rfl⟩)))
    all_goals first
     |(go_round;(case rel=>exact ⟨k+1,kw,Y,HA2.out⟩);(case measure=>simp [intOf];omega))
     |(exfalso;have h:=HC.out;simp [ml] at h;simp_all;done)
     |(exfalso;have h:=HC.out;simp [ml] at h;simp_all;omega)
   |false=>
    have hb:=SD s k hlt hc;have HB:=Lib.hid hb;have HC:=Lib.hid hc;clear hb hc
    go_wp2_with (first|(go_at_call 68;((with_reducible refine (nU _ _).mono ?_);rintro e w' ⟨rfl,rfl⟩))|(go_at_call 69;((with_reducible refine (oT _ _).mono ?_);rintro e w' ⟨rfl,rfl⟩)))
    all_goals first
     |(go_ret;exact ⟨by rw [HB.out];rfl,Below.refl _ _⟩)
     |(exfalso;have h:=HC.out;simp [ml] at h;simp_all;done)
     |(exfalso;have h:=HC.out;simp [ml] at h;simp_all;omega)
  ·have hnm:=RN s (λj hj=>HA.out j hj Y);have HN:=Lib.hid hnm;clear hnm
   go_wp2_with (go_at_call 70;((with_reducible refine (GP _ _).mono ?_);rintro e w1 ⟨rfl,hb⟩))
   all_goals
    go_ret
    refine ⟨qy ?_,by first|exact hb|exact Below.refl _ _⟩;rw [HN.out];simp_all
    try omega
end
section
mutual
def aS.nodes:aS -> Nat
 |.mk _ _ _ args=>1+cv args
def cv:List aS -> Nat
 |[]=>0
 |e::es=>1+e.nodes+cv es
end
def pc:∀(l:List aS)(k:Nat)(h:k<l.length),l[k].nodes<cv l
 |[],k,h=>qj
 |e::es,0,h=>by rw [cv];simp;omega
 |e::es,k+1,h=>by have:=pc es k iX;rw [cv];simp;omega
def xo:∀(l:List aS),l.length <= cv l
 |[]=>aM
 |e::es=>by have:=xo es;rw [cv];simp;omega
end
section
open Go.RowKit
def vU(x:aI)(h:x.size <= 4611686018427387904)(s:aH):aT prog 44 [cK x] [] s λr s'=>r=au (cH x) /\ s'=s:=
 Fv (us:=[.string x]) rfl rfl (λw=>RI x w h) s
def AO(op:Int)(s:aH):aT prog 127 [aj op] [] s λr s'=>r=aj (dN op:Int) /\ s'=s:=
 Fv (us:=[.int .i64 op]) rfl rfl (λw=>RL op w) s
def K_(e:aS)(k:Nat)(hk:k<e.args.length)(s:aH):aT prog 128 [.agg (bf e),ab k] [] s λt s'=>t=au (kE e.op k e.args[k].op) /\ s'=s:=by
 obtain ⟨bx,rw⟩:=s;refine bM 29 func128 ?_;refine go 7 λb1=>?_;refine bu [b1] (aU [0,1,2] 9 (go 4 ?_));refine aZ 3 J (bX bV bf e.args fw fR k J J J J Y V iR dl) (aU [4,5,7,8] 4 (go 5 ?_));refine aY 6 J J (dv J J V call127 J (AO (e.args[k].op) _) ?_);rintro _ _ ⟨rfl,rfl⟩;refine aY 9 J J (dv J J V call127 J (AO e.op _) ?_);rintro _ _ ⟨rfl,rfl⟩;refine aU [10,11] 0 (go 3 ?_);refine bC (go 5 ?_);by_cases h3:((dN (e.args[k].op):Nat):Int)<(dN e.op:Int);focus
  refine aJ J (cw h3) (go 13 ?_)
 rotate_left;focus
  refine aF J (ct h3) (go 3 ?_);by_cases h4:((dN (e.args[k].op):Nat):Int)=(dN e.op:Int);focus
   refine aJ J (bR h4) (go 2 ?_);by_cases h5:(k:Int)=1;focus
    refine aJ J (bR h5) (go 6 ?_)
   rotate_left;refine aF J (bN h5) (go 6 ?_)
  rotate_left 2;refine aF J (bN h4) (go 9 ?_)
 all_goals
  exact bF bx rw J cU ⟨bZ P7,J⟩
def J8(b:Int):∀(l:List aS)(j:Nat)(x:aS),jH b j (l++[x])=max (jH b j l) (iE x+if kE b (j+l.length) x.op then 1 else 0)
 |[],j,x=>by simp [jH]
 |y::l,j,x=>by
  rw [eE,jH,J8 b l (j+1) x,jH,Nat.max_assoc];have:j+1+l.length=j+(y::l).length:=dr;rw [this]
def An(b:Int)(l:List aS)(k:Nat)(h:k<l.length):jH b 0 (l.take (k+1))=max (jH b 0 (l.take k)) (iE l[k]+if kE b k l[k].op then 1 else 0):=by
 rw [gX h,J8,kU,tJ Y,cq]
def BZ(N:Nat):∀(e:aS),e.nodes <= N -> iE e+1 <= 2*e.nodes:=by
 induction N with
 |zero=>intro e h;cases e;rw [aS.nodes] at h;omega
 |succ N ih=>
  rintro ⟨op,num,name,args⟩ h;rw [aS.nodes] at h;have key:∀(l:List aS)(k:Nat),cv l <= N -> jH op k l <= 2*cv l:=by
   intro l;induction l with
   |nil=>intro k _;rw [jH];omega
   |cons e es ih2=>
    intro k hl;rw [cv] at hl⊢;rw [jH];have h1:=ih e Y;have h2:=ih2 (k+1) Y;split<;>omega
  have:=key args 0 Y;rw [iE,aS.nodes];split<;>omega
def FY(e:aS)(k:Nat)(h:k<e.args.length):e.args[k].nodes<e.nodes:=by
 cases e with
 |mk op num name args=>have:=pc args k h;rw [aS.nodes];show args[k].nodes<_;omega
def si(e:aS):e.args.length<e.nodes:=by
 cases e with
 |mk op num name args=>have:=xo args;rw [aS.nodes];show args.length<_;omega
def B6(e:aS):iE e=jH e.op 0 e.args+if dN e.op=5 then 1 else 0:=by cases e;rw [iE];rfl
def V_(e:aS)(hN:e.nodes <= 1000000000)(ih:∀k (h:k<e.args.length) (s:aH),aT prog 103 [.agg (bf e.args[k])] [] s λr s'=>r=aj ((iE e.args[k]:Nat):Int) /\ s'=s)(s:aH):aT prog 103 [.agg (bf e)] [] s λt s'=>t=aj (iE e:Int) /\ s'=s:=by
 obtain ⟨bx,rw⟩:=s;have hlen:=si e;refine bM 34 func103 ?_;refine go 18 λb1=>?_;refine m9 (e.args.length) 4 (λk=>[(3,aj ((jH e.op 0 (e.args.take (k)):Nat):Int)),(1,aE b1)]) (ao J) λk hk=>?_;show bi prog _ ⟨34,_,_,(4,ab k)::[(3,aj ((jH e.op 0 (e.args.take (k)):Nat):Int)),(1,aE b1)]⟩ _;refine go 7 ?_;by_cases h1:(k:Int)<(e.args.length:Int)
 ·refine aJ J (cw h1) (go 12 ?_);refine aC J (bX bV bf e.args fw fR k J J J J Y V iR dl) (go 1 ?_);refine cf J call103 J (ih k Y _) ?_;rintro _ _ ⟨rfl,rfl⟩;refine go 6 ?_;have hle:=BZ _ e.args[k] (bY _);have hnk:=FY e k Y;refine go 2 ?_;refine cf J call128 J (K_ e k Y _) ?_;rintro _ _ ⟨hr4,rfl⟩;rcases bz (kE e.op k e.args[k].op) with h5|h5;focus
   rw [h5] at hr4;subst hr4;refine go 5 ?_;refine bK J (go 6 ?_)
  rotate_left;rw [h5] at hr4;subst hr4;refine go 8 ?_;all_goals
   have hmx:=An e.op e.args k Y;refine aC J (Hm _ J J J J) (go 6 ?_);refine bK J (go 2 ?_);exact ⟨Y,(av J (b_ Y) (av J (b_ (by rw [An _ _ _ Y,h5];simp only [if_true,m4,if_false];omega)) (ao J)))⟩
 refine aF J (ct h1) (go 11 ?_);have hle0:=BZ _ e (bY _);have hq:=B6 e;obtain rfl:k=e.args.length:=Y;rw [take_of_length_le (bY _)];refine go 2 ?_;refine cf J call127 J (AO e.op _) ?_;rintro _ _ ⟨rfl,rfl⟩;by_cases h10:(dN e.op:Int)=5
 ·refine aJ J (bR h10) (go 5 ?_);refine bK J (go 10 ?_);exact bF bx rw J cU ⟨ff Mv,J⟩
 refine aF J (bN h10) (go 12 ?_);exact bF bx rw J cU ⟨ff K3,J⟩
def LF:∀(N:Nat)(e:aS),e.nodes <= N -> N <= 1000000000 -> ∀s:aH,aT prog 103 [.agg (bf e)] [] s λr s'=>r=aj (iE e:Int) /\ s'=s
 |0,e,h,_=>rW
 |N+1,e,h,hN=>V_ e Y λk hk s=>LF N e.args[k] rP Y s
def rU(e:aS):dy e=((if dN e.op=6 then ll e.op e.num e.name else decide (e.num=0) && decide (e.name=ay)) && decide (e.args.length=arity e.op) && fX e.args):=by cases e;rw [dy];rfl
def GG:∀(l:List aS)(k:Nat)(h:k<l.length),fX (l.take (k+1))=(fX (l.take k) && dy l[k])
 |e::es,0,_=>by simp [fX]
 |e::es,k+1,h=>by
  rw [jb,jb,fX,fX,GG es k iX,Bool.and_assoc]
  rfl
def Ak:∀(l:List aS)(k:Nat)(h:k<l.length),dy l[k]=false -> fX l=false
 |e::es,0,_,hs=>by rw [fX];simp only [Hk] at hs;rw [hs];rfl
 |e::es,k+1,h,hs=>by rw [fX,Ak es k iX (by simpa using hs),ra]
def X'(e:aS)(hsz:e.name.size <= 4611686018427387904)(hN:e.nodes <= 1000000000)(ih:∀k (h:k<e.args.length) (s:aH),aT prog 102 [.agg (bf e.args[k])] [] s λr s'=>r=au (dy e.args[k]) /\ s'=s)(s:aH):aT prog 102 [.agg (bf e)] [] s λt s'=>t=au (dy e) /\ s'=s:=by
 obtain ⟨bx,rw⟩:=s;have hlen:=si e;refine bM 77 func102 ?_;refine go 16 λb1=>?_;refine cf J call127 J (AO e.op _) ?_;rintro _ _ ⟨rfl,rfl⟩;refine go 5 ?_;by_cases h2:(dN e.op:Int)=6;focus
  refine aJ J (bR h2) (go 10 ?_);refine bu [b1] (aU [0,1] 26 (go 3 ?_));by_cases h4:e.op=1;focus
   refine aZ 2 J (ei true J J J (bR h4)) (aU [3,4,5] 22 (go 4 ?_));by_cases h5:(0:Int) <= e.num;focus
    refine aZ 6 J (ei true J J J (oJ h5)) (aU [7,8,9,10] 17 (go 5 ?_));by_cases h6:e.name=ay;focus
     refine aZ 11 J (fS true J J J (ob h6)) (aU [12,13,14] 13 (go 4 ?_));refine aZ 15 J (ei false J J J (bN Y)) (aU [16,17,18,19,20,21,22,23,24,25,26,27] 0 (go 13 ?_));refine bC (go 22 ?_);by_cases h8:(e.args.length:Int)=0
     ·refine aF J (eG h8) (go 2 ?_);refine aF J jL (go 23 ?_);refine jr (λk=>fX (e.args.take k)=true) (e.args.length) 6 (λk=>[(1,aE b1),(3,aj 0)]) J (ao J) λk hk hvk=>?_;replace hvk:fX (e.args.take k)=true:=hvk
      try dsimp only
      refine go 5 ?_;refine aF J (ct Y) (go 14 ?_);exact bF bx rw J cU ⟨bZ BE,J⟩
     refine aJ J (gG h8) (go 24 ?_)
    rotate_left;refine aZ 11 J (fS false J J J (o_ h6)) (aU [12,13,14] 13 (go 4 ?_));refine aZ 15 J (ei false J J J (bN Y)) (aU [16,17,18,19,20,21,22,23,24,25,26,27] 0 (go 13 ?_));refine bC (go 20 ?_)
   rotate_left 2;refine aZ 6 J (ei false J J J (pF h5)) (aU [7,8,9,10,11,12,13,14] 13 (go 9 ?_));refine aZ 15 J (ei false J J J (bN Y)) (aU [16,17,18,19,20,21,22,23,24,25,26,27] 0 (go 13 ?_));refine bC (go 20 ?_)
  rotate_left 3;focus
   refine aZ 2 J (ei false J J J (bN h4)) (aU [3,4,5,6,7,8,9,10,11,12,13,14] 13 (go 13 ?_));by_cases n9:e.op=2;focus
    refine aZ 15 J (ei true J J J (bR n9)) (aU [16,17,18] 9 (go 4 ?_));by_cases sh:e.num=0;focus
     refine aZ 19 J (ei true J J J (bR sh)) (aU [20,21,22,23] 4 (go 5 ?_));refine aY 24 J J (dv J J V call44 J (vU e.name (by first|assumption|exact hsz) _) ?_);rintro _ _ ⟨St,rfl⟩;rcases bz (cH e.name) with wd|wd;focus
      rw [wd] at St;subst St;refine aU [25,26,27] 0 (go 4 ?_);refine bC (go 22 ?_);by_cases h19:(e.args.length:Int)=0
      ·refine aF J (eG h19) (go 2 ?_);refine aF J jL (go 23 ?_);refine jr (λk=>fX (e.args.take k)=true) (e.args.length) 6 (λk=>[(1,aE b1),(3,aj 0)]) J (ao J) λk hk hvk=>?_;replace hvk:fX (e.args.take k)=true:=hvk
       try dsimp only
       refine go 5 ?_;refine aF J (ct Y) (go 14 ?_);exact bF bx rw J cU ⟨bZ BE,J⟩
      refine aJ J (gG h19) (go 24 ?_)
     rotate_left;rw [wd] at St;subst St;refine aU [25,26,27] 0 (go 4 ?_);refine bC (go 20 ?_)
    rotate_left 2;refine aZ 19 J (ei false J J J (bN sh)) (aU [20,21,22,23,24,25,26,27] 0 (go 9 ?_));refine bC (go 20 ?_)
   rotate_left 3;refine aZ 15 J (ei false J J J (bN n9)) (aU [16,17,18,19,20,21,22,23,24,25,26,27] 0 (go 13 ?_));refine bC (go 20 ?_)
 rotate_left 7;focus
  refine aF J (bN h2) (go 6 ?_);by_cases h27:(dN e.op:Int)=5;focus
   refine aJ J (bR h27) (go 16 ?_);by_cases PA:(e.args.length:Int)=1;focus
    refine aF J (eG PA) (go 2 ?_);refine aJ J J (go 3 ?_);by_cases DH:e.num=0;focus
     refine aF J (eG DH) (go 3 ?_);by_cases h31:e.name=ay
     ·refine aC J (fS false J J J (A_ h31)) (go 15 ?_);refine jr (λk=>fX (e.args.take k)=true) (e.args.length) 6 (λk=>[(1,aE b1),(3,aj 1)]) J (ao J) λk hk hvk=>?_;replace hvk:fX (e.args.take k)=true:=hvk
      try dsimp only
      refine go 5 ?_;by_cases MT:(k:Int)<1
      ·refine aJ J (cw MT) (go 12 ?_);refine aC J (bX bV bf e.args fw fR k J J J J Y V iR dl) (go 1 ?_);refine cf J call102 J (ih k Y _) ?_;rintro _ _ ⟨PB,rfl⟩;rcases bz (dy e.args[k]) with h36|h36
       ·rw [h36] at PB;subst PB;refine go 9 ?_;refine bK J (go 2 ?_);exact ⟨Y,(by rw [GG _ _ Y,hvk,h36];rfl),(av J (b_ Y) (ao J))⟩
       rw [h36] at PB;subst PB;refine go 15 ?_;exact bF bx rw J cU ⟨bZ (by rw [rU,Ak _ _ _ h36,ra]),J⟩
      refine aF J (ct MT) (go 14 ?_);exact bF bx rw J cU ⟨bZ BE,J⟩
     refine aC J (fS true J J J (Dt h31)) (go 13 ?_)
    rotate_left;refine aJ J (gG DH) (go 17 ?_)
   rotate_left 2;refine aJ J (gG PA) (go 24 ?_)
  rotate_left 3;focus
   refine aF J (bN h27) (go 14 ?_);by_cases h44:(e.args.length:Int)=2;focus
    refine aF J (eG h44) (go 2 ?_);refine aJ J J (go 3 ?_);by_cases h45:e.num=0;focus
     refine aF J (eG h45) (go 3 ?_);by_cases h46:e.name=ay
     ·refine aC J (fS false J J J (A_ h46)) (go 15 ?_);refine jr (λk=>fX (e.args.take k)=true) (e.args.length) 6 (λk=>[(1,aE b1),(3,aj 2)]) J (ao J) λk hk hvk=>?_;replace hvk:fX (e.args.take k)=true:=hvk
      try dsimp only
      refine go 5 ?_;by_cases h48:(k:Int)<2
      ·refine aJ J (cw h48) (go 12 ?_);refine aC J (bX bV bf e.args fw fR k J J J J Y V iR dl) (go 1 ?_);refine cf J call102 J (ih k Y _) ?_;rintro _ _ ⟨By,rfl⟩;rcases bz (dy e.args[k]) with h51|h51
       ·rw [h51] at By;subst By;refine go 9 ?_;refine bK J (go 2 ?_);exact ⟨Y,(by rw [GG _ _ Y,hvk,h51];rfl),(av J (b_ Y) (ao J))⟩
       rw [h51] at By;subst By;refine go 15 ?_;exact bF bx rw J cU ⟨bZ (by rw [rU,Ak _ _ _ h51,ra]),J⟩
      refine aF J (ct h48) (go 14 ?_);exact bF bx rw J cU ⟨bZ BE,J⟩
     refine aC J (fS true J J J (Dt h46)) (go 13 ?_)
    rotate_left;refine aJ J (gG h45) (go 17 ?_)
   rotate_left 2;refine aJ J (gG h44) (go 24 ?_)
 all_goals
  exact bF bx rw J cU ⟨bZ (by rw [rU];unfold ll arity;(repeat' split)<;>first|omega|(simp_all;done)|(simp_all;omega)),rfl⟩
end
section
def cD.small(N:Nat)(r:cD):Prop:=r.index.length <= 1 /\ ∀x,x∈r.index -> x.nodes <= N
def bq.small(N:Nat)(a:bq):Prop:=a.ref.small N /\ a.expr.nodes <= N
mutual
def aD.small(N:Nat):aD -> Prop
 |.mk _ _ e r a t f=>e.nodes <= N /\ r.small N /\ a.length <= N /\ (∀x,x∈a -> x.small N) /\ t.length <= N /\ smalls N t /\ f.length <= N /\ smalls N f
def smalls(N:Nat):List aD -> Prop
 |[]=>True
 |s::r=>s.small N /\ smalls N r
end
def a_.small(N:Nat)(f:a_):Prop:=f.params.length <= N /\ f.body.length <= N /\ smalls N f.body
def aX.small(N:Nat)(p:aX):Prop:=p.globals.length <= N /\ p.mutexes.length <= N /\ p.funcs.length <= N /\ ∀f,f∈p.funcs -> f.small N
end
section
open Go.RowKit
def So(op num:Int)(name:aI)(args:List aS)(hl:args.length <= 1000000000)(ih:∀k (h:k<args.length) (s:aH),aT prog 50 [.agg (bf args[k]),.agg (bf args[k])] [] s λr s'=>r=au true /\ s'=s)(s:aH):
  aT prog 50 [.agg [aA op,aA num,ac name,aG bV args],.agg [aA op,aA num,ac name,aG bV args]] [] s λr s'=>r=au true /\ s'=s:=by
 obtain ⟨bx,rw⟩:=s;refine bM 53 func50 ?_;refine go 14 λb1 b2=>?_;refine aF J jL (go 5 ?_);refine aF J jL (go 6 ?_);refine aC J (fS false J J J (by simp [l8])) (go 8 ?_);refine aF J jL (go 13 ?_);refine Va (args.length) 5 [(2,_),(3,_)] (ao J) λk hk=>?_;refine go 7 ?_;refine aC J (ei _ J J J J) (go 2 ?_);refine iD J (λhc2=>?_) (λhc2=>?_)
 ·have hk2:k<args.length:=by simpa using hc2
  refine go 5 ?_;refine bu [b2,b1] (aU [0,1,2] 9 (go 4 ?_));refine aZ 3 J (bX bV bf args fw fR k J J J J hk2 V iR dl) (aU [4,5,6,7] 4 (go 5 ?_));refine aZ 8 J (bX bV bf args fw fR k J J J J hk2 V iR dl) (aU [9] 2 (go 2 ?_));refine aY 10 J J (bo [] J J V call50 J (ih k hk2 ⟨_,_⟩) dX dX (λ_=>dX) ?_);rintro r3 s3 ⟨rfl,rfl⟩;refine aU [11] 0 (go 2 ?_);refine bC (go 7 ?_);refine bK J (go 2 ?_);exact ⟨Y,(ao J)⟩
 refine go 11 ?_;exact bF bx rw J fB ⟨J,J⟩
mutual
def Eo:∀(x:aS),x.nodes <= 1000000000 -> ∀(s:aH),aT prog 50 [.agg (bf x),.agg (bf x)] [] s λr s'=>r=au true /\ s'=s
 |.mk op num name args,hn,s=>So op num name args (by have:=xo args;simp only [aS.nodes] at hn;omega) (λk h s=>Nr args (by simp only [aS.nodes] at hn;omega) k h s) s
def Nr:∀(l:List aS),cv l <= 1000000000 -> ∀(k:Nat)(h:k<l.length)(s:aH),aT prog 50 [.agg (bf l[k]),.agg (bf l[k])] [] s λr s'=>r=au true /\ s'=s
 |[],_,_,h,_=>absurd h aM
 |e::es,hn,0,_,s=>Eo e (by simp only [cv] at hn;omega) s
 |e::es,hn,k+1,h,s=>Nr es (by simp only [cv] at hn;omega) k iX s
end
abbrev nA(l:List ByteArray):aO:=.sl l.length (l.map λs=>ac s)
abbrev nO(l:List Int):aO:=.sl l.length (l.map λn=>aA n)
def ZT(s:aH):aT prog 129 [ab 0] [] s λt s'=>t=.fd [.c (nA (eT 0)),.c (nO (d8 0))] /\ s'=s:=by
 obtain ⟨bx,rw⟩:=s;refine bM 23 func129 ?_;refine go 15 ?_;refine aJ J jL (go 6 ?_);refine aW J (bU iy ?_);refine aW J (bU qV ?_);refine go 7 ?_;exact ⟨.inr J,_,⟨bx,rw⟩,jA J (bO J) (bO J),ah (.refl _) (.refl _),J,J⟩
def ZV(s:aH):aT prog 129 [ab 1] [] s λt s'=>t=.fd [.c (nA (eT 1)),.c (nO (d8 1))] /\ s'=s:=by
 obtain ⟨bx,rw⟩:=s;refine bM 23 func129 ?_;refine go 15 ?_;refine aF J J (go 6 ?_);refine aJ J jL (go 6 ?_);refine aW J (bU iy ?_);refine aW J (bU qV ?_);refine go 7 ?_;exact ⟨.inr J,_,⟨bx,rw⟩,jA J (bO J) (bO J),ah (.refl _) (.refl _),J,J⟩
def Yt(s:aH):aT prog 129 [ab 2] [] s λt s'=>t=.fd [.c (nA (eT 2)),.c (nO (d8 2))] /\ s'=s:=by
 obtain ⟨bx,rw⟩:=s;refine bM 23 func129 ?_;refine go 15 ?_;refine aF J J (go 6 ?_);refine aF J J (go 6 ?_);refine aJ J jL (go 6 ?_);refine aW J (uM Tryz.t9 [ac ⟨#[]⟩,ac ⟨#[]⟩,ac ⟨#[]⟩,ac ⟨#[]⟩,ac ⟨#[]⟩,ac ⟨#[]⟩] J J V (.cons J (.cons J (.cons J (.cons J (.cons J (.cons J .nil)))))) oY aL J V V aL aL J ?_);refine aW J (uM Tryz.t3 [aA 0,aA 0,aA 0,aA 0,aA 0,aA 0] J J V (.cons J (.cons J (.cons J (.cons J (.cons J (.cons J .nil)))))) tn aL J V V aL aL J ?_);refine go 7 ?_;exact ⟨.inr J,_,⟨bx,rw⟩,jA J (bO J) (bO J),ah (.refl _) (.refl _),J,J⟩
def Sa(s:aH):aT prog 129 [ab 3] [] s λt s'=>t=.fd [.c (nA (eT 3)),.c (nO (d8 3))] /\ s'=s:=by
 obtain ⟨bx,rw⟩:=s;refine bM 23 func129 ?_;refine go 15 ?_;refine aF J J (go 6 ?_);refine aF J J (go 6 ?_);refine aF J J (go 6 ?_);refine aJ J jL (go 6 ?_);refine aW J (bU (hps:=(.cons J (.cons J .nil))) Fc ?_);refine aW J (uM Tryz.t3 [aA 0,aA 0] J J V (.cons J (.cons J .nil)) tn aL J V V aL aL J ?_);refine go 7 ?_;exact ⟨.inr J,_,⟨bx,rw⟩,jA J (bO J) (bO J),ah (.refl _) (.refl _),J,J⟩
def Yi(s:aH):aT prog 129 [ab 4] [] s λt s'=>t=.fd [.c (nA (eT 4)),.c (nO (d8 4))] /\ s'=s:=by
 obtain ⟨bx,rw⟩:=s;refine bM 23 func129 ?_;refine go 15 ?_;refine aF J J (go 6 ?_);refine aF J J (go 6 ?_);refine aF J J (go 6 ?_);refine aF J J (go 9 ?_);refine aW J (bU (hps:=(.cons J (.cons J (.cons J .nil)))) wC ?_);refine aW J (uM Tryz.t3 [aA 0,aA 0,aA 0] J J V (.cons J (.cons J (.cons J .nil))) tn aL J V V aL aL J ?_);refine go 5 ?_;exact ⟨.inr J,_,⟨bx,rw⟩,jA J (bO J) (bO J),ah (.refl _) (.refl _),J,J⟩
def MD(lv:Nat)(h:lv<5)(s:aH):aT prog 129 [aj (lv:Int)] [] s λt s'=>t=.fd [.c (nA (eT lv)),.c (nO (d8 lv))] /\ s'=s:=by
 rcases (show lv=0∨lv=1∨lv=2∨lv=3∨lv=4 by omega) with rfl|rfl|rfl|rfl|rfl
 ·exact ZT s
 ·exact ZV s
 ·exact Yt s
 ·exact Sa s
 exact Yi s
end
section
def pp(n:Nat)(l:List UInt8):Nat:=l.foldl (λn c=>10*n+(c.toNat-48)) n
def LK(n:Nat):pp n []=n:=rfl
def I9(n:Nat)(c:UInt8)(r:List UInt8):pp n (c::r)=pp (10*n+(c.toNat-48)) r:=by unfold pp;rw [wH]
def Y4(l:List UInt8)(c:UInt8)(n:Nat):pp n (l++[c])=10*pp n l+(c.toNat-48):=by
 unfold pp;rw [DF];rfl
def Mk(k:Nat):dT (UInt8.ofNat (48+k%10))=true:=by
 have hc:(UInt8.ofNat (48+k%10)).toNat=48+k%10:=CY;simp only [dT,decide_eq_true_eq,hc];omega
def U9(l:List UInt8):∀n,n <= pp n l:=by
 induction l with
 |nil=>intro n;exact bY _
 |cons c r ih=>intro n;have:=ih (10*n+(c.toNat-48));rw [I9];omega
def Yf(l:List UInt8)(h:∀c∈l,dT c=true):∀n,n <= 9223372036854775807 -> fY n l=if pp n l <= 9223372036854775807 then some (pp n l) else none:=by
 induction l with
 |nil=>intro n hn;rw [fY,LK,if_pos hn]
 |cons c r ih=>
  intro n hn;have hc:=h c (mq ..);simp only [dT,decide_eq_true_eq] at hc;rw [fY,I9];by_cases ho:(9223372036854775807-(c.toNat-48))/10<n
  ·rw [if_pos ho];have:=U9 r (10*n+(c.toNat-48));rw [if_neg Y]
  rw [if_neg ho,ih (λd hd=>h d (d_ _ hd)) _ Y]
def RX(c:UInt8)(h:dT c=true):gH c=false /\ isSp c=false /\ c≠47:=by
 simp only [dT,decide_eq_true_eq] at h;refine ⟨?_,?_,?_⟩
 ·simp only [gH,decide_eq_false_iff_not];omega
 ·simp only [isSp,decide_eq_false_iff_not];omega
 rintro rfl;revert h;decide
end
section
structure eV where
 kind:Nat
 text:ByteArray
 num:Nat
def Tok.pt(t:Tok):eV:=⟨t.kind,t.text,t.num⟩
def e_(s:List UInt8):eV:=⟨4,bytes s,0⟩
def mS(s:List UInt8):eV:=⟨3,bytes s,0⟩
inductive ey:List UInt8 -> List eV -> Prop where
 |nil {s:List UInt8} (h:js s=[]):ey s []
 |cons {s r:List UInt8} {kind len num:Nat} {ps:List eV} (h:js s=r) (h0:r≠[]) (hn:eK r=.tok kind len num) (ht:ey (r.drop len) ps):ey s (⟨kind,bytes (r.take len),num⟩::ps)
def ey.same{s s':List UInt8}{ps:List eV}(h:ey s ps)(he:js s'=js s):ey s' ps:=by
 cases h with
 |nil h=>exact .nil (he.trans h)
 |cons h h0 hn ht=>exact .cons (he.trans h) h0 hn ht
def ey.sp{c:UInt8}{r:List UInt8}{ps:List eV}(h:ey r ps)(hc:isSp c=true):ey (c::r) ps:=h.same (IZ hc)
def ey.bl{r:List UInt8}{ps:List eV}(h:ey r ps):ey (32::r) ps:=h.sp V
def ey.end:ey [] []:=.nil FT
def zk(r:List UInt8):Prop:=∀c,r.head?=some c -> dV c=false
def KJ{p:UInt8 -> Bool}{l r:List UInt8}(h:∀c∈l,p c=true)(hr:∀c,r.head?=some c -> p c=false):(l++r).takeWhile p=l:=by
 induction l with
 |nil=>
  cases r with
  |nil=>rfl
  |cons c r=>rw [ck,List.takeWhile_cons_of_neg];rw [hr c rfl];simp
 |cons c l ih=>rw [eE,uJ (h c (mq ..)),ih λd hd=>h d (d_ _ hd)]
def PY{c:UInt8}(h:gH c=true):isSp c=false /\ c≠47:=by
 simp only [gH,decide_eq_true_eq] at h;refine ⟨?_,?_⟩
 ·simp only [isSp,decide_eq_false_iff_not];omega
 rintro rfl;revert h;decide
def ey.letters{s r:List UInt8}{ps:List eV}(h:ey r ps)(c:UInt8)(q:List UInt8)(hs:s=c::q)(hc:gH c=true)(hq:∀d∈q,dV d=true)(hl:s.length <= 16)(hr:zk r):ey (s++r) (⟨if fT (bytes s) then 3 else 1,bytes s,0⟩::ps):=by
 subst hs;have ht:((c::q)++r).takeWhile dV=c::q:=KJ (λd hd=>by
  rcases mem_cons.1 hd with rfl|hd
  ·simp [dV,hc]
  exact hq d hd) hr
 have hn:eK ((c::q)++r)=.tok (if fT (bytes (c::q)) then 3 else 1) (c::q).length 0:=by
  rw [eE] at ht⊢;rw [ut hc,ht,if_neg Y]
 have:=ey.cons (s:=(c::q)++r) (r:=(c::q)++r) (yV (r:=q++r) (PY hc).1 (λh=>(PY hc).2 h.1)) aM hn (ps:=ps) (by rw [List.drop_left];exact h);rw [List.take_left] at this;exact this
def Vi(s:aI):bytes s.data.toList=s:=wL
def ey.name{r:List UInt8}{ps:List eV}(h:ey r ps)(s:aI)(hs:cH s=true)(hr:zk r):ey (s.data.toList++r) (⟨1,s,0⟩::ps):=by
 unfold cH at hs;split at hs
 ·cases hs
 rename_i c q he;simp only [dm,fC,decide_eq_true_eq,zq] at hs;obtain ⟨⟨⟨h1,h2⟩,h3⟩,h4⟩:=hs;have:=h.letters (s:=s.data.toList) c q he h1 h2 (by exact h3) hr;rw [Vi,h4] at this;exact this
def Wx(n:Nat):∀c∈dH n,dT c=true:=by
 induction n using dH.induct with
 |case1 n h=>
  rw [dH,if_pos h];intro c hc;simp only [jq] at hc;subst hc;have:=Mk n
  rwa [Nat.mod_eq_of_lt h] at this
 |case2 n h ih=>
  rw [dH,if_neg h];intro c hc;rcases mem_append.1 hc with hc|hc
  ·exact ih c hc
  simp only [jq] at hc;subst hc;exact Mk n
def Xb(n:Nat):dH n≠[]:=by rw [dH];split<;>simp
def ZN(n:Nat):pp 0 (dH n)=n:=by
 induction n using dH.induct with
 |case1 n h=>
  have hc:(UInt8.ofNat (48+n)).toNat=48+n:=CY;rw [dH,if_pos h,I9,LK,hc];omega
 |case2 n h ih=>
  have hc:(UInt8.ofNat (48+n%10)).toNat=48+n%10:=CY;rw [dH,if_neg h,Y4,ih,hc];omega
def ey.num{r:List UInt8}{ps:List eV}(h:ey r ps)(n:Nat)(hn:n <= 9223372036854775807)(hr:zk r):ey (dH n++r) (⟨2,bytes (dH n),n⟩::ps):=by
 obtain ⟨c,q,he⟩:=EO (Xb n);have hd:=Wx n;have hv:=Yf (dH n) hd 0 Y;rw [ZN,if_pos hn] at hv;have ht:(dH n++r).takeWhile dT=dH n:=KJ hd λc hc=>by
  have:=hr c hc;unfold dV at this;simp only [Bool.or_eq_false_iff] at this;exact this.2
 have hc:=hd c (by rw [he];exact mq ..);have hx:=RX c hc;have hnx:eK (dH n++r)=.tok 2 (dH n).length n:=by
  rw [he,eE] at ht⊢;rw [xO hx.1 hc (n:=n) (by rw [ht,←he];exact hv),ht]
 have:=ey.cons (s:=dH n++r) (r:=dH n++r) (by rw [he];exact yV (r:=q++r) hx.2.1 (λh=>hx.2.2 h.1)) (by rw [he];simp) hnx (ps:=ps) (by rw [List.drop_left];exact h);rw [List.take_left] at this;exact this
def Tp:∀c,c∈j_ -> gH c=false /\ dT c=false /\ isSp c=false:=V
def ey.one{r:List UInt8}{ps:List eV}(h:ey r ps)(c:UInt8)(hc:c∈j_)(hr:∀d,r.head?=some d -> [c,d]∉kV /\ ¬(c=47 /\ d=47)):ey (c::r) (e_ [c]::ps):=by
 obtain ⟨h1,h2,h3⟩:=Tp c hc;have hno:¬(2 <= (c::r).length /\ (c::r).take 2∈kV):=by
  rintro ⟨h4,h5⟩;cases r with
  |nil=>simp at h4
  |cons d r=>exact (hr d rfl).1 h5
 have hn:eK (c::r)=.tok 4 1 0:=by rw [wB h1 h2,GR hno hc];rfl
 exact ey.cons (yV h3 (λ⟨h4,h5⟩=>(hr 47 h5).2 ⟨h4,J⟩)) aM hn h
def Vz:∀x,x∈kV -> gH (x.headD 0)=false /\ dT (x.headD 0)=false /\ isSp (x.headD 0)=false /\ x.headD 0≠47:=V
def ey.two{r:List UInt8}{ps:List eV}(h:ey r ps)(c d:UInt8)(hc:[c,d]∈kV):ey (c::d::r) (e_ [c,d]::ps):=by
 obtain ⟨h1,h2,h3,h4⟩:=Vz _ hc;have hn:eK (c::d::r)=.tok 4 2 0:=by rw [wB (c:=c) h1 h2,GK (l:=c::d::r) aM hc];rfl
 exact ey.cons (yV h3 (λh5=>h4 h5.1)) aM hn h
def Fin(r:List UInt8):Prop:=∀c,r.head?=some c -> c∈([32,41,93,59,44]:List UInt8)
def Fin.cons{c:UInt8}{r:List UInt8}(h:c∈([32,41,93,59,44]:List UInt8)):Fin (c::r):=λd hd=>by cases hd;exact h
def Fin.nil:Fin []:=λc hc=>by cases hc
def zk.cons{c:UInt8}{r:List UInt8}(h:dV c=false):zk (c::r):=λd hd=>by cases hd;exact h
def WS:∀c,c∈([40,41,123,125,91,93,44,59,43,45,42,37]:List UInt8) -> c∈j_ /\ c≠47 /\ ∀x,x∈kV -> x.headD 0≠c:=V
def ey.free{r:List UInt8}{ps:List eV}(h:ey r ps)(c:UInt8)(hc:c∈([40,41,123,125,91,93,44,59,43,45,42,37]:List UInt8)):ey (c::r) (e_ [c]::ps):=by
 obtain ⟨h1,h2,h3⟩:=WS c hc;exact h.one c h1 λd _=>⟨λhm=>h3 _ hm J,λh4=>h2 h4.1⟩
end
section
inductive nh:aS -> Prop where
 |num (n:Nat) (h:n <= 9223372036854775807):nh (.mk 1 n ay [])
 |name (s:ByteArray) (h:cH s=true):nh (.mk 2 0 s [])
 |un (op:Int) (x:aS) (h:op=3∨op=4) (hx:nh x):nh (.mk op 0 ay [x])
 |bin (op:Int) (x y:aS) (h:5 <= op /\ op <= 17) (hx:nh x) (hy:nh y):nh (.mk op 0 ay [x,y])
def uF(b:Bool)(t:List eV):List eV:=if b then e_ [40]::(t++[e_ [41]]) else t
def M4(op num:Int)(name:ByteArray)(ts:List (List eV)):List eV:=
 if op=1 then [⟨2,bytes (dH num.natAbs),num.natAbs⟩] else if op=2 then [⟨1,name,0⟩] else if op=3 then e_ [45]::ts.getD 0 [] else if op=4 then e_ [33]::ts.getD 0 [] else
 ts.getD 0 []++e_ (oU op)::ts.getD 1 []
mutual
def ep:aS -> List eV
 |.mk op num name args=>M4 op num name (rz op 0 args)
def rz(b:Int):Nat -> List aS -> List (List eV)
 |_,[]=>[]
 |k,e::es=>uF (kE b k e.op) (ep e)::rz b (k+1) es
end
def Nl(n:Nat):ep (.mk 1 n ay [])=[⟨2,bytes (dH n),n⟩]:=by rw [ep,rz];rfl
def Qx(s:aI):ep (.mk 2 0 s [])=[⟨1,s,0⟩]:=by rw [ep,rz];rfl
def PF{op:Int}(h:op=3∨op=4)(x:aS):ep (.mk op 0 ay [x])=e_ [if op=3 then 45 else 33]::uF (kE op 0 x.op) (ep x):=by
 rw [ep,rz,rz];rcases h with rfl|rfl<;>rfl
def Lc{op:Int}(h:5 <= op /\ op <= 17)(x y:aS):ep (.mk op 0 ay [x,y])=uF (kE op 0 x.op) (ep x)++e_ (oU op)::uF (kE op 1 y.op) (ep y):=by
 rw [ep,rz,rz,rz];unfold M4;rw [if_neg Y,if_neg Y,if_neg Y,if_neg Y]
 rfl
def Hw(r:List UInt8):Prop:=∃c q,r=c::q /\ c≠61 /\ c≠38 /\ c≠124 /\ c≠47
def Hw.app{r:List UInt8}(h:Hw r)(s:List UInt8):Hw (r++s):=by
 obtain ⟨c,q,rfl,h1⟩:=h;exact ⟨c,q++s,J,h1⟩
def Seg(l:List Tok)(k:Nat)(ps:List eV):Prop:=ps <+:(l.map Tok.pt).drop k
def Seg.app{l:List Tok}{k:Nat}{a b:List eV}(h:Seg l k (a++b)):Seg l k a /\ Seg l (k+a.length) b:=by
 obtain ⟨t,ht⟩:=h;refine ⟨⟨b++t,by rw [←ht,append_assoc]⟩,⟨t,?_⟩⟩;rw [←C3,←ht,append_assoc,List.drop_left]
def um(l:List Tok)(k m:Nat):Prop:=¬((dn l k).kind=4 /\ m <= (binOp (dn l k).text).2)
def um.mono{l:List Tok}{k m n:Nat}(h:um l k m)(hn:m <= n):um l k n:=λhh=>h ⟨hh.1,Y⟩
section
variable {l:List Tok}
structure Reads (l:List Tok) (e:aS):Prop where
 single:∀d k,iE e <= d -> Seg l k (ep e) -> 5 <= dN e.op -> fA l d k=.ok e (k+(ep e).length)
 bin:∀d k j,iE e <= d -> Seg l k (ep e) -> j <= 5 -> 5 <= dN e.op+j -> um l (k+(ep e).length) (6-j) -> iW l (fA l d) j k=.ok e (k+(ep e).length)
 chain:∀d k j,iE e <= d -> Seg l k (ep e) -> j<5 -> 5 <= dN e.op+(j+1) -> um l (k+(ep e).length) (6-j) -> ∃a k0 m,iW l (fA l d) j k=.ok a k0 /\ m <= (ep e).length /\ ∀n,jt l (iW l (fA l d) j) (5-j) (m+n) a k0=jt l (iW l (fA l d) j) (5-j) n e (k+(ep e).length)
def Reads.of{e:aS}(single:∀d k,iE e <= d -> Seg l k (ep e) -> 5 <= dN e.op -> fA l d k=.ok e (k+(ep e).length))
  (step:∀d k j,iE e <= d -> Seg l k (ep e) -> j<5 -> dN e.op+j=4 -> um l (k+(ep e).length) (6-j) -> ∃a k0 m,iW l (fA l d) j k=.ok a k0 /\ m <= (ep e).length /\ ∀n,jt l (iW l (fA l d) j) (5-j) (m+n) a k0=jt l (iW l (fA l d) j) (5-j) n e (k+(ep e).length)):Reads l e:=by
 have bin:∀j d k,iE e <= d -> Seg l k (ep e) -> j <= 5 -> 5 <= dN e.op+j -> um l (k+(ep e).length) (6-j) -> iW l (fA l d) j k=.ok e (k+(ep e).length):=by
  intro j;induction j with
  |zero=>intro d k hd hs _ h5 hf;exact single d k hd hs Y
  |succ j ih=>
   intro d k hd hs hj h5 hf;by_cases h6:5 <= dN e.op+j
   ·unfold iW;rw [ih d k hd hs Y h6 (hf.mono Y)];show jt l _ (5-j) (l.length+1) _ _=_;unfold jt;rw [if_neg];rintro ⟨h1,h2⟩;exact hf ⟨h1,Y⟩
   obtain ⟨a,k0,m,h1,h2,h3⟩:=step d k j hd hs Y Y (hf.mono Y);have hl:(ep e).length <= l.length:=by
    obtain ⟨t,ht⟩:=hs;have:=congrArg List.length ht;simp at this;omega
   unfold iW;rw [h1];show jt l _ (5-j) (l.length+1) _ _=_;have:=h3 (l.length-m+1);rw [show m+(l.length-m+1)=l.length+1 by omega] at this;rw [this];unfold jt;rw [if_neg];rintro ⟨h1,h2⟩;exact hf ⟨h1,Y⟩
 refine ⟨single,λd k j hd hs hj h5 hf=>bin j d k hd hs hj h5 hf,λd k j hd hs hj h5 hf=>?_⟩;by_cases h6:5 <= dN e.op+j
 ·exact ⟨e,_,0,bin j d k hd hs Y h6 hf,Y,λn=>by rw [cq]⟩
 exact step d k j hd hs hj Y hf
end
end
section
def qn(s:ByteArray):eV:=⟨1,s,0⟩
def IU(n:Nat):eV:=⟨2,bytes (dH n),n⟩
def yM(e:aS):Prop:=nh e /\ iE e <= 24
inductive AN:cD -> Prop where
 |one (n:ByteArray) (h:cH n=true):AN ⟨n,[]⟩
 |el (n:ByteArray) (e:aS) (h:cH n=true) (he:yM e):AN ⟨n,[e]⟩
inductive xp:bq -> Prop where
 |mutex (r:cD) (h:AN r):xp ⟨true,r,.zero⟩
 |expr (e:aS) (h:yM e):xp ⟨false,.zero,e⟩
inductive iI:Nat -> List aD -> Prop where
 |nil {d:Nat}:iI d []
 |var {d:Nat} {n:ByteArray} {e:aS} {r:List aD} (hn:cH n=true) (he:yM e) (h:iI d r):iI d (.mk 1 n e .zero [] [] []::r)
 |assign {d:Nat} {n:ByteArray} {e:aS} {r:List aD} (hn:cH n=true) (he:yM e) (h:iI d r):iI d (.mk 2 n e .zero [] [] []::r)
 |call {d:Nat} {n:ByteArray} {a:List bq} {r:List aD} (hn:cH n=true) (ha:∀x,x∈a -> xp x) (h:iI d r):iI d (.mk 3 n .zero .zero a [] []::r)
 |go {d:Nat} {n:ByteArray} {a:List bq} {r:List aD} (hn:cH n=true) (ha:∀x,x∈a -> xp x) (h:iI d r):iI d (.mk 4 n .zero .zero a [] []::r)
 |lock {d:Nat} {f:cD} {r:List aD} (hf:AN f) (h:iI d r):iI d (.mk 5 ay .zero f [] [] []::r)
 |unlock {d:Nat} {f:cD} {r:List aD} (hf:AN f) (h:iI d r):iI d (.mk 6 ay .zero f [] [] []::r)
 |cond {d:Nat} {e:aS} {t f r:List aD} (he:yM e) (ht:iI d t) (hf:iI d f) (h:iI (d+1) r):iI (d+1) (.mk 7 ay e .zero [] t f::r)
 |loop {d:Nat} {e:aS} {t r:List aD} (he:yM e) (ht:iI d t) (h:iI (d+1) r):iI (d+1) (.mk 8 ay e .zero [] t []::r)
 |ret {d:Nat} {r:List aD} (h:iI d r):iI d (.mk 9 ay .zero .zero [] [] []::r)
def uz(r:cD):List eV:=match r.index with|[]=>[qn r.name]|e::_=>qn r.name::e_ [91]::(ep e++[e_ [93]])
def xX(a:bq):List eV:=if a.mutex then mS [109,117,116,101,120]::uz a.ref else ep a.expr
def sw{α:Type}(f:α -> List eV):List α -> List eV
 |[]=>[]
 |x::r=>f x++(r.map λy=>e_ [44]::f y).flatten
def Xp{α:Type}(f:α -> List eV)(x y:α)(r:List α):sw f (x::y::r)=f x++e_ [44]::sw f (y::r):=by simp [sw]
def Ft(l:List bq):List eV:=e_ [40]::(sw xX l++[e_ [41]])
mutual
def nF:aD -> List eV
 |.mk kind name expr ref args thn els=>
  (if kind=1 then mS [118,97,114]::qn name::e_ [61]::(ep expr++[e_ [59]])
   else if kind=2 then qn name::e_ [61]::(ep expr++[e_ [59]])
   else if kind=3 then qn name::(Ft args++[e_ [59]])
   else if kind=4 then mS [103,111]::qn name::(Ft args++[e_ [59]])
   else if kind=5 then mS [108,111,99,107]::(uz ref++[e_ [59]])
   else if kind=6 then mS [117,110,108,111,99,107]::(uz ref++[e_ [59]])
   else if kind=7∨kind=8 then
    (if kind=8 then mS [119,104,105,108,101] else mS [105,102])::(ep expr++e_ [123]::(jo thn++e_ [125]::
     (if els.length=0 then [] else mS [101,108,115,101]::e_ [123]::(jo els++[e_ [125]]))))
   else [mS [114,101,116,117,114,110],e_ [59]])
def jo:List aD -> List eV
 |[]=>[]
 |s::r=>nF s++jo r
end
section
variable {r:List UInt8}{ps:List eV}
def ey.nl(h:ey r ps):ey (10::r) ps:=h.sp V
def ey.semi(h:ey r ps):ey (59::10::r) (e_ [59]::ps):=h.nl.free 59 V
end
section
variable {l:List Tok}{k:Nat}
def Seg.len{ps:List eV}(h:Seg l k ps)(hk:k <= l.length):k+ps.length <= l.length:=by
 obtain ⟨t,ht⟩:=h;have:=congrArg List.length ht;simp at this;omega
def V7{s:List UInt8}(h:(dn l k).pt=mS s)(u:List UInt8):gM l k u=decide (bytes s=bytes u):=by
 have h1:(dn l k).kind=3:=congrArg eV.kind h;have h2:(dn l k).text=bytes s:=congrArg eV.text h;unfold gM;rw [h1,h2];simp
def Ys{t:eV}(h:(dn l k).pt=t)(ht:t.kind≠3)(u:List UInt8):gM l k u=false:=by
 have h1:(dn l k).kind=t.kind:=congrArg eV.kind h;unfold gM;rw [h1,decide_eq_false ht];rfl
def KV(t:eV):Prop:=t.kind=1∨t.kind=2∨∃c,t=e_ [c] /\ c∈([45,33,40]:List UInt8)
def nh.dg{e:aS}(h:nh e):∃t q,ep e=t::q /\ KV t:=by
 induction h with
 |num n h=>exact ⟨_,_,Nl n,.inr (.inl rfl)⟩
 |name s h=>exact ⟨_,_,Qx s,.inl rfl⟩
 |un op x h hx ih=>
  refine ⟨_,_,PF h x,.inr (.inr ⟨_,J,?_⟩)⟩;rcases h with rfl|rfl<;>decide
 |bin op x y h hx hy ihx ihy=>
  rw [Lc h];cases kE op 0 x.op with
  |true=>exact ⟨_,_,rfl,.inr (.inr ⟨40,rfl,V⟩)⟩
  |false=>
   obtain ⟨t,q,h1,h2⟩:=ihx;exact ⟨t,_,by show ep x++_=_;rw [h1];rfl,h2⟩
def xp.dg{a:bq}(h:xp a):∃t q,xX a=t::q /\ (t.kind=3∨KV t):=by
 cases h with
 |mutex f h=>exact ⟨_,_,rfl,.inl rfl⟩
 |expr e h=>
  obtain ⟨t,q,h1,h2⟩:=h.1.dg;exact ⟨t,q,h1,.inr h2⟩
end
end
section
section
variable {l:List Tok}
def Iz(t:eV):Prop:=t.kind=1∨∃s,t=mS s /\ decide (bytes s=bytes [101,108,115,101])=false
def Iz.els{t:eV}{k:Nat}(h:Iz t)(ht:(dn l k).pt=t):gM l k [101,108,115,101]=false:=by
 rcases h with h|⟨u,rfl,hu⟩
 ·exact Ys ht Y _
 rw [V7 ht];exact hu
def iI.dg{d:Nat}{s:aD}{r:List aD}(h:iI d (s::r)):∃t q,nF s=t::q /\ Iz t:=by
 cases h with
 |var|go|lock|unlock|ret|loop|cond=>exact ⟨_,_,by rw [nF];rfl,.inr ⟨_,rfl,V⟩⟩
 |assign|call=>exact ⟨_,_,by rw [nF];rfl,.inl rfl⟩
def iI.tail{d:Nat}{s:aD}{r:List aD}(h:iI d (s::r)):iI d r:=by cases h<;>assumption
end
end
section
inductive tL where
 |aJ9 (g:bw)
 |mtx (m:cn)
 |fn (f:a_)
def Y8(g:bw):Prop:=cH g.name=true /\ g.init.natAbs <= 9223372036854775807
def SG(m:cn):Prop:=cH m.name=true /\ 0 <= m.size /\ m.size <= 64 /\ (m.ex=true -> m.size=0)
def Wt(f:a_):Prop:=cH f.name=true /\ f.params.length <= 6 /\ (∀x,x∈f.params -> cH x.name=true) /\ iI 23 f.body
def tL.ok:tL -> Prop
 |.aJ9 g=>Y8 g
 |.mtx m=>SG m
 |.fn f=>Wt f
def tL.text:tL -> List UInt8
 |.aJ9 g=>cT g
 |.mtx m=>ci m
 |.fn f=>funcText f
def XZ(g:bw):List eV:=mS [118,97,114]::qn g.name::((if g.init=0 then [] else e_ [61]::(if g.init<0 then [e_ [45],IU g.init.natAbs] else [IU g.init.natAbs]))++[e_ [59]])
def Tz(m:cn):List eV:=(if m.ex then mS [114,109,117,116,101,120] else mS [109,117,116,101,120])::qn m.name::((if 0<m.size then [e_ [91],IU m.size.natAbs,e_ [93]] else [])++[e_ [59]])
def UE(x:bg):List eV:=(if x.mutex then [mS [109,117,116,101,120]] else [])++[qn x.name]
def W9(f:a_):List eV:=mS [102,117,110,99]::qn f.name::e_ [40]::(sw UE f.params++e_ [41]::e_ [123]::(jo f.body++[e_ [125]]))
def tL.toks:tL -> List eV
 |.aJ9 g=>XZ g
 |.mtx m=>Tz m
 |.fn f=>W9 f
def tL.add(x:aX):tL -> aX
 |.aJ9 g=>{x with globals:=x.globals++[g]}
 |.mtx m=>{x with mutexes:=x.mutexes++[m]}
 |.fn f=>{x with funcs:=x.funcs++[f]}
end
section
def fit(n:Int):Prop:=-9223372036854775808 <= n /\ n <= 9223372036854775807
mutual
def aS.bt:aS -> Prop
 |.mk _ num name args=>fit num /\ name.size <= 4611686018427387904 /\ jM args
def jM:List aS -> Prop
 |[]=>True
 |e::es=>e.bt /\ jM es
end
def cD.bt(r:cD):Prop:=r.name.size <= 4611686018427387904 /\ jM r.index
def bq.bt(a:bq):Prop:=a.ref.bt /\ a.expr.bt
mutual
def aD.bt:aD -> Prop
 |.mk _ n e r args t el=>n.size <= 4611686018427387904 /\ e.bt /\ r.bt /\ (∀a,a∈args -> a.bt) /\ eI t /\ eI el
def eI:List aD -> Prop
 |[]=>True
 |s::r=>s.bt /\ eI r
end
def a_.bt(f:a_):Prop:=f.name.size <= 4611686018427387904 /\ (∀x,x∈f.params -> x.name.size <= 4611686018427387904) /\ eI f.body
structure aX.bt (p:aX):Prop where
 globals:∀g,g∈p.globals -> fit g.init /\ g.name.size <= 4611686018427387904
 mutexes:∀m,m∈p.mutexes -> fit m.size /\ m.name.size <= 4611686018427387904
 funcs:∀f,f∈p.funcs -> f.bt
def qN:∀(l:List aS),jM l -> ∀e,e∈l -> e.bt
 |[],_,_,h=>gQ
 |x::l,hs,e,h=>by
  rw [jM] at hs;rcases mem_cons.1 h with rfl|h
  ·exact hs.1
  exact qN l hs.2 e h
def tg:∀(l:List aD),eI l -> ∀e,e∈l -> e.bt
 |[],_,_,h=>gQ
 |x::l,hs,e,h=>by
  rw [eI] at hs;rcases mem_cons.1 h with rfl|h
  ·exact hs.1
  exact tg l hs.2 e h
def JW(op:Int):(dN op<5 /\ 5 <= op /\ op <= 17)∨(dN op=5 /\ (op=3∨op=4))∨dN op=6:=by
 unfold dN
 repeat' split
 all_goals omega
mutual
def NP:∀(e:aS),e.bt -> dy e=true -> nh e
 |.mk op num name args,hs,h=>by
  rw [aS.bt] at hs;rw [dy] at h;simp only [dm,decide_eq_true_eq] at h;obtain ⟨⟨h1,h2⟩,h3⟩:=h;have hv:=NE args hs.2.2 h3;rcases JW op with ⟨k1,k2⟩|⟨k1,k2⟩|k1
  ·rw [if_neg Y] at h1;simp only [dm,decide_eq_true_eq] at h1;obtain ⟨rfl,rfl⟩:=h1;rw [arity,if_neg Y,if_neg Y] at h2
   match args,h2,hv with
   |[a,b],_,hv=>exact .bin op a b k2 (hv a aM) (hv b aM)
  ·rw [if_neg Y] at h1;simp only [dm,decide_eq_true_eq] at h1;obtain ⟨rfl,rfl⟩:=h1;rw [arity,if_neg Y,if_pos k1] at h2
   match args,h2,hv with
   |[a],_,hv=>exact .un op a k2 (hv a aM)
  rw [if_pos k1] at h1;rw [arity,if_pos k1] at h2;obtain rfl:=ke.1 h2;unfold ll at h1;simp only [nP,dm,decide_eq_true_eq] at h1;rcases h1 with ⟨⟨rfl,h0⟩,rfl⟩|⟨⟨rfl,rfl⟩,h0⟩
  ·obtain ⟨n,rfl⟩:∃n:Nat,num=n:=⟨num.toNat,Y⟩;exact .num n (by have:=hs.1.2;omega)
  exact .name name h0
def NE:∀(l:List aS),jM l -> fX l=true -> ∀x,x∈l -> nh x
 |[],_,_,_,h=>gQ
 |y::l,hs,h,x,hx=>by
  rw [jM] at hs;rw [fX,dm] at h;rcases mem_cons.1 hx with hx|hx
  ·rw [hx];exact NP y hs.1 h.1
  exact NE l hs.2 h.2 x hx
end
def zB(D:Nat):∀(l:List aD),dG D l=true -> D<24
 |[],h=>by rw [dG] at h;exact of_decide_eq_true h
 |s::r,h=>by rw [dG,dm] at h;exact zB D r h.2
end
section
open Go.RowKit
abbrev cj(l:List ByteArray):List aO:=l.map λx=>ac x
def zj(names:List aI)(j:Nat)(h:j<names.length):fi false 1 (cj names) (0+j*1)=some (cK (names[j])):=by
 unfold fi cj;rw [if_neg V,cq,sM,nz,kl h];rfl
def Kc{e:aS}(h:e.bt)(k:Nat)(hk:k<e.args.length):e.args[k].bt:=by
 cases e with
 |mk op num name args=>rw [aS.bt] at h;exact qN _ h.2.2 _ (getElem_mem hk)
def Wk{e:aS}(h:e.bt):e.name.size <= 4611686018427387904:=by cases e;rw [aS.bt] at h;exact h.2.1
def KH:∀(N:Nat)(e:aS),e.nodes <= N -> N <= 1000000000 -> e.bt -> ∀s:aH,aT prog 102 [.agg (bf e)] [] s λr s'=>r=au (dy e) /\ s'=s
 |0,e,h,_,_=>rW
 |N+1,e,h,hN,hs=>X' e (Wk hs) Y λk hk s=>KH N e.args[k] rP Y (Kc hs k hk) s
def JE(e:aS)(hN:e.nodes <= 1000000000)(hs:e.bt)(s:aH):aT prog 71 [.agg (bf e)] [] s λt s'=>t=au (fI e) /\ s'=s:=by
 obtain ⟨bx,rw⟩:=s;refine bM 10 func71 ?_;refine go 9 λb1=>?_;refine cf J call102 J (KH _ e (bY _) hN hs _) ?_;rintro _ _ ⟨hr1,rfl⟩;rcases bz (dy e) with h2|h2;focus
  rw [h2] at hr1;subst hr1;refine go 2 ?_;refine cf J call103 J (LF _ e (bY _) hN _) ?_;rintro _ _ ⟨rfl,rfl⟩;by_cases h4:(iE e:Int) <= 24;focus
   refine aJ J (zw h4) (go 5 ?_)
  rotate_left;refine aF J (AP h4) (go 5 ?_)
 rotate_left 2;rw [h2] at hr1;subst hr1;refine go 9 ?_;all_goals
  exact bF bx rw J cU ⟨bZ (by unfold fI;first|(rw [h2];simp;omega)|(rw [h2];rfl)),J⟩
def B5(z:Int)(h:fit z)(s:aH):aT prog 78 [aj z] [] s λr s'=>r=cK (bytes (fW z)) /\ s'=s:=
 Fv (us:=[.int .i64 z]) rfl rfl (λw=>ZY z w h.1 h.2) s
def qT(e:aS):cA e=kQ e.op e.num e.name (kB e.op 0 e.args):=by cases e;rw [cA];rfl
def Nv(b:Int):∀(l:List aS)(j:Nat),(kB b j l).length=l.length
 |[],j=>by rw [kB];rfl
 |e::es,j=>by rw [kB,length_cons,length_cons,Nv b es]
def DC(b:Int):∀(l:List aS)(j k:Nat)(h:k<l.length),(kB b j l)[k]?=some (if kE b (j+k) l[k].op then [40]++cA l[k]++[41] else cA l[k])
 |e::es,j,0,h=>by rw [kB];rfl
 |e::es,j,k+1,h=>by
  rw [kB,List.getElem?_cons_succ,DC b es (j+1) k iX];rw [show j+1+k=j+(k+1) by omega];rfl
def QZ{e:aS}(h:dy e=true):(e.op=1 /\ e.args.length=0)∨(e.op=2 /\ e.args.length=0)∨((e.op=3∨e.op=4) /\ e.args.length=1 /\ dN e.op=5)∨(dN e.op<5 /\ 5 <= e.op /\ e.op <= 17 /\ e.args.length=2):=by
 rw [rU,dm,dm,decide_eq_true_eq] at h;obtain ⟨⟨h1,h2⟩,-⟩:=h;unfold arity at h2;rcases JW e.op with ⟨k1,k2⟩|⟨k1,k2⟩|k1
 ·rw [if_neg Y,if_neg Y] at h2;exact .inr (.inr (.inr ⟨k1,k2.1,k2.2,h2⟩))
 ·rw [if_neg Y,if_pos k1] at h2;exact .inr (.inr (.inl ⟨k2,h2,k1⟩))
 rw [if_pos k1] at h1 h2;unfold ll at h1;simp only [nP,dm,decide_eq_true_eq] at h1;rcases h1 with h1|h1
 ·exact .inl ⟨h1.1.1,h2⟩
 exact .inr (.inl ⟨h1.1.1,h2⟩)
def YO{e:aS}(h:dy e=true)(k:Nat)(hk:k<e.args.length):dy e.args[k]=true:=by
 cases hs:dy e.args[k] with
 |true=>rfl
 |false=>rw [rU,Ak _ _ hk hs,ra] at h;cases h
def MK{e:aS}(h:dy e=true)(k:Nat)(hk:k<e.args.length):((kB e.op 0 e.args).getD k []).length <= (cA e).length:=by
 rw [qT];rcases QZ h with h1|h1|h1|h1
 ·omega
 ·omega
 ·obtain rfl:k=0:=Y;unfold kQ;rcases h1.1 with h3|h3<;>simp [h3]
 unfold kQ;rw [if_neg Y,if_neg Y,if_neg Y,if_neg Y,if_pos h1.1];have:k=0∨k=1:=Y;rcases this with rfl|rfl<;>(simp only [length_append];omega)
def N3{e:aS}(h:dy e=true)(k:Nat)(hk:k<e.args.length):(cA e.args[k]).length <= (cA e).length:=by
 have h1:=MK h k hk;have h2:=DC e.op e.args 0 k hk;rw [Gq,h2,xy] at h1;split at h1<;>(try simp only [length_append] at h1)<;>omega
def J9{op:Int}(h:5 <= op /\ op <= 17):op=5∨op=6∨op=7∨op=8∨op=9∨op=10∨op=11∨op=12∨op=13∨op=14∨op=15∨op=16∨op=17:=Y
def TP{op:Int}(h:5 <= op /\ op <= 17):op∈d8 (dN op):=by
 rcases J9 h with rfl|rfl|rfl|rfl|rfl|rfl|rfl|rfl|rfl|rfl|rfl|rfl|rfl<;>decide
def U6{op:Int}(h:5 <= op /\ op <= 17):∀i (h1:i<(d8 (dN op)).length) (h2:i<(eT (dN op)).length),(d8 (dN op))[i]=op -> (eT (dN op))[i]=bytes (oU op):=by
 rcases J9 h with rfl|rfl|rfl|rfl|rfl|rfl|rfl|rfl|rfl|rfl|rfl|rfl|rfl<;>decide
def WC{c:Prop}[Decidable c]{l r:List UInt8}{n:Nat}(h1:l.length <= n)(h2:r.length <= n):(if c then l else r).length <= n:=by split<;>assumption
def S6(op:Int):(oU op).length <= 2:=by
 unfold oU
 repeat' (with_reducible apply WC)
 all_goals decide
def Dc(ts:List (List UInt8))(j:Nat)(h:j<(ts.map bytes).length):(ts.map bytes)[j]=bytes (ts.getD j []):=by
 have h1:j<ts.length:=iX;simp [List.getD,h1]
def TH(e:aS)(hN:e.nodes <= 1000000000)(hs:e.bt)(hsh:dy e=true)(hL:(cA e).length <= 1000000000000000)(ih:∀k (h:k<e.args.length) (s:aH),aT prog 105 [.agg (bf e.args[k])] [] s λr s'=>r=cK (bytes (cA e.args[k])) /\ s'=s)(s:aH):aT prog 105 [.agg (bf e)] [] s λt s'=>t=cK (bytes (cA e)) /\ s'=s:=by
 obtain ⟨bx,rw⟩:=s;have hlen:=si e;have hops:=QZ hsh;have hfit:fit e.num:=by cases e;rw [aS.bt] at hs;exact hs.1
 have hget:=DC e.op e.args 0;have htl:=Nv e.op e.args 0;have hal:=MK hsh;simp only [cq] at hget;obtain ⟨ts,hts⟩:∃ts,kB e.op 0 e.args=ts:=⟨_,rfl⟩;rw [hts] at hget htl hal;refine bM 95 func105 ?_;refine go 18 λb1=>?_;refine gA 9 1 ?_;refine Gs (λk=>True) (e.args.length) 4 3 9 1 (λk=>((ts.take k).map bytes).length) (λk=>cj ((ts.take k).map bytes)) [b1] (λk=>[(1,aE b1)]) trivial (az vJ) λk v hk hvk=>?_;replace hvk:True:=hvk
 try dsimp only
 have hrl:((ts.take k).map bytes).length <= k:=by simp only [gS,kU];omega
 refine go 7 ?_;by_cases h1:(k:Int)<(e.args.length:Int)
 ·refine aJ J (cw h1) (go 12 ?_);refine aC J (bX bV bf e.args fw fR k J J J J Y V iR dl) (go 1 ?_);refine cf J sW J (ih k Y _) ?_;rintro _ _ ⟨rfl,rfl⟩;refine go 6 ?_;have hpl:=N3 hsh k Y;refine go 2 ?_;refine cf J call128 J (K_ e k Y _) ?_;rintro _ _ ⟨hr4,rfl⟩;rcases bz (kE e.op k e.args[k].op) with h5|h5;focus
   rw [h5] at hr4;subst hr4;refine go 5 ?_;refine aC J (dC [40] (cA e.args[k]) J J J J J tM) ?_;refine aC J (dC ([40]++(cA e.args[k])) [41] J J J J J tM) (go 6 ?_);refine aW J (bU (r:=cj [(bytes (([40]++(cA e.args[k]))++[41]))]) iy ?_);refine aW J (dS [] pE J J V cO Y (@length_append _ ((ts.take k).map bytes) [(bytes (([40]++(cA e.args[k]))++[41]))]).symm fy co (e1 (f:=λx=>aO.val (.string x))).symm λw2=>?_);refine go 6 ?_;refine bK J (go 2 ?_);rw [show (ts.take (k+1)).map bytes=(ts.take k).map bytes++[(bytes (([40]++(cA e.args[k]))++[41]))] by rw [List.take_succ,hget k Y,h5];simp]
  rotate_left;rw [h5] at hr4;subst hr4;refine go 8 ?_;refine aW J (bU (r:=cj [(bytes (cA e.args[k]))]) iy ?_);refine aW J (dS [] pE J J V cO Y (@length_append _ ((ts.take k).map bytes) [(bytes (cA e.args[k]))]).symm fy co (e1 (f:=λx=>aO.val (.string x))).symm λw3=>?_);refine go 6 ?_;refine bK J (go 2 ?_);rw [show (ts.take (k+1)).map bytes=(ts.take k).map bytes++[(bytes (cA e.args[k]))] by rw [List.take_succ,hget k Y,h5];simp];all_goals
   exact ⟨Y,trivial,_,az (h:=av J (b_ Y) (ao J)) fG⟩
 refine aF J (ct h1) (go 12 ?_);obtain rfl:k=e.args.length:=Y;rw [take_of_length_le Y];refine io 3 J ?_;refine go 2 ?_;by_cases h9:e.op=1
 ·refine aJ J (bR h9) (go 8 ?_);refine cf J call78 J (B5 e.num hfit _) ?_;rintro _ _ ⟨rfl,rfl⟩;refine go 6 ?_;exact bF bx rw J cU ⟨mc (by rw [qT,hts];unfold kQ;simp only [if_pos h9];try rfl),J⟩
 refine aF J (bN h9) (go 8 ?_);by_cases CD:e.op=2
 ·refine aJ J (bR CD) (go 14 ?_);exact bF bx rw J cU ⟨mc (by rw [qT,hts];unfold kQ;simp only [if_neg h9,if_pos CD];try exact (back _).symm),J⟩
 refine aF J (bN CD) (go 8 ?_);by_cases h16:e.op=3
 ·refine aJ J (bR h16) (go 6 ?_);have hl1:e.args.length=1:=Ae;have hg0:=hal 0 Y;refine go 1 ?_;refine aC J (m0 (λx=>ac x) (ts.map bytes) 0 J J J J tr kj iG) (go 1 ?_);refine aC J (dC [45] (ts.getD 0 []) J J J J (Dc _ _ tr) tM) (go 6 ?_);exact bF bx rw J cU ⟨mc (by rw [qT,hts];unfold kQ;simp only [if_neg h9,if_neg CD,if_pos h16];try rfl),J⟩
 refine aF J (bN h16) (go 8 ?_);by_cases h19:e.op=4
 ·refine aJ J (bR h19) (go 6 ?_);have hl1:e.args.length=1:=Ae;have hg0:=hal 0 Y;refine go 1 ?_;refine aC J (m0 (λx=>ac x) (ts.map bytes) 0 J J J J tr kj iG) (go 1 ?_);refine aC J (dC [33] (ts.getD 0 []) J J J J (Dc _ _ tr) tM) (go 6 ?_);exact bF bx rw J cU ⟨mc (by rw [qT,hts];unfold kQ;simp only [if_neg h9,if_neg CD,if_neg h16,if_pos h19];try rfl),J⟩
 refine aF J (bN h19) (go 11 ?_);have aRf:dN e.op<5:=Ae;have hop:5 <= e.op /\ e.op <= 17:=Ae;have hl2:e.args.length=2:=Ae;have hsl:=Gl (dN e.op);have hg0:=hal 0 Y;have hg1:=hal 1 Y;refine cf J call127 J (AO e.op _) ?_;rintro _ _ ⟨rfl,rfl⟩;refine cf J call129 J (MD (dN e.op) Y _) ?_;rintro _ _ ⟨rfl,rfl⟩;refine go 14 ?_;refine jr (λi=>∀j (h:j<(d8 (dN e.op)).length),j<i -> (d8 (dN e.op))[j]≠e.op) ((d8 (dN e.op)).length) 8 (λi=>[(1,aE b1),(3,.c (.sl (ts.map bytes).length ((ts.map bytes).map λx=>ac x))),(6,.c (nA (eT (dN e.op)))),(7,.c (nO (d8 (dN e.op))))]) nR (ao J) λi hi hvi=>?_;replace hvi:∀j (h:j<(d8 (dN e.op)).length),j<i -> (d8 (dN e.op))[j]≠e.op:=hvi
 try dsimp only
 refine go 6 ?_;by_cases D0:(i:Int)<(((d8 (dN e.op)).length:Nat):Int)
 ·refine aJ J (cw D0) (go 8 ?_);refine bu [b1] (aU [0,1] 5 (go 3 ?_));refine aZ 2 J (m0 (λx=>aA x) (d8 (dN e.op)) i J J J J Y yJ lK) (aU [3,4,5] 1 (go 4 ?_));by_cases ws:(d8 (dN e.op))[i]=e.op
  ·refine aZ 6 J (ei true J J J (bR ws)) ?_;refine bC (go 3 ?_);refine bu [b1] (aU [0] 14 (go 2 ?_));refine aZ 1 J (m0 (λx=>ac x) (ts.map bytes) 0 J J J J tr kj iG) (aU [2] 12 (go 2 ?_));refine aZ 3 J (dC (ts.getD 0 []) [32] J J J (Dc _ _ tr) J tM) (aU [4,5] 9 (go 3 ?_));refine aZ 6 J (m0 (λx=>ac x) (eT (dN e.op)) i J J J J Y kj iG) (aU [7] 7 (go 2 ?_));refine aZ 8 J (dC ((ts.getD 0 [])++[32]) (oU e.op) J J J J (U6 hop i Y Y ws) tM) ?_;refine aZ 9 J (dC (((ts.getD 0 [])++[32])++(oU e.op)) [32] J J J J J tM) (aU [10] 4 (go 2 ?_));refine aZ 11 J (m0 (λx=>ac x) (ts.map bytes) 1 J J J J tr kj iG) (aU [12] 2 (go 2 ?_));refine aZ 13 J (dC ((((ts.getD 0 [])++[32])++(oU e.op))++[32]) (ts.getD 1 []) J J J J (Dc _ _ tr) tM) (aU [14] 0 (go 2 ?_));refine bC (go 7 ?_);exact bF bx rw J cU ⟨mc (by rw [qT,hts];unfold kQ;simp only [if_neg h9,if_neg CD,if_neg h16,if_neg h19,if_pos aRf];try rfl),J⟩
  refine aZ 6 J (ei false J J J (bN ws)) ?_;refine bC (go 7 ?_);refine bK J (go 2 ?_);exact ⟨Y,(λj hj hlt hq=>(jn j i).elim (λh9=>hvi j hj h9 hq) (λh9=>by have h8:j=i:=Y;subst h8;exact ws hq)),(av J (b_ Y) (ao J))⟩
 refine aF J (ct D0) (go 14 ?_);exact absurd (List.mem_iff_getElem.1 (TP hop)) (λ⟨j,hj,hq⟩=>hvi j hj Y hq)
def tw:∀(N:Nat)(e:aS),e.nodes <= N -> N <= 1000000000 -> e.bt -> dy e=true -> (cA e).length <= 1000000000000000 -> ∀s:aH,aT prog 105 [.agg (bf e)] [] s λr s'=>r=cK (bytes (cA e)) /\ s'=s
 |0,e,h,_,_,_,_=>rW
 |N+1,e,h,hN,hs,hsh,hL=>TH e Y hs hsh hL λk hk s=>tw N e.args[k] rP Y (Kc hs k hk) (YO hsh k hk) (iN (N3 hsh k hk) hL) s
def cD.wt(r:cD):Nat:=1+cv r.index
def bq.wt(a:bq):Nat:=1+a.ref.wt+a.expr.nodes
def dQ:List bq -> Nat
 |[]=>0
 |a::l=>a.wt+dQ l
mutual
def aD.wt:aD -> Nat
 |.mk _ _ e r a t f=>1+e.nodes+r.wt+dQ a+an t+an f
def an:List aD -> Nat
 |[]=>0
 |s::l=>s.wt+an l
end
def vT:∀(l:List bq)(k:Nat)(h:k<l.length),l[k].wt <= dQ l
 |a::l,0,_=>by rw [dQ];simp
 |a::l,k+1,h=>by have:=vT l k iX;rw [dQ];simp;omega
def px:∀(l:List bq),l.length <= dQ l
 |[]=>aM
 |a::l=>by have:=px l;rw [dQ,bq.wt];simp;omega
def rH:∀(l:List aD)(k:Nat)(h:k<l.length),l[k].wt <= an l
 |a::l,0,_=>by rw [an];simp
 |a::l,k+1,h=>by have:=rH l k iX;rw [an];simp;omega
def f9(s:aD):s.wt=1+s.expr.nodes+s.ref.wt+dQ s.args+an s.thn+an s.els:=by cases s;rw [aD.wt];rfl
def ol:∀(l:List aD),l.length <= an l
 |[]=>aM
 |a::l=>by have:=ol l;rw [an,f9];simp;omega
def B_{r:cD}(h:okRefB r=true):cH r.name=true /\ (r.index.length=0∨r.index.length=1) /\ ∀e,e∈r.index -> fI e=true:=by
 obtain ⟨n,ix⟩:=r;unfold okRefB at h;rw [dm] at h
 match ix,h with
 |[],h=>exact ⟨h.1,.inl rfl,λe he=>by cases he⟩
 |[e],h=>exact ⟨h.1,.inr rfl,λx hx=>by rw [jq.1 hx];exact h.2⟩
 |_::_::_,h=>simp at h
def tP{e:aS}(h:fI e=true):dy e=true:=by rw [fI,dm] at h;exact h.1
def BA{r:cD}(h:0<r.index.length):fh r=r.name.data.toList++[(91:UInt8)]++cA r.index[0]++[93]:=by
 obtain ⟨n,ix⟩:=r
 match ix,h with
 |e::_,_=>rfl
def N0{r:cD}(h:r.index.length=0):fh r=r.name.data.toList:=by
 obtain ⟨n,ix⟩:=r;rw [ke] at h;dsimp only at h;subst h;rfl
def F1{α:Type}(f:α -> List UInt8):∀(l:List α)(k:Nat),(dM f (l.take k)).length <= (dM f l).length
 |[],k=>wu
 |x::l,0=>wu
 |x::l,k+1=>by
  simp only [jb,dM,length_append,List.length_flatten,o8];have:∀(m:List α)(k:Nat),(List.map (List.length ∘ λy=>[44,32]++f y) (m.take k)).sum <= (List.map (List.length ∘ λy=>[44,32]++f y) m).sum:=by
   intro m;induction m with
   |nil=>intro k;simp
   |cons a m ih=>intro k;cases k with
    |zero=>simp
    |succ k=>have:=ih k;simp only [jb,ca,mh];omega
  have:=this l k;omega
def P2{α:Type}(f:α -> List UInt8)(l:List α)(k:Nat)(h:k<l.length):(f l[k]).length <= (dM f l).length:=by
 have h1:=F1 f l (k+1);rw [sE f l k h] at h1;simp only [length_append] at h1;omega
def xw{a:bq}(h:a.mutex=true):ew a=[109,117,116,101,120,32]++fh a.ref:=by unfold ew;rw [if_pos h]
def wl{a:bq}(h:a.mutex=false):ew a=cA a.expr:=by unfold ew;rw [if_neg nx]
def GC{a:bq}(h:fc a=true):(a.mutex=true -> okRefB a.ref=true) /\ (a.mutex=false -> fI a.expr=true):=by
 unfold fc at h;constructor
 ·intro hm;rw [hm,if_pos rfl,dm] at h;exact h.1
 intro hm;rw [hm,if_neg V,dm] at h;exact h.2
def CJ(r:cD)(hok:okRefB r=true)(hs:r.bt)(hN:cv r.index <= 900000000)(hL:(fh r).length <= 1000000000000000)(s:aH):aT prog 107 [.agg (encR r)] [] s λt s'=>t=cK (bytes (fh r)) /\ s'=s:=by
 obtain ⟨bx,rw⟩:=s;replace hok:=B_ hok;have hnm:r.name.data.toList.length <= 4611686018427387904:=hs.1;refine bM 19 func107 ?_;refine go 12 λb1=>?_;by_cases h1:(r.index.length:Int)=0
 ·refine aJ J (bR h1) (go 12 ?_);exact bF bx rw J cU ⟨mc Nf,J⟩
 refine aF J (bN h1) (go 6 ?_);refine bu [b1] ?_;have hi0:0<r.index.length:=Y;have hse:=qN _ hs.2 _ (getElem_mem hi0);have hsh:=tP (hok.2.2 _ (getElem_mem hi0));have hni:=pc r.index 0 hi0;have hL1:=hL;rw [BA hi0] at hL1;simp only [length_append] at hL1;replace hL1:(cA r.index[0]).length <= 1000000000000000:=by omega
 refine aU [0,1] 9 (go 3 ?_);refine aZ 2 J (dC r.name.data.toList ([91]:List UInt8) J J J (back _) J hG) (aU [3,4] 6 (go 3 ?_));refine aZ 5 J (bX bV bf r.index fw fR 0 J J J J Y V iR dl) (aU [6] 4 (go 2 ?_));refine aY 7 J J (dv J J V sW J (tw _ r.index[0] (bY _) Y hse hsh hL1 _) ?_);rintro _ _ ⟨rfl,rfl⟩;refine aZ 8 J (dC (r.name.data.toList++([91]:List UInt8)) (cA r.index[0]) J J J J J hG) ?_;refine aZ 9 J (dC ((r.name.data.toList++([91]:List UInt8))++(cA r.index[0])) [93] J J J J J hG) (aU [10] 0 (go 2 ?_));refine bC (go 2 ?_);exact bF bx rw J cU ⟨mc (by rw [BA hi0]),J⟩
def QY(l:List bq)(hok:∀a,a∈l -> fc a=true)(hs:∀a,a∈l -> a.bt)(hw:dQ l <= 900000000)(hL:(iH l).length <= 1000000000000000)(s:aH):aT prog 106 [.c (aG cg l)] [] s λt s'=>t=cK (bytes (iH l)) /\ s'=s:=by
 obtain ⟨bx,rw⟩:=s;have hal:=px l;have hL1:=hL;unfold iH at hL1;simp only [length_append] at hL1;refine bM 39 func106 ?_;refine go 17 ?_;refine m9 (l.length) 4 (λk=>[(3,cK (bytes ([40]++dM ew (l.take (k))))),(0,.c (aG cg l))]) (ao J) λk hk=>?_;show bi prog _ ⟨39,_,_,(4,ab k)::[(3,cK (bytes ([40]++dM ew (l.take (k))))),(0,.c (aG cg l))]⟩ _;have hcm:=F1 ew l k;refine go 6 ?_;by_cases h1:(k:Int)<(l.length:Int)
 ·refine aJ J (cw h1) (go 10 ?_);have hlt:k<l.length:=Y;have hsa:=hs _ (getElem_mem hlt);have hoa:=GC (hok _ (getElem_mem hlt));have hwa:=vT l k hlt;unfold bq.wt cD.wt at hwa;have hci:=P2 ew l k hlt;refine go 1 ?_;by_cases h3:(0:Int)<(k:Int)
  ·refine aJ J (fF h3) (go 5 ?_);refine aC J (dC ([40]++dM ew (l.take (k))) [44,32] J J J J J hG) (go 7 ?_);refine aC J (bX cg cg l oO (λ_=>J) k J J J J Y V lV j') (go 1 ?_);rcases bz (l[k].mutex) with h5|h5
   ·refine aC J (cP (bH h5) (kh J J dJ dI J)) (go 4 ?_);have hmx:=h5;have hri:(fh l[k].ref).length <= 1000000000000000:=J6;refine go 1 ?_;refine aC J (dC (([40]++dM ew (l.take (k)))++[44,32]) [109,117,116,101,120,32] J J J J J eA) (go 2 ?_);refine aC J (bX cg cg l oO (λ_=>J) k J J J J Y V lV j') (go 2 ?_);refine cf J call107 J (CJ l[k].ref (hoa.1 hmx) hsa.1 Y Y _) ?_;rintro _ _ ⟨rfl,rfl⟩;refine aC J (dC ((([40]++dM ew (l.take (k)))++[44,32])++[109,117,116,101,120,32]) (fh l[k].ref) J J J J J eA) (go 6 ?_);refine bK J (go 2 ?_);exact ⟨Y,(av J (b_ Y) (av J (fj (by rw [sE ew l k Y,if_neg Y];rw [xw h5];simp)) (ao J)))⟩
   refine aC J (cP (bH h5) (kh J J dJ dI J)) (go 4 ?_);have hmx:=h5;have hri:(cA l[k].expr).length <= 1000000000000000:=by have h9:=hci;rw [wl hmx] at h9;omega
   refine go 3 ?_;refine aC J (bX cg cg l oO (λ_=>J) k J J J J Y V lV j') (go 2 ?_);refine cf J sW J (tw _ l[k].expr (bY _) Y hsa.2 (tP (hoa.2 hmx)) Y _) ?_;rintro _ _ ⟨rfl,rfl⟩;refine aC J (dC (([40]++dM ew (l.take (k)))++[44,32]) (cA l[k].expr) J J J J J hG) (go 6 ?_);refine bK J (go 2 ?_);exact ⟨Y,(av J (b_ Y) (av J (fj (by rw [sE ew l k Y,if_neg Y];rw [wl h5];simp)) (ao J)))⟩
  refine aF J (fE h3) (go 9 ?_);refine aC J (bX cg cg l oO (λ_=>J) k J J J J Y V lV j') (go 1 ?_);rcases bz (l[k].mutex) with h11|h11
  ·refine aC J (cP (bH h11) (kh J J dJ dI J)) (go 4 ?_);have hmx:=h11;have hri:(fh l[k].ref).length <= 1000000000000000:=J6;refine go 1 ?_;refine aC J (dC ([40]++dM ew (l.take (k))) [109,117,116,101,120,32] J J J J J eA) (go 2 ?_);refine aC J (bX cg cg l oO (λ_=>J) k J J J J Y V lV j') (go 2 ?_);refine cf J call107 J (CJ l[k].ref (hoa.1 hmx) hsa.1 Y Y _) ?_;rintro _ _ ⟨rfl,rfl⟩;refine aC J (dC (([40]++dM ew (l.take (k)))++[109,117,116,101,120,32]) (fh l[k].ref) J J J J J eA) (go 6 ?_);refine bK J (go 2 ?_);exact ⟨Y,(av J (b_ Y) (av J (fj (by rw [sE ew l k Y,if_pos Y];rw [xw h11];simp)) (ao J)))⟩
  refine aC J (cP (bH h11) (kh J J dJ dI J)) (go 4 ?_);have hmx:=h11;have hri:(cA l[k].expr).length <= 1000000000000000:=by have h9:=hci;rw [wl hmx] at h9;omega
  refine go 3 ?_;refine aC J (bX cg cg l oO (λ_=>J) k J J J J Y V lV j') (go 2 ?_);refine cf J sW J (tw _ l[k].expr (bY _) Y hsa.2 (tP (hoa.2 hmx)) Y _) ?_;rintro _ _ ⟨rfl,rfl⟩;refine aC J (dC ([40]++dM ew (l.take (k))) (cA l[k].expr) J J J J J hG) (go 6 ?_);refine bK J (go 2 ?_);exact ⟨Y,(av J (b_ Y) (av J (fj (by rw [sE ew l k Y,if_pos Y];rw [wl h11];simp)) (ao J)))⟩
 refine aF J (ct h1) (go 11 ?_);refine aC J (dC ([40]++dM ew (l.take (k))) [41] J J J J J hG) (go 4 ?_);exact bF bx rw J d3 ⟨mc (by unfold iH;rw [take_of_length_le Y]),J⟩
def Dh{tabs:List UInt8}{s:aD}(h:s.kind=1):d5 tabs s=tabs++([118,97,114,32]++s.name.data.toList++[32,61,32]++cA s.expr++[59])++[10]:=by
 obtain ⟨kind,name,e,r,args,t,el⟩:=s;obtain rfl:kind=1:=h;rw [d5];rfl
def Cm{tabs:List UInt8}{s:aD}(h:s.kind=2):d5 tabs s=tabs++(s.name.data.toList++[32,61,32]++cA s.expr++[59])++[10]:=by
 obtain ⟨kind,name,e,r,args,t,el⟩:=s;obtain rfl:kind=2:=h;rw [d5];rfl
def ye{tabs:List UInt8}{s:aD}(h:s.kind=3):d5 tabs s=tabs++(s.name.data.toList++iH s.args++[59])++[10]:=by
 obtain ⟨kind,name,e,r,args,t,el⟩:=s;obtain rfl:kind=3:=h;rw [d5];rfl
def zC{tabs:List UInt8}{s:aD}(h:s.kind=4):d5 tabs s=tabs++([103,111,32]++s.name.data.toList++iH s.args++[59])++[10]:=by
 obtain ⟨kind,name,e,r,args,t,el⟩:=s;obtain rfl:kind=4:=h;rw [d5];rfl
def Cp{tabs:List UInt8}{s:aD}(h:s.kind=5):d5 tabs s=tabs++([108,111,99,107,32]++fh s.ref++[59])++[10]:=by
 obtain ⟨kind,name,e,r,args,t,el⟩:=s;obtain rfl:kind=5:=h;rw [d5];rfl
def DI{tabs:List UInt8}{s:aD}(h:s.kind=6):d5 tabs s=tabs++([117,110,108,111,99,107,32]++fh s.ref++[59])++[10]:=by
 obtain ⟨kind,name,e,r,args,t,el⟩:=s;obtain rfl:kind=6:=h;rw [d5];rfl
def wS{tabs:List UInt8}{s:aD}(h:s.kind=7):d5 tabs s=tabs++([105,102,32]++cA s.expr++[32,123,10]++bS (tabs++[9]) s.thn++tabs++[125]++(if s.els.length=0 then [] else [32,101,108,115,101,32,123,10]++bS (tabs++[9]) s.els++tabs++[125]))++[10]:=by
 obtain ⟨kind,name,e,r,args,t,el⟩:=s;obtain rfl:kind=7:=h;rw [d5];rfl
def xS{tabs:List UInt8}{s:aD}(h:s.kind=8):d5 tabs s=tabs++([119,104,105,108,101,32]++cA s.expr++[32,123,10]++bS (tabs++[9]) s.thn++tabs++[125]++(if s.els.length=0 then [] else [32,101,108,115,101,32,123,10]++bS (tabs++[9]) s.els++tabs++[125]))++[10]:=by
 obtain ⟨kind,name,e,r,args,t,el⟩:=s;obtain rfl:kind=8:=h;rw [d5];rfl
def C7{tabs:List UInt8}{s:aD}(h:¬s.kind=1 /\ ¬s.kind=2 /\ ¬s.kind=3 /\ ¬s.kind=4 /\ ¬s.kind=5 /\ ¬s.kind=6 /\ ¬s.kind=7 /\ ¬s.kind=8):d5 tabs s=tabs++[114,101,116,117,114,110,59]++[10]:=by
 obtain ⟨kind,name,e,r,args,t,el⟩:=s;obtain ⟨h1,h2,h3,h4,h5,h6,h7,h8⟩:=h;simp only [aD.kind] at h1 h2 h3 h4 h5 h6 h7 h8;rw [d5,if_neg h1,if_neg h2,if_neg h3,if_neg h4,if_neg h5,if_neg h6,if_neg (λh=>h.elim h7 h8)]
def nC(tabs:List UInt8)(l:List aD)(k:Nat)(hk:k<l.length):bS tabs (l.take (k+1))=bS tabs (l.take k)++d5 tabs l[k]:=by
 rw [gX hk,Mr,bS,bS,eY]
def CF(tabs:List UInt8):∀(l:List aD)(k:Nat),(bS tabs (l.take k)).length <= (bS tabs l).length
 |[],k=>aM
 |s::l,0=>by rw [mZ,bS];simp
 |s::l,k+1=>by have:=CF tabs l k;rw [jb,bS,bS,length_append,length_append];omega
def VL(tabs:List UInt8)(l:List aD)(k:Nat)(hk:k<l.length):(d5 tabs l[k]).length <= (bS tabs l).length:=by
 have h1:=CF tabs l (k+1);rw [nC tabs l k hk,length_append] at h1;omega
structure Qj (D:Nat) (s:aD):Prop where
 name:s.name.data.toList.length <= 4611686018427387904
 expr:(s.kind=1∨s.kind=2∨s.kind=7∨s.kind=8) -> dy s.expr=true
 ref:(s.kind=5∨s.kind=6) -> okRefB s.ref=true
 args:∀a,a∈s.args -> fc a=true
 thn:(s.kind=7∨s.kind=8) -> dG (D+1) s.thn=true
 els:s.els.length=0∨dG (D+1) s.els=true
 Th:s.expr.bt
 aI6:s.ref.bt
 aI7:∀a,a∈s.args -> a.bt
 aLf:eI s.thn
 aLg:eI s.els
def FO(D:Nat):∀(l:List aD),dG D l=true -> ∀s,s∈l -> f6 D s=true
 |[],_,s,h=>gQ
 |x::l,h,s,hs=>by
  rw [dG,dm] at h;rcases mem_cons.1 hs with rfl|hs
  ·exact h.1
  exact FO D l h.2 s hs
def zf{D:Nat}{s:aD}(hs:s.bt)(h:f6 D s=true):Qj D s:=by
 obtain ⟨k,n,e,r,args,t,el⟩:=s;rw [aD.bt] at hs;rw [f6] at h;obtain ⟨hn,he,hr,ha,ht,hel⟩:=hs;simp only [dm,nP,decide_eq_true_eq] at h;obtain ⟨⟨⟨⟨⟨⟨⟨h1,h2⟩,h3⟩,h4⟩,h5⟩,h6⟩,h7⟩,h8⟩:=h;exact ⟨hn,λhp=>by
  have hp:k=1∨k=2∨k=7∨k=8:=hp;rw [if_pos hp] at h3;exact tP h3,λhp=>by
  have hp:k=5∨k=6:=hp
  rwa [if_pos hp] at h4,fC.1 h6,λhp=>by
  have hp:k=7∨k=8:=hp
  rwa [if_pos hp] at h7,h8.imp id (λh=>h.2),he,hr,ha,ht,hel⟩
def K1(D:Nat)(l:List aD)(tabs:List UInt8)(hok:dG D l=true)(hs:eI l)(hw:an l <= 900000000)(ht:tabs.length <= 1000)(hL:(bS tabs l).length <= 1000000000000000)(ih1:∀k (h:k<l.length),dG (D+1) l[k].thn=true -> (bS (tabs++[9]) l[k].thn).length <= 1000000000000000 -> ∀s:aH,aT prog 79 [.c (aG encS l[k].thn),cK (bytes (tabs++[9]))] [] s λt s'=>t=cK (bytes (bS (tabs++[9]) l[k].thn)) /\ s'=s)(ih2:∀k (h:k<l.length),dG (D+1) l[k].els=true -> (bS (tabs++[9]) l[k].els).length <= 1000000000000000 -> ∀s:aH,aT prog 79 [.c (aG encS l[k].els),cK (bytes (tabs++[9]))] [] s λt s'=>t=cK (bytes (bS (tabs++[9]) l[k].els)) /\ s'=s)(s:aH):aT prog 79 [.c (aG encS l),cK (bytes tabs)] [] s λt s'=>t=cK (bytes (bS tabs l)) /\ s'=s:=by
 obtain ⟨bx,rw⟩:=s;have hll:=ol l;have hnil:bS tabs []=[]:=by rw [bS]
 refine bM 133 func79 ?_;refine go 17 ?_;refine m9 (l.length) 6 (λk=>[(5,cK (bytes (bS tabs (l.take (k))))),(0,.c (aG encS l)),(1,cK (bytes tabs))]) (ao J) λk hk=>?_;show bi prog _ ⟨133,_,_,(6,ab k)::[(5,cK (bytes (bS tabs (l.take (k))))),(0,.c (aG encS l)),(1,cK (bytes tabs))]⟩ _;have hmo:=CF tabs l k;refine go 6 ?_;by_cases h1:(k:Int)<(l.length:Int)
 ·refine aJ J (cw h1) (go 9 ?_);have hlt:k<l.length:=Y;have ok:=zf (tg _ hs _ (getElem_mem hlt)) (FO D l hok _ (getElem_mem hlt));have hwk:=rH l k hlt;rw [f9] at hwk;unfold cD.wt at hwk;have hsl:=VL tabs l k hlt;have hnm:=ok.name;refine go 2 ?_;refine aC J (bX encS cm l kS mQ k J J J J Y V j0 eB) (go 9 λb1=>?_);refine aC J (dC (bS tabs (l.take (k))) tabs J J J J J hG) (go 13 ?_);by_cases h3:l[k].kind=1
  ·refine aJ J (bR h3) (go 4 ?_);refine bu [b1] ?_;have hq:=hsl;rw [Dh h3] at hq;simp only [length_append] at hq;refine aU [0] 11 (go 2 ?_);refine aZ 1 J (dC ((bS tabs (l.take (k)))++tabs) [118,97,114,32] J J J J J eA) (aU [2,3] 8 (go 3 ?_));refine aZ 4 J (dC (((bS tabs (l.take (k)))++tabs)++[118,97,114,32]) l[k].name.data.toList J J J J (back _) eA) ?_;refine aZ 5 J (dC ((((bS tabs (l.take (k)))++tabs)++[118,97,114,32])++l[k].name.data.toList) [32,61,32] J J J J J eA) (aU [6,7] 4 (go 3 ?_));refine aY 8 J J (dv J J V sW J (tw _ l[k].expr (bY _) Y ok.Th (ok.expr Y) Y _) ?_);rintro _ _ ⟨rfl,rfl⟩;refine aZ 9 J (dC (((((bS tabs (l.take (k)))++tabs)++[118,97,114,32])++l[k].name.data.toList)++[32,61,32]) (cA l[k].expr) J J J J J eA) ?_;refine aZ 10 J (dC ((((((bS tabs (l.take (k)))++tabs)++[118,97,114,32])++l[k].name.data.toList)++[32,61,32])++(cA l[k].expr)) [59] J J J J J eA) (aU [11] 0 (go 2 ?_));refine bC (go 4 ?_);refine aC J (dC (((((((bS tabs (l.take (k)))++tabs)++[118,97,114,32])++l[k].name.data.toList)++[32,61,32])++(cA l[k].expr))++[59]) [10] J J J J J eA) (go 6 ?_);refine bK J (go 2 ?_);exact ⟨Y,az (h1:=bG) (h:=av J (b_ Y) (av J (fj (by rw [nC tabs l k Y,Dh h3];simp only [append_assoc,eY,ck,eE])) (ao J))) (λb hb=>d_ _ (hb))⟩
  refine aF J (bN h3) (go 6 ?_);by_cases h7:l[k].kind=2
  ·refine aJ J (bR h7) (go 4 ?_);refine bu [b1] ?_;have hq:=hsl;rw [Cm h7] at hq;simp only [length_append] at hq;refine aU [0,1,2] 8 (go 4 ?_);refine aZ 3 J (dC ((bS tabs (l.take (k)))++tabs) l[k].name.data.toList J J J J (back _) hG) ?_;refine aZ 4 J (dC (((bS tabs (l.take (k)))++tabs)++l[k].name.data.toList) [32,61,32] J J J J J eA) (aU [5,6] 4 (go 3 ?_));refine aY 7 J J (dv J J V sW J (tw _ l[k].expr (bY _) Y ok.Th (ok.expr Y) Y _) ?_);rintro _ _ ⟨rfl,rfl⟩;refine aZ 8 J (dC ((((bS tabs (l.take (k)))++tabs)++l[k].name.data.toList)++[32,61,32]) (cA l[k].expr) J J J J J eA) ?_;refine aZ 9 J (dC (((((bS tabs (l.take (k)))++tabs)++l[k].name.data.toList)++[32,61,32])++(cA l[k].expr)) [59] J J J J J eA) (aU [10] 0 (go 2 ?_));refine bC (go 4 ?_);refine aC J (dC ((((((bS tabs (l.take (k)))++tabs)++l[k].name.data.toList)++[32,61,32])++(cA l[k].expr))++[59]) [10] J J J J J eA) (go 6 ?_);refine bK J (go 2 ?_);exact ⟨Y,az (h1:=bG) (h:=av J (b_ Y) (av J (fj (by rw [nC tabs l k Y,Cm h7];simp only [append_assoc,eY,ck,eE])) (ao J))) (λb hb=>d_ _ (hb))⟩
  refine aF J (bN h7) (go 6 ?_);by_cases h11:l[k].kind=3
  ·refine aJ J (bR h11) (go 4 ?_);refine bu [b1] ?_;have hq:=hsl;rw [ye h11] at hq;simp only [length_append] at hq;refine aU [0,1,2] 7 (go 4 ?_);refine aZ 3 J (dC ((bS tabs (l.take (k)))++tabs) l[k].name.data.toList J J J J (back _) hG) (aU [4,5] 4 (go 3 ?_));refine aY 6 J J (dv J J V call106 J (QY l[k].args ok.args ok.aI7 Y Y _) ?_);rintro _ _ ⟨rfl,rfl⟩;refine aZ 7 J (dC (((bS tabs (l.take (k)))++tabs)++l[k].name.data.toList) (iH l[k].args) J J J J J hG) ?_;refine aZ 8 J (dC ((((bS tabs (l.take (k)))++tabs)++l[k].name.data.toList)++(iH l[k].args)) [59] J J J J J hG) (aU [9] 0 (go 2 ?_));refine bC (go 4 ?_);refine aC J (dC (((((bS tabs (l.take (k)))++tabs)++l[k].name.data.toList)++(iH l[k].args))++[59]) [10] J J J J J hG) (go 6 ?_);refine bK J (go 2 ?_);exact ⟨Y,az (h1:=bG) (h:=av J (b_ Y) (av J (fj (by rw [nC tabs l k Y,ye h11];simp only [append_assoc,eY,ck,eE])) (ao J))) (λb hb=>d_ _ (hb))⟩
  refine aF J (bN h11) (go 6 ?_);by_cases sh:l[k].kind=4
  ·refine aJ J (bR sh) (go 4 ?_);refine bu [b1] ?_;have hq:=hsl;rw [zC sh] at hq;simp only [length_append] at hq;refine aU [0] 10 (go 2 ?_);refine aZ 1 J (dC ((bS tabs (l.take (k)))++tabs) [103,111,32] J J J J J eA) (aU [2,3] 7 (go 3 ?_));refine aZ 4 J (dC (((bS tabs (l.take (k)))++tabs)++[103,111,32]) l[k].name.data.toList J J J J (back _) eA) (aU [5,6] 4 (go 3 ?_));refine aY 7 J J (dv J J V call106 J (QY l[k].args ok.args ok.aI7 Y Y _) ?_);rintro _ _ ⟨rfl,rfl⟩;refine aZ 8 J (dC ((((bS tabs (l.take (k)))++tabs)++[103,111,32])++l[k].name.data.toList) (iH l[k].args) J J J J J eA) ?_;refine aZ 9 J (dC (((((bS tabs (l.take (k)))++tabs)++[103,111,32])++l[k].name.data.toList)++(iH l[k].args)) [59] J J J J J eA) (aU [10] 0 (go 2 ?_));refine bC (go 4 ?_);refine aC J (dC ((((((bS tabs (l.take (k)))++tabs)++[103,111,32])++l[k].name.data.toList)++(iH l[k].args))++[59]) [10] J J J J J eA) (go 6 ?_);refine bK J (go 2 ?_);exact ⟨Y,az (h1:=bG) (h:=av J (b_ Y) (av J (fj (by rw [nC tabs l k Y,zC sh];simp only [append_assoc,eY,ck,eE])) (ao J))) (λb hb=>d_ _ (hb))⟩
  refine aF J (bN sh) (go 6 ?_);by_cases h19:l[k].kind=5
  ·refine aJ J (bR h19) (go 5 ?_);have hq:=hsl;rw [Cp h19] at hq;simp only [length_append] at hq;refine go 1 ?_;refine aC J (dC ((bS tabs (l.take (k)))++tabs) [108,111,99,107,32] J J J J J eA) (go 2 ?_);refine cf J call107 J (CJ l[k].ref (ok.ref Y) ok.aI6 Y Y _) ?_;rintro _ _ ⟨rfl,rfl⟩;refine aC J (dC (((bS tabs (l.take (k)))++tabs)++[108,111,99,107,32]) (fh l[k].ref) J J J J J eA) ?_;refine aC J (dC ((((bS tabs (l.take (k)))++tabs)++[108,111,99,107,32])++(fh l[k].ref)) [59] J J J J J eA) (go 6 ?_);refine aC J (dC (((((bS tabs (l.take (k)))++tabs)++[108,111,99,107,32])++(fh l[k].ref))++[59]) [10] J J J J J eA) (go 6 ?_);refine bK J (go 2 ?_);exact ⟨Y,az (h1:=bG) (h:=av J (b_ Y) (av J (fj (by rw [nC tabs l k Y,Cp h19];simp only [append_assoc,eY,ck,eE])) (ao J))) (λb hb=>d_ _ (hb))⟩
  refine aF J (bN h19) (go 6 ?_);by_cases h23:l[k].kind=6
  ·refine aJ J (bR h23) (go 5 ?_);have hq:=hsl;rw [DI h23] at hq;simp only [length_append] at hq;refine go 1 ?_;refine aC J (dC ((bS tabs (l.take (k)))++tabs) [117,110,108,111,99,107,32] J J J J J eA) (go 2 ?_);refine cf J call107 J (CJ l[k].ref (ok.ref Y) ok.aI6 Y Y _) ?_;rintro _ _ ⟨rfl,rfl⟩;refine aC J (dC (((bS tabs (l.take (k)))++tabs)++[117,110,108,111,99,107,32]) (fh l[k].ref) J J J J J eA) ?_;refine aC J (dC ((((bS tabs (l.take (k)))++tabs)++[117,110,108,111,99,107,32])++(fh l[k].ref)) [59] J J J J J eA) (go 6 ?_);refine aC J (dC (((((bS tabs (l.take (k)))++tabs)++[117,110,108,111,99,107,32])++(fh l[k].ref))++[59]) [10] J J J J J eA) (go 6 ?_);refine bK J (go 2 ?_);exact ⟨Y,az (h1:=bG) (h:=av J (b_ Y) (av J (fj (by rw [nC tabs l k Y,DI h23];simp only [append_assoc,eY,ck,eE])) (ao J))) (λb hb=>d_ _ (hb))⟩
  refine aF J (bN h23) (go 7 ?_);by_cases h27:l[k].kind=7
  ·refine aJ J (bR h27) (go 17 ?_);refine aF J (bN Y) (go 6 ?_);refine bu [b1] ?_;have hq:=hsl;rw [wS h27] at hq;simp only [length_append] at hq;refine aU [0,1] 16 (go 3 ?_);refine aZ 2 J (dC ((bS tabs (l.take (k)))++tabs) [105,102,32] J J J J J eA) (aU [3,4,8,9,10] 10 (go 6 ?_));refine aZ 11 J (dC tabs [9] J J J J J hG) (aU [14] 8 (go 2 ?_));refine aY 5 J J (dv J J V sW J (tw _ l[k].expr (bY _) Y ok.Th (ok.expr Y) Y _) ?_);rintro _ _ ⟨rfl,rfl⟩;refine aZ 6 J (dC (((bS tabs (l.take (k)))++tabs)++[105,102,32]) (cA l[k].expr) J J J J J eA) ?_;refine aZ 7 J (dC ((((bS tabs (l.take (k)))++tabs)++[105,102,32])++(cA l[k].expr)) [32,123,10] J J J J J eA) ?_;refine aY 12 J J (dv J J V call79 J (ih1 k Y (ok.thn Y) Y _) ?_);rintro _ _ ⟨rfl,rfl⟩;refine aZ 13 J (dC (((((bS tabs (l.take (k)))++tabs)++[105,102,32])++(cA l[k].expr))++[32,123,10]) (bS (tabs++[9]) l[k].thn) J J J J J eA) ?_;refine aZ 15 J (dC ((((((bS tabs (l.take (k)))++tabs)++[105,102,32])++(cA l[k].expr))++[32,123,10])++(bS (tabs++[9]) l[k].thn)) tabs J J J J J eA) ?_;refine aZ 16 J (dC (((((((bS tabs (l.take (k)))++tabs)++[105,102,32])++(cA l[k].expr))++[32,123,10])++(bS (tabs++[9]) l[k].thn))++tabs) [125] J J J J J eA) (aU [17] 0 (go 2 ?_));refine bC (go 6 ?_);by_cases MT:(0:Int)<((l[k].els.length:Nat):Int)
   ·refine aJ J (fF MT) (go 4 ?_);rw [if_neg Y] at hq;simp only [length_append] at hq;refine go 1 ?_;refine aC J (dC ((((((((bS tabs (l.take (k)))++tabs)++[105,102,32])++(cA l[k].expr))++[32,123,10])++(bS (tabs++[9]) l[k].thn))++tabs)++[125]) [32,101,108,115,101,32,123,10] J J J J J eA) (go 3 ?_);refine aC J (dC tabs [9] J J J J J hG) ?_;refine cf J call79 J (ih2 k Y (ok.els.resolve_left Y) Y _) ?_;rintro _ _ ⟨rfl,rfl⟩;refine aC J (dC (((((((((bS tabs (l.take (k)))++tabs)++[105,102,32])++(cA l[k].expr))++[32,123,10])++(bS (tabs++[9]) l[k].thn))++tabs)++[125])++[32,101,108,115,101,32,123,10]) (bS (tabs++[9]) l[k].els) J J J J J eA) (go 1 ?_);refine aC J (dC ((((((((((bS tabs (l.take (k)))++tabs)++[105,102,32])++(cA l[k].expr))++[32,123,10])++(bS (tabs++[9]) l[k].thn))++tabs)++[125])++[32,101,108,115,101,32,123,10])++(bS (tabs++[9]) l[k].els)) tabs J J J J J eA) ?_;refine aC J (dC (((((((((((bS tabs (l.take (k)))++tabs)++[105,102,32])++(cA l[k].expr))++[32,123,10])++(bS (tabs++[9]) l[k].thn))++tabs)++[125])++[32,101,108,115,101,32,123,10])++(bS (tabs++[9]) l[k].els))++tabs) [125] J J J J J eA) (go 6 ?_);refine aC J (dC ((((((((((((bS tabs (l.take (k)))++tabs)++[105,102,32])++(cA l[k].expr))++[32,123,10])++(bS (tabs++[9]) l[k].thn))++tabs)++[125])++[32,101,108,115,101,32,123,10])++(bS (tabs++[9]) l[k].els))++tabs)++[125]) [10] J J J J J eA) (go 6 ?_);refine bK J (go 2 ?_);exact ⟨Y,az (h1:=bG) (h:=av J (b_ Y) (av J (fj (by rw [nC tabs l k Y,wS h27,if_neg Y];simp only [append_assoc,eY,ck,eE])) (ao J))) (λb hb=>d_ _ (hb))⟩
   refine aF J (fE MT) (go 8 ?_);refine aC J (dC ((((((((bS tabs (l.take (k)))++tabs)++[105,102,32])++(cA l[k].expr))++[32,123,10])++(bS (tabs++[9]) l[k].thn))++tabs)++[125]) [10] J J J J J eA) (go 6 ?_);refine bK J (go 2 ?_);exact ⟨Y,az (h1:=bG) (h:=av J (b_ Y) (av J (fj (by rw [nC tabs l k Y,wS h27,if_pos Y];simp only [append_assoc,eY,ck,eE])) (ao J))) (λb hb=>d_ _ (hb))⟩
  refine aF J (bN h27) (go 5 ?_);by_cases h38:l[k].kind=8
  ·refine aJ J (bR h38) (go 14 ?_);refine aJ J (bR h38) (go 8 ?_);refine bu [b1] ?_;have hq:=hsl;rw [xS h38] at hq;simp only [length_append] at hq;refine aU [0,1] 16 (go 3 ?_);refine aZ 2 J (dC ((bS tabs (l.take (k)))++tabs) [119,104,105,108,101,32] J J J J J eA) (aU [3,4,8,9,10] 10 (go 6 ?_));refine aZ 11 J (dC tabs [9] J J J J J hG) (aU [14] 8 (go 2 ?_));refine aY 5 J J (dv J J V sW J (tw _ l[k].expr (bY _) Y ok.Th (ok.expr Y) Y _) ?_);rintro _ _ ⟨rfl,rfl⟩;refine aZ 6 J (dC (((bS tabs (l.take (k)))++tabs)++[119,104,105,108,101,32]) (cA l[k].expr) J J J J J eA) ?_;refine aZ 7 J (dC ((((bS tabs (l.take (k)))++tabs)++[119,104,105,108,101,32])++(cA l[k].expr)) [32,123,10] J J J J J eA) ?_;refine aY 12 J J (dv J J V call79 J (ih1 k Y (ok.thn Y) Y _) ?_);rintro _ _ ⟨rfl,rfl⟩;refine aZ 13 J (dC (((((bS tabs (l.take (k)))++tabs)++[119,104,105,108,101,32])++(cA l[k].expr))++[32,123,10]) (bS (tabs++[9]) l[k].thn) J J J J J eA) ?_;refine aZ 15 J (dC ((((((bS tabs (l.take (k)))++tabs)++[119,104,105,108,101,32])++(cA l[k].expr))++[32,123,10])++(bS (tabs++[9]) l[k].thn)) tabs J J J J J eA) ?_;refine aZ 16 J (dC (((((((bS tabs (l.take (k)))++tabs)++[119,104,105,108,101,32])++(cA l[k].expr))++[32,123,10])++(bS (tabs++[9]) l[k].thn))++tabs) [125] J J J J J eA) (aU [17] 0 (go 2 ?_));refine bC (go 6 ?_);by_cases h43:(0:Int)<((l[k].els.length:Nat):Int)
   ·refine aJ J (fF h43) (go 4 ?_);rw [if_neg Y] at hq;simp only [length_append] at hq;refine go 1 ?_;refine aC J (dC ((((((((bS tabs (l.take (k)))++tabs)++[119,104,105,108,101,32])++(cA l[k].expr))++[32,123,10])++(bS (tabs++[9]) l[k].thn))++tabs)++[125]) [32,101,108,115,101,32,123,10] J J J J J eA) (go 3 ?_);refine aC J (dC tabs [9] J J J J J hG) ?_;refine cf J call79 J (ih2 k Y (ok.els.resolve_left Y) Y _) ?_;rintro _ _ ⟨rfl,rfl⟩;refine aC J (dC (((((((((bS tabs (l.take (k)))++tabs)++[119,104,105,108,101,32])++(cA l[k].expr))++[32,123,10])++(bS (tabs++[9]) l[k].thn))++tabs)++[125])++[32,101,108,115,101,32,123,10]) (bS (tabs++[9]) l[k].els) J J J J J eA) (go 1 ?_);refine aC J (dC ((((((((((bS tabs (l.take (k)))++tabs)++[119,104,105,108,101,32])++(cA l[k].expr))++[32,123,10])++(bS (tabs++[9]) l[k].thn))++tabs)++[125])++[32,101,108,115,101,32,123,10])++(bS (tabs++[9]) l[k].els)) tabs J J J J J eA) ?_;refine aC J (dC (((((((((((bS tabs (l.take (k)))++tabs)++[119,104,105,108,101,32])++(cA l[k].expr))++[32,123,10])++(bS (tabs++[9]) l[k].thn))++tabs)++[125])++[32,101,108,115,101,32,123,10])++(bS (tabs++[9]) l[k].els))++tabs) [125] J J J J J eA) (go 6 ?_);refine aC J (dC ((((((((((((bS tabs (l.take (k)))++tabs)++[119,104,105,108,101,32])++(cA l[k].expr))++[32,123,10])++(bS (tabs++[9]) l[k].thn))++tabs)++[125])++[32,101,108,115,101,32,123,10])++(bS (tabs++[9]) l[k].els))++tabs)++[125]) [10] J J J J J eA) (go 6 ?_);refine bK J (go 2 ?_);exact ⟨Y,az (h1:=bG) (h:=av J (b_ Y) (av J (fj (by rw [nC tabs l k Y,xS h38,if_neg Y];simp only [append_assoc,eY,ck,eE])) (ao J))) (λb hb=>d_ _ (hb))⟩
   refine aF J (fE h43) (go 8 ?_);refine aC J (dC ((((((((bS tabs (l.take (k)))++tabs)++[119,104,105,108,101,32])++(cA l[k].expr))++[32,123,10])++(bS (tabs++[9]) l[k].thn))++tabs)++[125]) [10] J J J J J eA) (go 6 ?_);refine bK J (go 2 ?_);exact ⟨Y,az (h1:=bG) (h:=av J (b_ Y) (av J (fj (by rw [nC tabs l k Y,xS h38,if_pos Y];simp only [append_assoc,eY,ck,eE])) (ao J))) (λb hb=>d_ _ (hb))⟩
  refine aF J (bN h38) (go 5 ?_);have hq:=hsl;rw [C7 ⟨h3,h7,h11,sh,h19,h23,h27,h38⟩] at hq;simp only [length_append] at hq;refine go 1 ?_;refine aC J (dC ((bS tabs (l.take (k)))++tabs) [114,101,116,117,114,110,59] J J J J J eA) (go 6 ?_);refine aC J (dC (((bS tabs (l.take (k)))++tabs)++[114,101,116,117,114,110,59]) [10] J J J J J eA) (go 6 ?_);refine bK J (go 2 ?_);exact ⟨Y,az (h1:=bG) (h:=av J (b_ Y) (av J (fj (by rw [nC tabs l k Y,C7 ⟨h3,h7,h11,sh,h19,h23,h27,h38⟩];simp only [append_assoc,eY,ck,eE])) (ao J))) (λb hb=>d_ _ (hb))⟩
 refine aF J (ct h1) (go 15 ?_);exact bF bx rw J d3 ⟨mc (by rw [take_of_length_le Y]),J⟩
def IL:∀(N:Nat)(D:Nat)(l:List aD)(tabs:List UInt8),an l <= N -> N <= 900000000 -> dG D l=true -> eI l -> tabs.length <= D+1 -> (bS tabs l).length <= 1000000000000000 -> ∀s:aH,aT prog 79 [.c (aG encS l),cK (bytes tabs)] [] s λt s'=>t=cK (bytes (bS tabs l)) /\ s'=s
 |0,D,l,tabs,hw,hN,hok,hs,ht,hL,s=>by
  have hD:=zB D l hok;have h0:=ol l;exact K1 D l tabs hok hs Y Y hL C' C' s
 |N+1,D,l,tabs,hw,hN,hok,hs,ht,hL,s=>by
  have hD:=zB D l hok;have hp:∀k (hk:k<l.length),an l[k].thn <= N /\ an l[k].els <= N /\ Qj D l[k]:=λk hk=>by
   have h3:=rH l k hk;rw [f9] at h3;exact ⟨Y,Y,zf (tg _ hs _ (getElem_mem hk)) (FO D l hok _ (getElem_mem hk))⟩
  exact K1 D l tabs hok hs Y Y hL (λk hk h1 h2 s=>IL N (D+1) l[k].thn (tabs++[9]) (hp k hk).1 Y h1 (hp k hk).2.2.aLf dr h2 s)
   (λk hk h1 h2 s=>IL N (D+1) l[k].els (tabs++[9]) (hp k hk).2.1 Y h1 (hp k hk).2.2.aLg dr h2 s) s
section
variable {P:Program}{U:List Nat}{o:Oper}{st:AS}
def ee{t yt:ax}{x y:bb}{v w:aI}(a b:List UInt8)(ho:o.op=.binOp .add t x y yt)(hx:aw st x=some (.c (.val (.string v))))(hy:aw st y=some (.c (.val (.string w))))(hv:v=bytes a)(hw:w=bytes b)
  (hl:a.length+b.length<=9223372036854775807:=by first|omega|((try simp only [FI,y8,List.length_nil,List.length_replicate]);omega)|grind):cp P U o st (.c (.val (.string (bytes (a++b))))):=dC a b ho hx hy hv hw hl
end
end
end Go.Proofs.YtckelpefchdenaaGreatDoor
