import Derived.Test.YtojinfngbbajgaaGreatDoorP5J
import Derived.Test.YtojinfngbbajgaaGreatDoorP10J
import Derived.Test.YtojinfngbbajgaaGreatDoorP9J
import Derived.Test.YtojinfngbbajgaaGreatDoorP8J
import Derived.Test.YtojinfngbbajgaaGreatDoorP27J
set_option linter.all false
set_option synthInstance.maxHeartbeats 1000000
set_option synthInstance.maxSize 1000000
namespace Go.Proofs.YtojinfngbbajgaaGreatDoor
open List (length_append length_cons length_nil mem_append mem_cons not_mem_nil append_assoc getElem_mem take_of_length_le)
section
open Go.RowKit
structure TOk (l:List Tok):Prop where
 last:rP l
 reg:∀t,t∈l -> aPn t
 len:l.length <= 1000000
theorem lA{e:Nat}(h:e≠0):bC .eql (e:Int) 0=some false:=by simp [bC,h]
theorem jS{m n:Nat}:bC .eql (m:Int) (n:Int)=some (decide (m=n)):=by
 by_cases h:m=n
 ·subst h;simp [bC]
 have h2:¬(m:Int)=(n:Int):=by omega
 simp [bC,h,h2]
def aC7(e b k x b1 e1:Nat):Prop:=(e=0 -> k=b1 /\ x=e1) /\ (e≠0 -> b=b1 /\ e=e1)
theorem aC7.run{α:Type}{e b k x b1 e1:Nat}{r:bN α}(h:aC7 e b k x b1 e1)(hx:x≠0)(hr:e=0 -> r=.err k x)(y:α)(k1:Nat):kX e b r y k1 b1 e1:=by
 by_cases he:e=0
 ·obtain ⟨rfl,rfl⟩:=h.1 he
  subst he
  exact .err _ _ _ _ _ (hr rfl) hx
 obtain ⟨rfl,rfl⟩:=h.2 he
 exact .skip he _ _ _
theorem aC7.small{e b k x b1 e1:Nat}(h:aC7 e b k x b1 e1)(he:e<16)(hx:x<16):e1<16:=by
 by_cases h0:e=0
 ·rw [←(h.1 h0).2];exact hx
 rw [←(h.2 h0).2];exact he
end
section
open Go.RowKit
theorem TOk.of{s:List UInt8}{l:List Tok}(h:iH s=.ok l):TOk l:=⟨(wD h).ends,(wD h).reg,by have:=(wD h).few;omega⟩
def jM(s:List UInt8):cK×Nat×Nat:=
 match iH s with
 |.err p e=>(⟨[],[],[]⟩,p,e)
 |.ok l=>match fH l with
  |.ok x _=>(x,s.length,0)
  |.err k e=>(⟨[],[],[]⟩,(bU l k).pos,e)
theorem aA9{s:List UInt8}{p e:Nat}(h:iH s=.err p e):jM s=(⟨[],[],[]⟩,p,e):=by unfold jM;rw [h]
theorem aBe{s:List UInt8}{l:List Tok}{k e:Nat}(h:iH s=.ok l)(h2:fH l=.err k e)(hk:k<l.length):jM s=(⟨[],[],[]⟩,l[k].pos,e):=by unfold jM;rw [h];dsimp only;rw [h2];dsimp only;rw [bG hk]
theorem pT{s:List UInt8}{l:List Tok}{x:cK}{k:Nat}(h:iH s=.ok l)(h2:fH l=.ok x k):jM s=(x,s.length,0):=by unfold jM;rw [h];dsimp only;rw [h2]
end
section
section
variable {l:List Tok}
theorem bXr{k k':Nat}{s:List UInt8}{u:Unit}(h:fD l s k=.ok u k'):k'=k+1:=by
 unfold fD at h
 split at h
 ·cases h;rfl
 cases h
theorem bXw{s x:aJ}{k k':Nat}(h:oO l s k=.ok x k'):x=s /\ k'=k+1:=by
 unfold oO at h
 obtain ⟨_,k1,h1,h2⟩:=cN h
 have:=bXr h1
 cases h2
 exact ⟨rfl,this⟩
theorem bYv{α:Type}{el:Nat -> Nat -> bN α}{Q:Nat -> α -> Prop}{f:α -> List PT}(he:∀n k x k',el n k=.ok x k' -> Q n x /\ k+(f x).length <= k'):∀(n:Nat)(acc:List α)(k:Nat)(out:List α)(k':Nat),lI l el n acc k=.ok out k' -> ∃rest,out=acc++rest /\ (∀i (h:i<rest.length),Q (acc.length+i) rest[i]) /\ rest≠[] /\ k+(fZ f rest).length+1 <= k'
 |0,acc,k,out,k',h=>by unfold lI at h;cases h
 |n+1,acc,k,out,k',h=>by
  unfold lI at h
  obtain ⟨x,k1,h1,h2⟩:=cN h
  obtain ⟨g1,g2⟩:=he _ _ _ _ h1
  split at h2
  ·obtain ⟨rest,e,q,ne,hk⟩:=bYv he n _ _ _ _ h2
   refine ⟨x::rest,by rw [e];simp,fun i hi=>?_,by simp,?_⟩
   ·cases i with
    |zero=>exact g1
    |succ i=>
     have h9:=q i (by simpa using hi)
     rw [length_append,List.length_singleton,show acc.length+1+i=acc.length+(i+1) by omega] at h9
     exact h9
   ·obtain ⟨y,r,rfl⟩:=List.exists_cons_of_ne_nil ne
    rw [nW,length_append,length_cons];omega
  obtain ⟨_,k2,h3,h4⟩:=cN h2
  have:=bXr h3
  cases h4
  refine ⟨[x],rfl,fun i hi=>?_,by simp,?_⟩
  ·obtain rfl:i=0:=by simp at hi;exact hi
   exact g1
  have h9:(fZ f [x]).length=(f x).length:=by simp [fZ]
  omega
theorem bYi{α:Type}{el:Nat -> Nat -> bN α}{Q:Nat -> α -> Prop}{f:α -> List PT}(he:∀n k x k',el n k=.ok x k' -> Q n x /\ k+(f x).length <= k'){k k':Nat}{out:List α}(h:jC l el k=.ok out k'):(∀i (h:i<out.length),Q i out[i]) /\ k+(fZ f out).length+2 <= k':=by
 unfold jC at h
 obtain ⟨_,k1,h1,h2⟩:=cN h
 have hk1:=bXr h1
 split at h2
 ·cases h2
  exact ⟨fun i hi=>absurd hi (by simp),by show k+0+2 <= _;omega⟩
 obtain ⟨rest,e,q,_,hk⟩:=bYv he _ _ _ _ _ h2
 rw [List.nil_append] at e;subst e
 exact ⟨fun i hi=>by have h9:=q i hi;rw [length_nil,Nat.zero_add] at h9;exact h9,by omega⟩
theorem bYm{st:Nat -> bN aJ}{d:Nat}(hs:∀k s k',st k=.ok s k' -> (∀r,VSs d r -> VSs d (s::r)) /\ k+(cE s).length <= k'):∀(n:Nat)(acc:List aJ)(k:Nat)(out:List aJ)(k':Nat),eS l st n acc k=.ok out k' -> ∃rest,out=acc++rest /\ VSs d rest /\ k+(aQ rest).length+1 <= k'
 |0,acc,k,out,k',h=>by unfold eS at h;cases h
 |n+1,acc,k,out,k',h=>by
  unfold eS at h
  split at h
  ·cases h;exact ⟨[],by simp,.nil,by simp [aQ]⟩
  obtain ⟨s,k1,h1,h2⟩:=cN h
  obtain ⟨g1,g2⟩:=hs _ _ _ h1
  obtain ⟨rest,e,q,hk⟩:=bYm hs n _ _ _ _ h2
  exact ⟨s::rest,by rw [e];simp,g1 _ q,by rw [aQ,length_append];omega⟩
variable (hG:∀k,GT (bU l k))
include hG
theorem bXv{k k':Nat}{s:ByteArray}(h:jW l k=.ok s k'):bQ s=true /\ k'=k+1:=by
 unfold jW at h
 split at h
 ·rename_i h1;cases h;exact ⟨(hG k).name h1,rfl⟩
 cases h
theorem bYr{k k' n:Nat}(h:qE l k=.ok n k'):n <= 9223372036854775807 /\ k'=k+1:=by
 unfold qE at h
 split at h
 ·cases h;exact ⟨(hG k).num,rfl⟩
 cases h
theorem bYs{k k':Nat}{r:cY}(h:xV l k=.ok r k'):VR r /\ k+(hY r).length <= k':=by
 unfold xV at h
 obtain ⟨n,k1,h1,h2⟩:=cN h
 obtain ⟨g1,rfl⟩:=bXv hG h1
 unfold jT at h2
 split at h2
 ·obtain ⟨e,k2,h3,h4⟩:=cN h2
  obtain ⟨_,k3,h5,h6⟩:=cN h4
  obtain ⟨a1,a2,a3,a4⟩:=bX0 hG h3
  have:=bXr h5
  cases h6
  refine ⟨.el n e g1 ⟨a2,a3⟩,?_⟩
  have h9:(hY ⟨n,[e]⟩).length=(aT e).length+3:=by simp [hY]
  omega
 cases h2
 refine ⟨.one n g1,?_⟩
 have h9:(hY ⟨n,[]⟩).length=1:=rfl
 omega
theorem bZe{k k':Nat}{a:eN}(h:rC l k=.ok a k'):VA a /\ k+(wH a).length <= k':=by
 unfold rC at h
 split at h
 ·obtain ⟨r,k1,h1,h2⟩:=cN h
  obtain ⟨g1,g2⟩:=bYs hG h1
  cases h2
  have h9:(wH ⟨true,r,.zero⟩).length=(hY r).length+1:=rfl
  exact ⟨.mutex r g1,by omega⟩
 obtain ⟨e,k1,h1,h2⟩:=cN h
 obtain ⟨a1,a2,a3,a4⟩:=bX0 hG h1
 cases h2
 have h9:(wH ⟨false,.zero,e⟩).length=(aT e).length:=rfl
 exact ⟨.expr e ⟨a2,a3⟩,by omega⟩
theorem bYx{k k':Nat}{x:List eN}(h:rA l k=.ok x k'):(∀a,a∈x -> VA a) /\ k+(iG x).length <= k':=by
 unfold rA at h
 obtain ⟨g1,g2⟩:=bYi (Q:=fun _ a=>VA a) (f:=wH) (fun _ k x k' h=>bZe hG h) h
 have h9:(iG x).length=(fZ wH x).length+2:=by simp [iG]
 refine ⟨fun a ha=>?_,by omega⟩
 obtain ⟨i,hi,rfl⟩:=List.getElem_of_mem ha
 exact g1 i hi
theorem bZc{blk:Nat -> bN (List aJ)}{d:Nat}(hb:∀k b k',blk k=.ok b k' -> ∃d',d=d'+1 /\ VSs d' b /\ k+(aQ b).length+2 <= k'){k k':Nat}{s:aJ}(h:fB l blk k=.ok s k'):(∀r,VSs d r -> VSs d (s::r)) /\ k+(cE s).length <= k':=by
 unfold fB at h
 split at h
 ·unfold qI at h
  obtain ⟨n,k1,h1,h⟩:=cN h
  obtain ⟨_,k2,h2,h⟩:=cN h
  obtain ⟨e,k3,h3,h⟩:=cN h
  obtain ⟨g1,e1⟩:=bXv hG h1
  have e2:=bXr h2
  obtain ⟨a1,a2,a3,a4⟩:=bX0 hG h3
  obtain ⟨rfl,e4⟩:=bXw h
  refine ⟨fun r hr=>.var g1 ⟨a2,a3⟩ hr,?_⟩
  have h9:(cE (.mk 1 n e .zero [] [] [])).length=(aT e).length+4:=by rw [cE];simp
  omega
 split at h
 ·unfold goP at h
  obtain ⟨n,k1,h1,h⟩:=cN h
  obtain ⟨a,k2,h2,h⟩:=cN h
  obtain ⟨g1,e1⟩:=bXv hG h1
  obtain ⟨a1,a2⟩:=bYx hG h2
  obtain ⟨rfl,e4⟩:=bXw h
  refine ⟨fun r hr=>.go g1 a1 hr,?_⟩
  have h9:(cE (.mk 4 n .zero .zero a [] [])).length=(iG a).length+3:=by rw [cE];simp
  omega
 split at h
 ·unfold nH at h
  obtain ⟨f,k1,h1,h⟩:=cN h
  obtain ⟨g1,e1⟩:=bYs hG h1
  obtain ⟨rfl,e4⟩:=bXw h
  refine ⟨fun r hr=>.lock g1 hr,?_⟩
  have h9:(cE (.mk 5 aK .zero f [] [] [])).length=(hY f).length+2:=by rw [cE];simp
  omega
 split at h
 ·unfold nH at h
  obtain ⟨f,k1,h1,h⟩:=cN h
  obtain ⟨g1,e1⟩:=bYs hG h1
  obtain ⟨rfl,e4⟩:=bXw h
  refine ⟨fun r hr=>.unlock g1 hr,?_⟩
  have h9:(cE (.mk 6 aK .zero f [] [] [])).length=(hY f).length+2:=by rw [cE];simp
  omega
 split at h
 ·unfold ifP at h
  obtain ⟨e,k1,h1,h⟩:=cN h
  obtain ⟨t,k2,h2,h⟩:=cN h
  obtain ⟨a1,a2,a3,a4⟩:=bX0 hG h1
  obtain ⟨d',rfl,b1,b2⟩:=hb _ _ _ h2
  unfold tA at h
  split at h
  ·obtain ⟨f,k3,h3,h⟩:=cN h
   obtain ⟨d2,hd2,c1,c2⟩:=hb _ _ _ h3
   obtain rfl:d'=d2:=by omega
   cases h
   refine ⟨fun r hr=>.cond ⟨a2,a3⟩ b1 c1 hr,?_⟩
   have h9:(cE (.mk 7 aK e .zero [] t f)).length <= (aT e).length+(aQ t).length+(aQ f).length+6:=by
    rw [cE]
    by_cases hz:f.length=0
    ·simp [hz];omega
    simp [hz];omega
   omega
  cases h
  refine ⟨fun r hr=>.cond ⟨a2,a3⟩ b1 .nil hr,?_⟩
  have h9:(cE (.mk 7 aK e .zero [] t [])).length=(aT e).length+(aQ t).length+3:=by rw [cE];simp;omega
  omega
 split at h
 ·unfold pJ at h
  obtain ⟨e,k1,h1,h⟩:=cN h
  obtain ⟨t,k2,h2,h⟩:=cN h
  obtain ⟨a1,a2,a3,a4⟩:=bX0 hG h1
  obtain ⟨d',rfl,b1,b2⟩:=hb _ _ _ h2
  cases h
  refine ⟨fun r hr=>.loop ⟨a2,a3⟩ b1 hr,?_⟩
  have h9:(cE (.mk 8 aK e .zero [] t [])).length=(aT e).length+(aQ t).length+3:=by rw [cE];simp;omega
  omega
 split at h
 ·unfold aD8 at h
  obtain ⟨rfl,e4⟩:=bXw h
  refine ⟨fun r hr=>.ret hr,?_⟩
  have h9:(cE (.mk 9 aK .zero .zero [] [] [])).length=2:=by rw [cE];simp
  omega
 unfold mG at h
 obtain ⟨n,k1,h1,h⟩:=cN h
 obtain ⟨g1,e1⟩:=bXv hG h1
 unfold iB at h
 split at h
 ·obtain ⟨e,k3,h3,h⟩:=cN h
  obtain ⟨a1,a2,a3,a4⟩:=bX0 hG h3
  obtain ⟨rfl,e4⟩:=bXw h
  refine ⟨fun r hr=>.assign g1 ⟨a2,a3⟩ hr,?_⟩
  have h9:(cE (.mk 2 n e .zero [] [] [])).length=(aT e).length+3:=by rw [cE];simp
  omega
 obtain ⟨a,k2,h2,h⟩:=cN h
 obtain ⟨a1,a2⟩:=bYx hG h2
 obtain ⟨rfl,e4⟩:=bXw h
 refine ⟨fun r hr=>.call g1 a1 hr,?_⟩
 have h9:(cE (.mk 3 n .zero .zero a [] [])).length=(iG a).length+2:=by rw [cE];simp
 omega
theorem bYo:∀(d k:Nat)(b:List aJ)(k':Nat),eX l d k=.ok b k' -> ∃d',d=d'+1 /\ VSs d' b /\ k+(aQ b).length+2 <= k'
 |0,k,b,k',h=>by unfold eX at h;split at h<;>cases h
 |d+1,k,b,k',h=>by
  unfold eX at h
  obtain ⟨_,k1,h1,h2⟩:=cN h
  have:=bXr h1
  obtain ⟨rest,e,q,hk⟩:=bYm (d:=d) (fun k s k' h=>bZc hG (fun k b k' h=>bYo d k b k' h) h) _ _ _ _ _ h2
  rw [List.nil_append] at e;subst e
  exact ⟨d,rfl,q,by omega⟩
theorem bY0{k k':Nat}{g:aI}(h:mP l (k+1)=.ok g k'):VG g /\ k+(bEr g).length <= k':=by
 unfold mP at h
 obtain ⟨n,k1,h1,h⟩:=cN h
 obtain ⟨g1,e1⟩:=bXv hG h1
 split at h
 ·split at h
  ·obtain ⟨i,k2,h2,h⟩:=cN h
   obtain ⟨_,k3,h3,h⟩:=cN h
   obtain ⟨g2,e2⟩:=bYr hG h2
   have e3:=bXr h3
   cases h
   refine ⟨⟨g1,by dsimp only;omega⟩,?_⟩
   have h9:(bEr ⟨n,-(i:Int)⟩).length <= 6:=by
    unfold bEr;dsimp only
    split
    ·simp
    split<;>simp
   omega
  obtain ⟨i,k2,h2,h⟩:=cN h
  obtain ⟨_,k3,h3,h⟩:=cN h
  obtain ⟨g2,e2⟩:=bYr hG h2
  have e3:=bXr h3
  cases h
  refine ⟨⟨g1,by dsimp only;omega⟩,?_⟩
  have h9:(bEr ⟨n,(i:Int)⟩).length <= 5:=by
   unfold bEr;dsimp only
   split
   ·simp
   rw [if_neg (by omega)];simp
  omega
 obtain ⟨_,k3,h3,h⟩:=cN h
 have e3:=bXr h3
 cases h
 refine ⟨⟨g1,by show (0:Int).natAbs <= _;decide⟩,?_⟩
 have h9:(bEr ⟨n,0⟩).length=3:=rfl
 omega
theorem bYk{k k':Nat}{re:Bool}{m:cL}(h:nE l re (k+1)=.ok m k'):VM m /\ k+(gT m).length <= k':=by
 unfold nE at h
 obtain ⟨n,k1,h1,h⟩:=cN h
 obtain ⟨g1,e1⟩:=bXv hG h1
 split at h
 ·rename_i hre
  obtain ⟨i,k2,h2,h⟩:=cN h
  obtain ⟨_,k3,h3,h⟩:=cN h
  obtain ⟨_,k4,h4,h⟩:=cN h
  unfold qX at h2
  obtain ⟨j,k5,h5,h2⟩:=cN h2
  obtain ⟨g2,e2⟩:=bYr hG h5
  split at h2
  ·cases h2
  rename_i hij
  cases h2
  have e3:=bXr h3
  have e4:=bXr h4
  cases h
  refine ⟨⟨g1,by dsimp only;omega,by dsimp only;omega,fun hr=>by dsimp only at hr;rw [hre.1] at hr;cases hr⟩,?_⟩
  have h9:(gT ⟨n,re,(i:Int)⟩).length <= 6:=by
   unfold gT;dsimp only
   split<;>split<;>simp
  omega
 obtain ⟨_,k3,h3,h⟩:=cN h
 have e3:=bXr h3
 cases h
 refine ⟨⟨g1,by dsimp only;omega,by dsimp only;omega,fun _=>rfl⟩,?_⟩
 have h9:(gT ⟨n,re,0⟩).length=3:=rfl
 omega
theorem bY8{n k k':Nat}{x:aS}(h:fQ l n k=.ok x k'):(n<6 /\ bQ x.name=true) /\ k+(lQ x).length <= k':=by
 unfold fQ at h
 split at h
 ·cases h
 rename_i hc
 split at h
 ·rename_i hw
  obtain ⟨s,k1,h1,h⟩:=cN h
  obtain ⟨g1,e1⟩:=bXv hG h1
  cases h
  have h9:(lQ ⟨s,true⟩).length=2:=rfl
  exact ⟨⟨Nat.lt_of_not_le fun h6=>hc ⟨h6,.inr hw⟩,g1⟩,by omega⟩
 obtain ⟨s,k1,h1,h⟩:=cN h
 have hk:(bU l k).kind=1:=by
  unfold jW at h1
  split at h1
  ·assumption
  cases h1
 obtain ⟨g1,e1⟩:=bXv hG h1
 cases h
 have h9:(lQ ⟨s,false⟩).length=1:=rfl
 exact ⟨⟨Nat.lt_of_not_le fun h6=>hc ⟨h6,.inl hk⟩,g1⟩,by omega⟩
theorem bZb{k k':Nat}{f:bS}(h:sW l (k+1)=.ok f k'):VF f /\ k+(kA f).length <= k':=by
 unfold sW at h
 obtain ⟨n,k1,h1,h⟩:=cN h
 obtain ⟨ps,k2,h2,h⟩:=cN h
 obtain ⟨b,k3,h3,h⟩:=cN h
 obtain ⟨g1,e1⟩:=bXv hG h1
 obtain ⟨g2,e2⟩:=bYi (Q:=fun n x=>n<6 /\ bQ x.name=true) (f:=lQ) (fun _ k x k' h=>bY8 hG h) h2
 obtain ⟨d',hd,g3,e3⟩:=bYo hG _ _ _ _ h3
 obtain rfl:d'=23:=by omega
 cases h
 refine ⟨⟨g1,?_,fun x hx=>?_,g3⟩,?_⟩
 ·dsimp only
  rcases Nat.lt_or_ge 6 ps.length with h6|h6
  ·have:=(g2 6 h6).1;omega
  exact h6
 ·obtain ⟨i,hi,rfl⟩:=List.getElem_of_mem hx
  exact (g2 i hi).2
 have h9:(kA ⟨n,ps,b⟩).length=(fZ lQ ps).length+(aQ b).length+6:=by simp [kA];omega
 omega
end
structure bX7 (x:cK) (n:Nat):Prop where
 gl:∀g,g∈x.globals -> VG g
 ml:∀g,g∈x.mutexes -> VM g
 fl:∀g,g∈x.funcs -> VF g
 lg:x.globals.length <= 16
 lm:x.mutexes.length <= 12
 lf:x.funcs.length <= 16
 sum:(x.globals.map bEr).flatten.length+(x.mutexes.map gT).flatten.length+(x.funcs.map kA).flatten.length <= n
theorem bX4{α:Type}(f:α -> List PT)(l:List α)(x:α):((l++[x]).map f).flatten.length=(l.map f).flatten.length+(f x).length:=by simp
theorem bYd{α:Type}{l:List α}{x:α}{Q:α -> Prop}(h:∀y,y∈l -> Q y)(hx:Q x):∀y,y∈l++[x] -> Q y:=fun y hy=>by
 rcases mem_append.1 hy with hy|hy
 ·exact h y hy
 rw [List.mem_singleton.1 hy];exact hx
section
variable {l:List Tok}(hG:∀k,GT (bU l k))
include hG
theorem bZd{x y:cK}{k k':Nat}(hx:bX7 x k)(h:gR l x k=.ok y k'):bX7 y k':=by
 obtain ⟨h1,h2,h3,h4,h5,h6,h7⟩:=hx
 unfold gR at h
 split at h
 ·split at h
  ·cases h
  obtain ⟨g,k1,q1,h⟩:=cN h
  obtain ⟨a1,a2⟩:=bY0 hG q1
  cases h
  exact ⟨bYd h1 a1,h2,h3,by simp;omega,h5,h6,by dsimp only;rw [bX4];omega⟩
 split at h
 ·split at h
  ·cases h
  obtain ⟨g,k1,q1,h⟩:=cN h
  obtain ⟨a1,a2⟩:=bYk hG q1
  cases h
  exact ⟨h1,bYd h2 a1,h3,h4,by simp;omega,h6,by dsimp only;rw [bX4];omega⟩
 split at h
 ·split at h
  ·cases h
  obtain ⟨g,k1,q1,h⟩:=cN h
  obtain ⟨a1,a2⟩:=bYk hG q1
  cases h
  exact ⟨h1,bYd h2 a1,h3,h4,by simp;omega,h6,by dsimp only;rw [bX4];omega⟩
 split at h
 ·split at h
  ·cases h
  obtain ⟨g,k1,q1,h⟩:=cN h
  obtain ⟨a1,a2⟩:=bZb hG q1
  cases h
  exact ⟨h1,h2,bYd h3 a1,h4,h5,by simp;omega,by dsimp only;rw [bX4];omega⟩
 cases h
theorem bYu:∀(n:Nat)(x:cK)(k:Nat)(y:cK)(k':Nat),bX7 x k -> lK l n x k=.ok y k' -> bX7 y k'
 |0,x,k,y,k',_,h=>by unfold lK at h;cases h
 |n+1,x,k,y,k',hx,h=>by
  unfold lK at h
  split at h
  ·cases h;exact hx
  obtain ⟨z,k1,h1,h2⟩:=cN h
  exact bYu n z k1 y k' (bZd hG hx h1) h2
end
end
end Go.Proofs.YtojinfngbbajgaaGreatDoor
