import Derived.Test.YtojinfngbbajgaaGreatDoorR31J
import Derived.Test.YtojinfngbbajgaaGreatDoorR10J
import Derived.Test.YtojinfngbbajgaaGreatDoorR18J
import Derived.Test.YtojinfngbbajgaaGreatDoorR29J
import Derived.Test.YtojinfngbbajgaaGreatDoorR22J
import Derived.Test.YtojinfngbbajgaaGreatDoorR5J
import Derived.Test.YtojinfngbbajgaaGreatDoorR26J
import Derived.Test.YtojinfngbbajgaaGreatDoorR30J
import Derived.Test.YtojinfngbbajgaaGreatDoorR9J
set_option linter.all false
set_option synthInstance.maxHeartbeats 1000000
set_option synthInstance.maxSize 1000000
set_option maxHeartbeats 1600000
set_option maxRecDepth 100000
namespace Go.Proofs.YtojinfngbbajgaaGreatDoor
open Go.Proofs.Tryz
open List (length_append length_cons length_nil mem_append mem_cons not_mem_nil append_assoc getElem_mem take_of_length_le)
section
section
variable {l:List Tok}
theorem bXr{k k':Nat}{s:List UInt8}{u:Unit}(h:fD l s k=.ok u k'):k'=k+1:=by
 unfold fD at h
 split at h
 ·cases h;rfl
 cases h
theorem bXw{s x:aJ}{k k':Nat}(h:oO l s k=.ok x k'):x=s /\ k'=k+1:=by
 unfold oO at h
 obtain ⟨_,k1,h1,h2⟩:=cN h
 have:=bXr h1
 cases h2
 exact ⟨rfl,this⟩
theorem bYv{α:Type}{el:Nat -> Nat -> bN α}{Q:Nat -> α -> Prop}{f:α -> List PT}(he:∀n k x k',el n k=.ok x k' -> Q n x /\ k+(f x).length <= k'):∀(n:Nat)(acc:List α)(k:Nat)(out:List α)(k':Nat),lI l el n acc k=.ok out k' -> ∃rest,out=acc++rest /\ (∀i (h:i<rest.length),Q (acc.length+i) rest[i]) /\ rest≠[] /\ k+(fZ f rest).length+1 <= k'
 |0,acc,k,out,k',h=>by unfold lI at h;cases h
 |n+1,acc,k,out,k',h=>by
  unfold lI at h
  obtain ⟨x,k1,h1,h2⟩:=cN h
  obtain ⟨g1,g2⟩:=he _ _ _ _ h1
  split at h2
  ·obtain ⟨rest,e,q,ne,hk⟩:=bYv he n _ _ _ _ h2
   refine ⟨x::rest,by rw [e];simp,fun i hi=>?_,by simp,?_⟩
   ·cases i with
    |zero=>exact g1
    |succ i=>
     have h9:=q i (by simpa using hi)
     rw [length_append,List.length_singleton,show acc.length+1+i=acc.length+(i+1) by omega] at h9
     exact h9
   ·obtain ⟨y,r,rfl⟩:=List.exists_cons_of_ne_nil ne
    rw [nW,length_append,length_cons];omega
  obtain ⟨_,k2,h3,h4⟩:=cN h2
  have:=bXr h3
  cases h4
  refine ⟨[x],rfl,fun i hi=>?_,by simp,?_⟩
  ·obtain rfl:i=0:=by simp at hi;exact hi
   exact g1
  have h9:(fZ f [x]).length=(f x).length:=by simp [fZ]
  omega
theorem bYi{α:Type}{el:Nat -> Nat -> bN α}{Q:Nat -> α -> Prop}{f:α -> List PT}(he:∀n k x k',el n k=.ok x k' -> Q n x /\ k+(f x).length <= k'){k k':Nat}{out:List α}(h:jC l el k=.ok out k'):(∀i (h:i<out.length),Q i out[i]) /\ k+(fZ f out).length+2 <= k':=by
 unfold jC at h
 obtain ⟨_,k1,h1,h2⟩:=cN h
 have hk1:=bXr h1
 split at h2
 ·cases h2
  exact ⟨fun i hi=>absurd hi (by simp),by show k+0+2 <= _;omega⟩
 obtain ⟨rest,e,q,_,hk⟩:=bYv he _ _ _ _ _ h2
 rw [List.nil_append] at e;subst e
 exact ⟨fun i hi=>by have h9:=q i hi;rw [length_nil,Nat.zero_add] at h9;exact h9,by omega⟩
theorem bYm{st:Nat -> bN aJ}{d:Nat}(hs:∀k s k',st k=.ok s k' -> (∀r,VSs d r -> VSs d (s::r)) /\ k+(cE s).length <= k'):∀(n:Nat)(acc:List aJ)(k:Nat)(out:List aJ)(k':Nat),eS l st n acc k=.ok out k' -> ∃rest,out=acc++rest /\ VSs d rest /\ k+(aQ rest).length+1 <= k'
 |0,acc,k,out,k',h=>by unfold eS at h;cases h
 |n+1,acc,k,out,k',h=>by
  unfold eS at h
  split at h
  ·cases h;exact ⟨[],by simp,.nil,by simp [aQ]⟩
  obtain ⟨s,k1,h1,h2⟩:=cN h
  obtain ⟨g1,g2⟩:=hs _ _ _ h1
  obtain ⟨rest,e,q,hk⟩:=bYm hs n _ _ _ _ h2
  exact ⟨s::rest,by rw [e];simp,g1 _ q,by rw [aQ,length_append];omega⟩
variable (hG:∀k,GT (bU l k))
include hG
theorem bXv{k k':Nat}{s:ByteArray}(h:jW l k=.ok s k'):bQ s=true /\ k'=k+1:=by
 unfold jW at h
 split at h
 ·rename_i h1;cases h;exact ⟨(hG k).name h1,rfl⟩
 cases h
theorem bYr{k k' n:Nat}(h:qE l k=.ok n k'):n <= 9223372036854775807 /\ k'=k+1:=by
 unfold qE at h
 split at h
 ·cases h;exact ⟨(hG k).num,rfl⟩
 cases h
theorem bYs{k k':Nat}{r:cY}(h:xV l k=.ok r k'):VR r /\ k+(hY r).length <= k':=by
 unfold xV at h
 obtain ⟨n,k1,h1,h2⟩:=cN h
 obtain ⟨g1,rfl⟩:=bXv hG h1
 unfold jT at h2
 split at h2
 ·obtain ⟨e,k2,h3,h4⟩:=cN h2
  obtain ⟨_,k3,h5,h6⟩:=cN h4
  obtain ⟨a1,a2,a3,a4⟩:=bX0 hG h3
  have:=bXr h5
  cases h6
  refine ⟨.el n e g1 ⟨a2,a3⟩,?_⟩
  have h9:(hY ⟨n,[e]⟩).length=(aT e).length+3:=by simp [hY]
  omega
 cases h2
 refine ⟨.one n g1,?_⟩
 have h9:(hY ⟨n,[]⟩).length=1:=rfl
 omega
theorem bZe{k k':Nat}{a:eN}(h:rC l k=.ok a k'):VA a /\ k+(wH a).length <= k':=by
 unfold rC at h
 split at h
 ·obtain ⟨r,k1,h1,h2⟩:=cN h
  obtain ⟨g1,g2⟩:=bYs hG h1
  cases h2
  have h9:(wH ⟨true,r,.zero⟩).length=(hY r).length+1:=rfl
  exact ⟨.mutex r g1,by omega⟩
 obtain ⟨e,k1,h1,h2⟩:=cN h
 obtain ⟨a1,a2,a3,a4⟩:=bX0 hG h1
 cases h2
 have h9:(wH ⟨false,.zero,e⟩).length=(aT e).length:=rfl
 exact ⟨.expr e ⟨a2,a3⟩,by omega⟩
theorem bYx{k k':Nat}{x:List eN}(h:rA l k=.ok x k'):(∀a,a∈x -> VA a) /\ k+(iG x).length <= k':=by
 unfold rA at h
 obtain ⟨g1,g2⟩:=bYi (Q:=fun _ a=>VA a) (f:=wH) (fun _ k x k' h=>bZe hG h) h
 have h9:(iG x).length=(fZ wH x).length+2:=by simp [iG]
 refine ⟨fun a ha=>?_,by omega⟩
 obtain ⟨i,hi,rfl⟩:=List.getElem_of_mem ha
 exact g1 i hi
theorem bZc{blk:Nat -> bN (List aJ)}{d:Nat}(hb:∀k b k',blk k=.ok b k' -> ∃d',d=d'+1 /\ VSs d' b /\ k+(aQ b).length+2 <= k'){k k':Nat}{s:aJ}(h:fB l blk k=.ok s k'):(∀r,VSs d r -> VSs d (s::r)) /\ k+(cE s).length <= k':=by
 unfold fB at h
 split at h
 ·unfold qI at h
  obtain ⟨n,k1,h1,h⟩:=cN h
  obtain ⟨_,k2,h2,h⟩:=cN h
  obtain ⟨e,k3,h3,h⟩:=cN h
  obtain ⟨g1,e1⟩:=bXv hG h1
  have e2:=bXr h2
  obtain ⟨a1,a2,a3,a4⟩:=bX0 hG h3
  obtain ⟨rfl,e4⟩:=bXw h
  refine ⟨fun r hr=>.var g1 ⟨a2,a3⟩ hr,?_⟩
  have h9:(cE (.mk 1 n e .zero [] [] [])).length=(aT e).length+4:=by rw [cE];simp
  omega
 split at h
 ·unfold goP at h
  obtain ⟨n,k1,h1,h⟩:=cN h
  obtain ⟨a,k2,h2,h⟩:=cN h
  obtain ⟨g1,e1⟩:=bXv hG h1
  obtain ⟨a1,a2⟩:=bYx hG h2
  obtain ⟨rfl,e4⟩:=bXw h
  refine ⟨fun r hr=>.go g1 a1 hr,?_⟩
  have h9:(cE (.mk 4 n .zero .zero a [] [])).length=(iG a).length+3:=by rw [cE];simp
  omega
 split at h
 ·unfold nH at h
  obtain ⟨f,k1,h1,h⟩:=cN h
  obtain ⟨g1,e1⟩:=bYs hG h1
  obtain ⟨rfl,e4⟩:=bXw h
  refine ⟨fun r hr=>.lock g1 hr,?_⟩
  have h9:(cE (.mk 5 aK .zero f [] [] [])).length=(hY f).length+2:=by rw [cE];simp
  omega
 split at h
 ·unfold nH at h
  obtain ⟨f,k1,h1,h⟩:=cN h
  obtain ⟨g1,e1⟩:=bYs hG h1
  obtain ⟨rfl,e4⟩:=bXw h
  refine ⟨fun r hr=>.unlock g1 hr,?_⟩
  have h9:(cE (.mk 6 aK .zero f [] [] [])).length=(hY f).length+2:=by rw [cE];simp
  omega
 split at h
 ·unfold ifP at h
  obtain ⟨e,k1,h1,h⟩:=cN h
  obtain ⟨t,k2,h2,h⟩:=cN h
  obtain ⟨a1,a2,a3,a4⟩:=bX0 hG h1
  obtain ⟨d',rfl,b1,b2⟩:=hb _ _ _ h2
  unfold tA at h
  split at h
  ·obtain ⟨f,k3,h3,h⟩:=cN h
   obtain ⟨d2,hd2,c1,c2⟩:=hb _ _ _ h3
   obtain rfl:d'=d2:=by omega
   cases h
   refine ⟨fun r hr=>.cond ⟨a2,a3⟩ b1 c1 hr,?_⟩
   have h9:(cE (.mk 7 aK e .zero [] t f)).length <= (aT e).length+(aQ t).length+(aQ f).length+6:=by
    rw [cE]
    by_cases hz:f.length=0
    ·simp [hz];omega
    simp [hz];omega
   omega
  cases h
  refine ⟨fun r hr=>.cond ⟨a2,a3⟩ b1 .nil hr,?_⟩
  have h9:(cE (.mk 7 aK e .zero [] t [])).length=(aT e).length+(aQ t).length+3:=by rw [cE];simp;omega
  omega
 split at h
 ·unfold pJ at h
  obtain ⟨e,k1,h1,h⟩:=cN h
  obtain ⟨t,k2,h2,h⟩:=cN h
  obtain ⟨a1,a2,a3,a4⟩:=bX0 hG h1
  obtain ⟨d',rfl,b1,b2⟩:=hb _ _ _ h2
  cases h
  refine ⟨fun r hr=>.loop ⟨a2,a3⟩ b1 hr,?_⟩
  have h9:(cE (.mk 8 aK e .zero [] t [])).length=(aT e).length+(aQ t).length+3:=by rw [cE];simp;omega
  omega
 split at h
 ·unfold aD8 at h
  obtain ⟨rfl,e4⟩:=bXw h
  refine ⟨fun r hr=>.ret hr,?_⟩
  have h9:(cE (.mk 9 aK .zero .zero [] [] [])).length=2:=by rw [cE];simp
  omega
 unfold mG at h
 obtain ⟨n,k1,h1,h⟩:=cN h
 obtain ⟨g1,e1⟩:=bXv hG h1
 unfold iB at h
 split at h
 ·obtain ⟨e,k3,h3,h⟩:=cN h
  obtain ⟨a1,a2,a3,a4⟩:=bX0 hG h3
  obtain ⟨rfl,e4⟩:=bXw h
  refine ⟨fun r hr=>.assign g1 ⟨a2,a3⟩ hr,?_⟩
  have h9:(cE (.mk 2 n e .zero [] [] [])).length=(aT e).length+3:=by rw [cE];simp
  omega
 obtain ⟨a,k2,h2,h⟩:=cN h
 obtain ⟨a1,a2⟩:=bYx hG h2
 obtain ⟨rfl,e4⟩:=bXw h
 refine ⟨fun r hr=>.call g1 a1 hr,?_⟩
 have h9:(cE (.mk 3 n .zero .zero a [] [])).length=(iG a).length+2:=by rw [cE];simp
 omega
theorem bYo:∀(d k:Nat)(b:List aJ)(k':Nat),eX l d k=.ok b k' -> ∃d',d=d'+1 /\ VSs d' b /\ k+(aQ b).length+2 <= k'
 |0,k,b,k',h=>by unfold eX at h;split at h<;>cases h
 |d+1,k,b,k',h=>by
  unfold eX at h
  obtain ⟨_,k1,h1,h2⟩:=cN h
  have:=bXr h1
  obtain ⟨rest,e,q,hk⟩:=bYm (d:=d) (fun k s k' h=>bZc hG (fun k b k' h=>bYo d k b k' h) h) _ _ _ _ _ h2
  rw [List.nil_append] at e;subst e
  exact ⟨d,rfl,q,by omega⟩
theorem bY0{k k':Nat}{g:aI}(h:mP l (k+1)=.ok g k'):VG g /\ k+(bEr g).length <= k':=by
 unfold mP at h
 obtain ⟨n,k1,h1,h⟩:=cN h
 obtain ⟨g1,e1⟩:=bXv hG h1
 split at h
 ·split at h
  ·obtain ⟨i,k2,h2,h⟩:=cN h
   obtain ⟨_,k3,h3,h⟩:=cN h
   obtain ⟨g2,e2⟩:=bYr hG h2
   have e3:=bXr h3
   cases h
   refine ⟨⟨g1,by dsimp only;omega⟩,?_⟩
   have h9:(bEr ⟨n,-(i:Int)⟩).length <= 6:=by
    unfold bEr;dsimp only
    split
    ·simp
    split<;>simp
   omega
  obtain ⟨i,k2,h2,h⟩:=cN h
  obtain ⟨_,k3,h3,h⟩:=cN h
  obtain ⟨g2,e2⟩:=bYr hG h2
  have e3:=bXr h3
  cases h
  refine ⟨⟨g1,by dsimp only;omega⟩,?_⟩
  have h9:(bEr ⟨n,(i:Int)⟩).length <= 5:=by
   unfold bEr;dsimp only
   split
   ·simp
   rw [if_neg (by omega)];simp
  omega
 obtain ⟨_,k3,h3,h⟩:=cN h
 have e3:=bXr h3
 cases h
 refine ⟨⟨g1,by show (0:Int).natAbs <= _;decide⟩,?_⟩
 have h9:(bEr ⟨n,0⟩).length=3:=rfl
 omega
theorem bYk{k k':Nat}{re:Bool}{m:cL}(h:nE l re (k+1)=.ok m k'):VM m /\ k+(gT m).length <= k':=by
 unfold nE at h
 obtain ⟨n,k1,h1,h⟩:=cN h
 obtain ⟨g1,e1⟩:=bXv hG h1
 split at h
 ·rename_i hre
  obtain ⟨i,k2,h2,h⟩:=cN h
  obtain ⟨_,k3,h3,h⟩:=cN h
  obtain ⟨_,k4,h4,h⟩:=cN h
  unfold qX at h2
  obtain ⟨j,k5,h5,h2⟩:=cN h2
  obtain ⟨g2,e2⟩:=bYr hG h5
  split at h2
  ·cases h2
  rename_i hij
  cases h2
  have e3:=bXr h3
  have e4:=bXr h4
  cases h
  refine ⟨⟨g1,by dsimp only;omega,by dsimp only;omega,fun hr=>by dsimp only at hr;rw [hre.1] at hr;cases hr⟩,?_⟩
  have h9:(gT ⟨n,re,(i:Int)⟩).length <= 6:=by
   unfold gT;dsimp only
   split<;>split<;>simp
  omega
 obtain ⟨_,k3,h3,h⟩:=cN h
 have e3:=bXr h3
 cases h
 refine ⟨⟨g1,by dsimp only;omega,by dsimp only;omega,fun _=>rfl⟩,?_⟩
 have h9:(gT ⟨n,re,0⟩).length=3:=rfl
 omega
theorem bY8{n k k':Nat}{x:aS}(h:fQ l n k=.ok x k'):(n<6 /\ bQ x.name=true) /\ k+(lQ x).length <= k':=by
 unfold fQ at h
 split at h
 ·cases h
 rename_i hc
 split at h
 ·rename_i hw
  obtain ⟨s,k1,h1,h⟩:=cN h
  obtain ⟨g1,e1⟩:=bXv hG h1
  cases h
  have h9:(lQ ⟨s,true⟩).length=2:=rfl
  exact ⟨⟨Nat.lt_of_not_le fun h6=>hc ⟨h6,.inr hw⟩,g1⟩,by omega⟩
 obtain ⟨s,k1,h1,h⟩:=cN h
 have hk:(bU l k).kind=1:=by
  unfold jW at h1
  split at h1
  ·assumption
  cases h1
 obtain ⟨g1,e1⟩:=bXv hG h1
 cases h
 have h9:(lQ ⟨s,false⟩).length=1:=rfl
 exact ⟨⟨Nat.lt_of_not_le fun h6=>hc ⟨h6,.inl hk⟩,g1⟩,by omega⟩
theorem bZb{k k':Nat}{f:bS}(h:sW l (k+1)=.ok f k'):VF f /\ k+(kA f).length <= k':=by
 unfold sW at h
 obtain ⟨n,k1,h1,h⟩:=cN h
 obtain ⟨ps,k2,h2,h⟩:=cN h
 obtain ⟨b,k3,h3,h⟩:=cN h
 obtain ⟨g1,e1⟩:=bXv hG h1
 obtain ⟨g2,e2⟩:=bYi (Q:=fun n x=>n<6 /\ bQ x.name=true) (f:=lQ) (fun _ k x k' h=>bY8 hG h) h2
 obtain ⟨d',hd,g3,e3⟩:=bYo hG _ _ _ _ h3
 obtain rfl:d'=23:=by omega
 cases h
 refine ⟨⟨g1,?_,fun x hx=>?_,g3⟩,?_⟩
 ·dsimp only
  rcases Nat.lt_or_ge 6 ps.length with h6|h6
  ·have:=(g2 6 h6).1;omega
  exact h6
 ·obtain ⟨i,hi,rfl⟩:=List.getElem_of_mem hx
  exact (g2 i hi).2
 have h9:(kA ⟨n,ps,b⟩).length=(fZ lQ ps).length+(aQ b).length+6:=by simp [kA];omega
 omega
end
structure bX7 (x:cK) (n:Nat):Prop where
 gl:∀g,g∈x.globals -> VG g
 ml:∀g,g∈x.mutexes -> VM g
 fl:∀g,g∈x.funcs -> VF g
 lg:x.globals.length <= 16
 lm:x.mutexes.length <= 12
 lf:x.funcs.length <= 16
 sum:(x.globals.map bEr).flatten.length+(x.mutexes.map gT).flatten.length+(x.funcs.map kA).flatten.length <= n
theorem bX4{α:Type}(f:α -> List PT)(l:List α)(x:α):((l++[x]).map f).flatten.length=(l.map f).flatten.length+(f x).length:=by simp
theorem bYd{α:Type}{l:List α}{x:α}{Q:α -> Prop}(h:∀y,y∈l -> Q y)(hx:Q x):∀y,y∈l++[x] -> Q y:=fun y hy=>by
 rcases mem_append.1 hy with hy|hy
 ·exact h y hy
 rw [List.mem_singleton.1 hy];exact hx
section
variable {l:List Tok}(hG:∀k,GT (bU l k))
include hG
theorem bZd{x y:cK}{k k':Nat}(hx:bX7 x k)(h:gR l x k=.ok y k'):bX7 y k':=by
 obtain ⟨h1,h2,h3,h4,h5,h6,h7⟩:=hx
 unfold gR at h
 split at h
 ·split at h
  ·cases h
  obtain ⟨g,k1,q1,h⟩:=cN h
  obtain ⟨a1,a2⟩:=bY0 hG q1
  cases h
  exact ⟨bYd h1 a1,h2,h3,by simp;omega,h5,h6,by dsimp only;rw [bX4];omega⟩
 split at h
 ·split at h
  ·cases h
  obtain ⟨g,k1,q1,h⟩:=cN h
  obtain ⟨a1,a2⟩:=bYk hG q1
  cases h
  exact ⟨h1,bYd h2 a1,h3,h4,by simp;omega,h6,by dsimp only;rw [bX4];omega⟩
 split at h
 ·split at h
  ·cases h
  obtain ⟨g,k1,q1,h⟩:=cN h
  obtain ⟨a1,a2⟩:=bYk hG q1
  cases h
  exact ⟨h1,bYd h2 a1,h3,h4,by simp;omega,h6,by dsimp only;rw [bX4];omega⟩
 split at h
 ·split at h
  ·cases h
  obtain ⟨g,k1,q1,h⟩:=cN h
  obtain ⟨a1,a2⟩:=bZb hG q1
  cases h
  exact ⟨h1,h2,bYd h3 a1,h4,h5,by simp;omega,by dsimp only;rw [bX4];omega⟩
 cases h
theorem bYu:∀(n:Nat)(x:cK)(k:Nat)(y:cK)(k':Nat),bX7 x k -> lK l n x k=.ok y k' -> bX7 y k'
 |0,x,k,y,k',_,h=>by unfold lK at h;cases h
 |n+1,x,k,y,k',hx,h=>by
  unfold lK at h
  split at h
  ·cases h;exact hx
  obtain ⟨z,k1,h1,h2⟩:=cN h
  exact bYu n z k1 y k' (bZd hG hx h1) h2
end
end
section
theorem VE.sane9{e:aH}(h:VE e):e.sane:=by
 induction h with
 |num n h=>rw [aH.sane];exact ⟨by unfold fit;omega,by decide,trivial⟩
 |name s h=>rw [aH.sane];exact ⟨by unfold fit;omega,by have:=dV h;omega,trivial⟩
 |un op x h hx ih=>rw [aH.sane,iI,iI];exact ⟨by unfold fit;omega,by decide,ih,trivial⟩
 |bin op x y h hx hy ihx ihy=>rw [aH.sane,iI,iI,iI];exact ⟨by unfold fit;omega,by decide,ihx,ihy,trivial⟩
theorem VE.shape9{e:aH}(h:VE e):eO e=true:=by
 induction h with
 |num n h=>rw [eO,dY,show aM 1=6 from rfl,if_pos rfl,jG,arity,show aM 1=6 from rfl,if_pos rfl];simp
 |name s h=>rw [eO,dY,show aM 2=6 from rfl,if_pos rfl,jG,arity,show aM 2=6 from rfl,if_pos rfl,h];simp
 |un op x h hx ih=>
  have hs:=aDj h
  rw [eO,dY,dY,arity,hs,if_neg (by decide),if_neg (by decide),if_pos rfl,ih];simp
 |bin op x y h hx hy ihx ihy=>
  have hs:=sX h.1 h.2
  rw [eO,dY,dY,dY,arity,if_neg (by omega),if_neg (by omega),if_neg (by omega),ihx,ihy];simp
theorem VX.valid9{e:aH}(h:VX e):dM e=true:=by rw [dM,h.1.shape9,decide_eq_true h.2];rfl
theorem bXx:aH.zero.sane:=by unfold aH.zero;rw [aH.sane];exact ⟨by unfold fit;omega,by decide,trivial⟩
theorem bXu:cY.zero.sane:=⟨by decide,trivial⟩
theorem bX5:bLg .zero=true:=by kernel_rfl
theorem bXz:kM .zero=true:=by kernel_rfl
theorem VR.sane9{r:cY}(h:VR r):r.sane:=by
 cases h with
 |one n h=>exact ⟨by have:=dV h;dsimp only;omega,trivial⟩
 |el n e h he=>exact ⟨by have:=dV h;dsimp only;omega,he.1.sane9,trivial⟩
theorem VR.ok9{r:cY}(h:VR r):okRefB r=true:=by
 cases h with
 |one n h=>unfold okRefB;rw [h];rfl
 |el n e h he=>unfold okRefB;rw [h];dsimp only;rw [he.valid9];rfl
theorem VA.sane9{a:eN}(h:VA a):a.sane:=by
 cases h with
 |mutex r h=>exact ⟨h.sane9,bXx⟩
 |expr e h=>exact ⟨bXu,h.1.sane9⟩
theorem VA.ok9{a:eN}(h:VA a):fY a=true:=by
 cases h with
 |mutex r h=>unfold fY;rw [if_pos rfl,h.ok9,bX5];rfl
 |expr e h=>unfold fY;rw [if_neg (by simp),h.valid9,bXz];rfl
theorem VSs.sane9{d:Nat}{l:List aJ}(h:VSs d l):gC l:=by
 have hn:∀a:eN,a∈([]:List eN) -> a.sane:=fun a ha=>by cases ha
 have hz:aK.size <= 4611686018427387904:=by decide
 induction h with
 |nil=>trivial
 |var hn9 he h ih=>rw [gC,aJ.sane];exact ⟨⟨by have:=dV hn9;omega,he.1.sane9,bXu,hn,trivial,trivial⟩,ih⟩
 |assign hn9 he h ih=>rw [gC,aJ.sane];exact ⟨⟨by have:=dV hn9;omega,he.1.sane9,bXu,hn,trivial,trivial⟩,ih⟩
 |call hn9 ha h ih=>rw [gC,aJ.sane];exact ⟨⟨by have:=dV hn9;omega,bXx,bXu,fun a h=>(ha a h).sane9,trivial,trivial⟩,ih⟩
 |go hn9 ha h ih=>rw [gC,aJ.sane];exact ⟨⟨by have:=dV hn9;omega,bXx,bXu,fun a h=>(ha a h).sane9,trivial,trivial⟩,ih⟩
 |lock hf h ih=>rw [gC,aJ.sane];exact ⟨⟨hz,bXx,hf.sane9,hn,trivial,trivial⟩,ih⟩
 |unlock hf h ih=>rw [gC,aJ.sane];exact ⟨⟨hz,bXx,hf.sane9,hn,trivial,trivial⟩,ih⟩
 |cond he ht hf h iht ihf ih=>rw [gC,aJ.sane];exact ⟨⟨hz,he.1.sane9,bXu,hn,iht,ihf⟩,ih⟩
 |loop he ht h iht ih=>rw [gC,aJ.sane];exact ⟨⟨hz,he.1.sane9,bXu,hn,iht,trivial⟩,ih⟩
 |ret h ih=>rw [gC,aJ.sane];exact ⟨⟨hz,bXx,bXu,hn,trivial,trivial⟩,ih⟩
theorem VSs.ok9{d:Nat}{l:List aJ}(h:VSs d l):∀D,D+d<24 -> bM D l=true:=by
 induction h with
 |nil=>intro D hd;rw [bM];exact decide_eq_true (by omega)
 |var hn he h ih=>intro D hd;rw [bM,bK9,ih D hd,hn,he.valid9,bXz];rfl
 |assign hn he h ih=>intro D hd;rw [bM,bK9,ih D hd,hn,he.valid9,bXz];rfl
 |@call d n a r hn ha h ih=>
  intro D hd
  have h9:a.all fY=true:=List.all_eq_true.2 fun x hx=>(ha x hx).ok9
  rw [bM,bK9,ih D hd,hn,bXz,bX5,h9];rfl
 |@go d n a r hn ha h ih=>
  intro D hd
  have h9:a.all fY=true:=List.all_eq_true.2 fun x hx=>(ha x hx).ok9
  rw [bM,bK9,ih D hd,hn,bXz,bX5,h9];rfl
 |lock hf h ih=>intro D hd;rw [bM,bK9,ih D hd,bX5,hf.ok9];rfl
 |unlock hf h ih=>intro D hd;rw [bM,bK9,ih D hd,bX5,hf.ok9];rfl
 |cond he ht hf h iht ihf ih=>
  intro D hd
  rw [bM,bK9,ih D hd,he.valid9,bXz,iht (D+1) (by omega),ihf (D+1) (by omega)]
  simp
 |loop he ht h iht ih=>
  intro D hd
  rw [bM,bK9,ih D hd,he.valid9,bXz,iht (D+1) (by omega)]
  simp
 |ret h ih=>intro D hd;rw [bM,bK9,ih D hd,bX5,bXz];rfl
theorem bX7.sane{p:cK}{n:Nat}(h:bX7 p n):p.sane:=
 ⟨fun g hg=>by have:=h.gl g hg;have h2:=dV this.1;have h3:=this.2;exact ⟨by unfold fit;omega,by omega⟩,
  fun g hg=>by obtain ⟨h1,h2,h3,h4⟩:=h.ml g hg;have h5:=dV h1;exact ⟨by unfold fit;omega,by omega⟩,
  fun g hg=>by obtain ⟨h1,h2,h3,h4⟩:=h.fl g hg;have h5:=dV h1;exact ⟨by omega,fun x hx=>by have:=dV (h3 x hx);omega,h4.sane9⟩⟩
theorem bX7.form{p:cK}{n:Nat}(h:bX7 p n):nY p=true:=by
 unfold nY
 simp only [Bool.and_eq_true,decide_eq_true_eq]
 refine ⟨⟨⟨⟨h.lg,h.lm,h.lf⟩,List.all_eq_true.2 fun g hg=>?_⟩,List.all_eq_true.2 fun g hg=>?_⟩,List.all_eq_true.2 fun g hg=>?_⟩
 ·obtain ⟨h1,h2⟩:=h.gl g hg
  unfold gH;rw [h1,decide_eq_true (by omega)];rfl
 ·obtain ⟨h1,h2,h3,h4⟩:=h.ml g hg
  unfold fS
  rw [h1,decide_eq_true ⟨h2,h3⟩]
  cases hr:g.reentrant with
  |false=>rfl
  |true=>rw [h4 hr];rfl
 obtain ⟨h1,h2,h3,h4⟩:=h.fl g hg
 unfold gW
 rw [h1,decide_eq_true h2,h4.ok9 0 (by omega),List.all_eq_true.2 h3];rfl
theorem VE.nodes9{e:aH}(h:VE e):e.nodes+2 <= 3*(aT e).length:=by
 induction h with
 |num n h=>rw [uO,aH.nodes,cZ];simp
 |name s h=>rw [sC,aH.nodes,cZ];simp
 |un op x h hx ih=>rw [yB h,aH.nodes,cZ,cZ,length_cons,bXy];omega
 |bin op x y h hx hy ihx ihy=>rw [uI h,aH.nodes,cZ,cZ,cZ,length_append,length_cons,bXy,bXy];omega
theorem VR.wt9{r:cY}(h:VR r):r.wt <= 3*(hY r).length:=by
 cases h with
 |one n h=>show 1+cZ [] <= 3*1;rw [cZ];omega
 |el n e h he=>
  have:=he.1.nodes9
  have h9:(hY ⟨n,[e]⟩).length=(aT e).length+3:=by simp [hY]
  rw [h9];unfold cY.wt;rw [cZ,cZ];omega
theorem VA.wt9{a:eN}(h:VA a):a.wt <= 4*(wH a).length:=by
 cases h with
 |mutex r h=>
  have:=h.wt9
  have h9:(wH ⟨true,r,.zero⟩).length=(hY r).length+1:=rfl
  have h8:aH.zero.nodes=1:=rfl
  rw [h9];unfold eN.wt;dsimp only;omega
 |expr e h=>
  have:=h.1.nodes9
  have h9:(wH ⟨false,.zero,e⟩).length=(aT e).length:=rfl
  have h8:cY.zero.wt=1:=rfl
  rw [h9];unfold eN.wt;dsimp only;omega
theorem bYq:∀{l:List eN},(∀x,x∈l -> VA x) -> wtA l <= 4*(fZ wH l).length
 |[],_=>by simp [wtA]
 |[x],h=>by
  have:=(h x (by simp)).wt9
  have h9:(fZ wH [x]).length=(wH x).length:=by simp [fZ]
  rw [h9,wtA,wtA];omega
 |x::y::r,h=>by
  have h1:=(h x (by simp)).wt9
  have h2:=bYq (l:=y::r) fun z hz=>h z (List.mem_cons_of_mem _ hz)
  rw [nW,wtA,length_append,length_cons];omega
theorem VSs.wt9{d:Nat}{l:List aJ}(h:VSs d l):wtS l <= 4*(aQ l).length:=by
 have h8:aH.zero.nodes=1:=rfl
 have h7:cY.zero.wt=1:=rfl
 have h6:wtA []=0:=rfl
 have h5:wtS []=0:=rfl
 induction h with
 |nil=>simp [wtS]
 |@var d n e r hn he h ih=>
  have:=he.1.nodes9
  rw [wtS,aJ.wt,aQ,length_append,show (cE (.mk 1 n e .zero [] [] [])).length=(aT e).length+4 by rw [cE];simp];omega
 |@assign d n e r hn he h ih=>
  have:=he.1.nodes9
  rw [wtS,aJ.wt,aQ,length_append,show (cE (.mk 2 n e .zero [] [] [])).length=(aT e).length+3 by rw [cE];simp];omega
 |@call d n a r hn ha h ih=>
  have:=bYq ha
  have h9:(iG a).length=(fZ wH a).length+2:=by simp [iG]
  rw [wtS,aJ.wt,aQ,length_append,show (cE (.mk 3 n .zero .zero a [] [])).length=(iG a).length+2 by rw [cE];simp];omega
 |@go d n a r hn ha h ih=>
  have:=bYq ha
  have h9:(iG a).length=(fZ wH a).length+2:=by simp [iG]
  rw [wtS,aJ.wt,aQ,length_append,show (cE (.mk 4 n .zero .zero a [] [])).length=(iG a).length+3 by rw [cE];simp];omega
 |@lock d f r hf h ih=>
  have:=hf.wt9
  rw [wtS,aJ.wt,aQ,length_append,show (cE (.mk 5 aK .zero f [] [] [])).length=(hY f).length+2 by rw [cE];simp];omega
 |@unlock d f r hf h ih=>
  have:=hf.wt9
  rw [wtS,aJ.wt,aQ,length_append,show (cE (.mk 6 aK .zero f [] [] [])).length=(hY f).length+2 by rw [cE];simp];omega
 |@cond d e t f r he ht hf h iht ihf ih=>
  have:=he.1.nodes9
  have h9:(aT e).length+(aQ t).length+(aQ f).length+3 <= (cE (.mk 7 aK e .zero [] t f)).length:=by
   rw [cE]
   by_cases hz:f.length=0
   ·obtain rfl:=List.length_eq_zero_iff.1 hz
    simp [aQ];omega
   simp [hz];omega
  rw [wtS,aJ.wt,aQ,length_append];omega
 |@loop d e t r he ht h iht ih=>
  have:=he.1.nodes9
  rw [wtS,aJ.wt,aQ,length_append,show (cE (.mk 8 aK e .zero [] t [])).length=(aT e).length+(aQ t).length+3 by rw [cE];simp;omega];omega
 |@ret d r h ih=>
  rw [wtS,aJ.wt,aQ,length_append,show (cE (.mk 9 aK .zero .zero [] [] [])).length=2 by rw [cE];simp];omega
theorem bYn{α:Type}(f:α -> List PT)(l:List α)(h:∀x,x∈l -> 1 <= (f x).length):l.length <= (l.map f).flatten.length:=by
 induction l with
 |nil=>simp
 |cons x l ih=>
  have h1:=h x (by simp)
  have h2:=ih fun y hy=>h y (List.mem_cons_of_mem _ hy)
  simp only [length_cons,List.map_cons,List.flatten_cons,length_append];omega
theorem bYb{α:Type}(f:α -> List PT)(h:∀x,1 <= (f x).length):∀l:List α,l.length <= (fZ f l).length
 |[]=>by simp
 |[x]=>by have:=h x;simp [fZ];omega
 |x::y::r=>by have h1:=bYb f h (y::r);have h2:=h x;rw [nW,length_append,length_cons];simp only [length_cons] at h1⊢;omega
theorem bY9(x:aS):1 <= (lQ x).length:=by unfold lQ;simp
theorem bYl(f:bS):(kA f).length=(fZ lQ f.params).length+(aQ f.body).length+6:=by simp [kA];omega
theorem bYy:∀{l:List bS},(∀f,f∈l -> VF f) -> (l.map bS.wt).sum <= 4*(l.map kA).flatten.length
 |[],_=>by simp
 |f::l,h=>by
  have h1:=(h f (by simp)).2.2.2.wt9
  have h2:=bYy (l:=l) fun g hg=>h g (List.mem_cons_of_mem _ hg)
  have h3:=bYb lQ bY9 f.params
  have h4:=bYl f
  simp only [List.map_cons,List.sum_cons,List.flatten_cons,length_append]
  unfold bS.wt at h2⊢;omega
theorem bX7.wt{p:cK}{n:Nat}(h:bX7 p n):p.wt <= 4*n:=by
 have h1:=bYn bEr p.globals (fun x _=>by unfold bEr;simp)
 have h2:=bYn gT p.mutexes (fun x _=>by unfold gT;simp)
 have h3:=bYy h.fl
 have h4:=h.sum
 unfold cK.wt;omega
theorem bZl{N:Nat}{r:cY}(h:okRefB r=true∨kM r=true)(hN:r.wt <= N):r.small N:=by
 unfold cY.wt at hN
 refine ⟨?_,fun x hx=>?_⟩
 ·rcases h with h|h
  ·rcases (xE h).2.1 with h|h<;>omega
  unfold kM at h
  simp only [Bool.and_eq_true,decide_eq_true_eq] at h;omega
 obtain ⟨k,hk,rfl⟩:=List.getElem_of_mem hx
 have:=nM r.index k hk;omega
theorem bZn{N:Nat}{a:eN}(h:fY a=true)(hN:a.wt <= N):a.small N:=by
 unfold eN.wt at hN
 refine ⟨bZl ?_ (by omega),by omega⟩
 unfold fY at h
 split at h<;>rw [Bool.and_eq_true] at h
 ·exact .inl h.1
 exact .inr h.1
mutual
theorem bZo{N:Nat}:∀(s:aJ)(D:Nat),bK9 D s=true -> s.wt <= N -> s.small N
 |.mk k n e r a t f,D,h,hw=>by
  rw [bK9] at h
  simp only [Bool.and_eq_true,Bool.or_eq_true,decide_eq_true_eq] at h
  obtain ⟨⟨⟨⟨-,h4⟩,-⟩,h6⟩,h7⟩:=h.1
  rw [aJ.wt] at hw
  have h1:=aCj a
  have h2:=uZ t
  have h3:=uZ f
  rw [aJ.small]
  refine ⟨by omega,bZl (by split at h4;exact .inl h4;exact .inr h4) (by omega),by omega,fun x hx=>?_,by omega,?_,by omega,?_⟩
  ·obtain ⟨j,hj,rfl⟩:=List.getElem_of_mem hx
   have:=aDf a j hj
   exact bZn (List.all_eq_true.1 h6 _ hx) (by omega)
  ·split at h7
   ·exact bZk t (D+1) h7 (by omega)
   rw [List.length_eq_zero_iff.1 (of_decide_eq_true h7)];trivial
  rcases h.2 with h8|h8
  ·rw [List.length_eq_zero_iff.1 h8];trivial
  exact bZk f (D+1) h8.2 (by omega)
theorem bZk{N:Nat}:∀(l:List aJ)(D:Nat),bM D l=true -> wtS l <= N -> smalls N l
 |[],_,_,_=>trivial
 |s::l,D,h,hw=>by
  rw [bM,Bool.and_eq_true] at h
  rw [wtS] at hw
  exact ⟨bZo s D h.1 (by omega),bZk l D h.2 (by omega)⟩
end
theorem bZm{p:cK}{N:Nat}(h:nY p=true)(hN:p.wt+30 <= N):p.small N:=by
 unfold nY at h
 simp only [Bool.and_eq_true,decide_eq_true_eq] at h
 refine ⟨by omega,by omega,by omega,fun f hf=>?_⟩
 have h1:=List.all_eq_true.1 h.2 f hf
 unfold gW at h1
 simp only [Bool.and_eq_true,decide_eq_true_eq] at h1
 obtain ⟨k,hk,rfl⟩:=List.getElem_of_mem hf
 have h5:=aDi bS.wt p.funcs k hk
 unfold cK.wt at hN
 unfold bS.wt at h5 hN
 have:=uZ p.funcs[k].body
 exact ⟨by omega,by omega,bZk _ 0 h1.1.2 (by omega)⟩
theorem bY3(b:Bool)(t:List UInt8):(aH3 b t).length=t.length+2*(if b then 1 else 0):=by cases b<;>simp [aH3]
theorem bY2(n:Nat)(h:n <= 9223372036854775807):(cO n).length <= 19:=aGa 19 n (by omega) (by omega)
theorem bXq{s:ByteArray}(h:bQ s=true):s.data.toList.length <= 16:=dV h
theorem VE.len9{e:aH}(h:VE e):(aP e).length <= 20*(aT e).length:=by
 induction h with
 |num n h=>have:=bY2 n h;rw [uO,wE];simp only [length_cons,length_nil];omega
 |name s h=>have:=bXq h;rw [sC,zB];simp only [length_cons,length_nil];omega
 |un op x h hx ih=>rw [yB h,aFl h,length_cons,length_cons,bXy,bY3];omega
 |bin op x y h hx hy ihx ihy=>
  have:=aAr op
  rw [uI h,aB4 h]
  simp only [length_append,length_cons,length_nil,bXy,bY3];omega
theorem VR.len9{r:cY}(h:VR r):(dC r).length <= 20*(hY r).length:=by
 cases h with
 |one n h=>have:=bXq h;show n.data.toList.length <= 20*1;omega
 |el n e h he=>
  have:=he.1.len9
  have:=bXq h
  have h9:(hY ⟨n,[e]⟩).length=(aT e).length+3:=by simp [hY]
  rw [h9]
  show (n.data.toList++[91]++aP e++[93]).length <= _
  simp only [length_append,length_cons,length_nil];omega
theorem VA.len9{a:eN}(h:VA a):(dE a).length <= 20*(wH a).length:=by
 cases h with
 |mutex r h=>
  have:=h.len9
  have h9:(wH ⟨true,r,.zero⟩).length=(hY r).length+1:=rfl
  rw [h9]
  show ([109,117,116,101,120,32]++dC r).length <= _
  simp only [length_append,length_cons,length_nil];omega
 |expr e h=>exact h.1.len9
theorem bX8{α:Type}{fT:α -> List UInt8}{fK:α -> List PT}:∀(l:List α),(∀x,x∈l -> (fT x).length <= 20*(fK x).length) -> (bW fT l).length <= 20*(fZ fK l).length
 |[],_=>by simp [bW]
 |[x],h=>by have:=h x (by simp);simpa [bW,fZ] using this
 |x::y::q,h=>by
  have h1:=bX8 (y::q) fun z hz=>h z (List.mem_cons_of_mem _ hz)
  have h2:=h x (by simp)
  rw [aHu,nW]
  simp only [length_append,length_cons,length_nil] at h1⊢;omega
theorem bYw{l:List eN}(h:∀x,x∈l -> VA x):(dF l).length <= 20*(iG l).length:=by
 have h1:=bX8 (fT:=dE) (fK:=wH) l fun x hx=>(h x hx).len9
 have h9:(iG l).length=(fZ wH l).length+2:=by simp [iG]
 unfold dF
 simp only [length_append,length_cons,length_nil];omega
theorem VSs.len9{d:Nat}{l:List aJ}(h:VSs d l):∀tabs:List UInt8,tabs.length+d <= 24 -> (aC tabs l).length <= 60*(aQ l).length:=by
 induction h with
 |nil=>intro tabs _;simp [aC]
 |@var d n e r hn he h ih=>
  intro tabs ht
  have h0:=ih tabs ht
  have h1:=he.1.len9
  have h2:=bXq hn
  rw [aC,aQ,length_append,length_append,show (cE (.mk 1 n e .zero [] [] [])).length=(aT e).length+4 by rw [cE];simp,bY,if_pos rfl]
  simp only [length_append,length_cons,length_nil];omega
 |@assign d n e r hn he h ih=>
  intro tabs ht
  have h0:=ih tabs ht
  have h1:=he.1.len9
  have h2:=bXq hn
  rw [aC,aQ,length_append,length_append,show (cE (.mk 2 n e .zero [] [] [])).length=(aT e).length+3 by rw [cE];simp,bY,if_neg (by decide),if_pos rfl]
  simp only [length_append,length_cons,length_nil];omega
 |@call d n a r hn ha h ih=>
  intro tabs ht
  have h0:=ih tabs ht
  have h1:=bYw ha
  have h2:=bXq hn
  rw [aC,aQ,length_append,length_append,show (cE (.mk 3 n .zero .zero a [] [])).length=(iG a).length+2 by rw [cE];simp,bY,if_neg (by decide),if_neg (by decide),if_pos rfl]
  simp only [length_append,length_cons,length_nil];omega
 |@go d n a r hn ha h ih=>
  intro tabs ht
  have h0:=ih tabs ht
  have h1:=bYw ha
  have h2:=bXq hn
  rw [aC,aQ,length_append,length_append,show (cE (.mk 4 n .zero .zero a [] [])).length=(iG a).length+3 by rw [cE];simp,bY,if_neg (by decide),if_neg (by decide),if_neg (by decide),if_pos rfl]
  simp only [length_append,length_cons,length_nil];omega
 |@lock d f r hf h ih=>
  intro tabs ht
  have h0:=ih tabs ht
  have h1:=hf.len9
  rw [aC,aQ,length_append,length_append,show (cE (.mk 5 aK .zero f [] [] [])).length=(hY f).length+2 by rw [cE];simp,bY,if_neg (by decide),if_neg (by decide),if_neg (by decide),if_neg (by decide),if_pos rfl]
  simp only [length_append,length_cons,length_nil];omega
 |@unlock d f r hf h ih=>
  intro tabs ht
  have h0:=ih tabs ht
  have h1:=hf.len9
  rw [aC,aQ,length_append,length_append,show (cE (.mk 6 aK .zero f [] [] [])).length=(hY f).length+2 by rw [cE];simp,bY,if_neg (by decide),if_neg (by decide),if_neg (by decide),if_neg (by decide),if_neg (by decide),if_pos rfl]
  simp only [length_append,length_cons,length_nil];omega
 |@cond d e t f r he htt hf h iht ihf ih=>
  intro tabs ht
  have h0:=ih tabs ht
  have h1:=he.1.len9
  have ht2:(tabs++[9]).length+d <= 24:=by simp;omega
  have h2:=iht (tabs++[9]) ht2
  have h3:=ihf (tabs++[9]) ht2
  have h9:(aT e).length+(aQ t).length+(if f.length=0 then 0 else (aQ f).length+3)+3 <= (cE (.mk 7 aK e .zero [] t f)).length:=by
   rw [cE]
   by_cases hz:f.length=0
   ·simp [hz];omega
   simp [hz];omega
  rw [aC,aQ,length_append,length_append,bY,if_neg (by decide),if_neg (by decide),if_neg (by decide),if_neg (by decide),if_neg (by decide),if_neg (by decide),if_pos (by decide),if_neg (by decide)]
  by_cases hz:f.length=0
  ·rw [if_pos hz] at h9⊢
   simp only [length_append,length_cons,length_nil];omega
  ·rw [if_neg hz] at h9⊢
   simp only [length_append,length_cons,length_nil];omega
 |@loop d e t r he htt h iht ih=>
  intro tabs ht
  have h0:=ih tabs ht
  have h1:=he.1.len9
  have ht2:(tabs++[9]).length+d <= 24:=by simp;omega
  have h2:=iht (tabs++[9]) ht2
  rw [aC,aQ,length_append,length_append,show (cE (.mk 8 aK e .zero [] t [])).length=(aT e).length+(aQ t).length+3 by rw [cE];simp;omega,bY,if_neg (by decide),if_neg (by decide),if_neg (by decide),if_neg (by decide),if_neg (by decide),if_neg (by decide),if_pos (by decide),if_pos (by decide),if_pos length_nil]
  simp only [length_append,length_cons,length_nil];omega
 |@ret d r h ih=>
  intro tabs ht
  have h0:=ih tabs ht
  rw [aC,aQ,length_append,length_append,show (cE (.mk 9 aK .zero .zero [] [] [])).length=2 by rw [cE];simp,bY,if_neg (by decide),if_neg (by decide),if_neg (by decide),if_neg (by decide),if_neg (by decide),if_neg (by decide),if_neg (by decide)]
  simp only [length_append,length_cons,length_nil];omega
theorem bY6(n:Int)(h:n.natAbs <= 9223372036854775807):(eH n).length <= 20:=by
 have:=bY2 n.natAbs h
 unfold eH
 split
 ·rw [length_cons];omega
 omega
theorem VG.len9{g:aI}(h:VG g):(aU g).length <= 60*(bEr g).length:=by
 have h1:=bXq h.1
 have h2:=bY6 g.init h.2
 have h3:3 <= (bEr g).length:=by unfold bEr;simp
 have h4:(aU g).length <= 50:=by
  unfold aU
  split
  ·simp only [length_append,length_cons,length_nil];omega
  simp only [length_append,length_cons,length_nil];omega
 omega
theorem VM.len9{g:cL}(h:VM g):(bE g).length <= 60*(gT g).length:=by
 have h1:=bXq h.1
 have h2:=bY6 g.size (by have:=h.2.1;have:=h.2.2.1;omega)
 have h3:3 <= (gT g).length:=by unfold gT;simp
 have h4:(bE g).length <= 60:=by
  unfold bE
  split<;>split<;>(simp only [length_append,length_cons,length_nil];omega)
 omega
theorem VF.len9{g:bS}(h:VF g):(funcText g).length <= 60*(kA g).length:=by
 have h1:=bXq h.1
 have h2:=h.2.2.2.len9 [9] (by decide)
 have h3:=bX8 (fT:=bX) (fK:=lQ) g.params fun x hx=>by
  have:=bXq (h.2.2.1 x hx)
  unfold bX lQ
  split<;>(simp only [length_append,length_cons,length_nil];omega)
 rw [bYl]
 unfold funcText
 simp only [length_append,length_cons,length_nil];omega
theorem bX3{α:Type}{fT:α -> List UInt8}{fK:α -> List PT}:∀(l:List α),(∀x,x∈l -> (fT x).length <= 60*(fK x).length) -> (l.map fT).flatten.length <= 60*(l.map fK).flatten.length
 |[],_=>by simp
 |x::l,h=>by
  have h1:=bX3 l fun y hy=>h y (List.mem_cons_of_mem _ hy)
  have h2:=h x (by simp)
  simp only [List.map_cons,List.flatten_cons,length_append];omega
theorem bX7.len{p:cK}{n:Nat}(h:bX7 p n):(cR p).length <= 60*n:=by
 have h1:=bX3 p.globals fun x hx=>(h.gl x hx).len9
 have h2:=bX3 p.mutexes fun x hx=>(h.ml x hx).len9
 have h3:=bX3 p.funcs fun x hx=>(h.fl x hx).len9
 have h4:=h.sum
 unfold cR
 simp only [length_append];omega
theorem bX7.toks{p:cK}{n:Nat}(h:bX7 p n):((iA p).map fF.toks).flatten.length <= n:=by
 have h4:=h.sum
 simp only [iA,List.map_append,List.map_map,List.flatten_append,length_append]
 have e1:fF.toks ∘ fF.glob=bEr:=rfl
 have e2:fF.toks ∘ fF.mtx=gT:=rfl
 have e3:fF.toks ∘ fF.fn=kA:=rfl
 rw [e1,e2,e3];omega
theorem bY5{s:List UInt8}{L:List Tok}{p:cK}{k:Nat}(h:iH s=.ok L)(hp:fH L=.ok p k):p.sane /\ p.small 1000000000 /\ p.wt <= 16000 /\ jI p=true /\ vI p=cR p /\ (cR p).length <= 262144 /\ ∃U,iH (cR p)=.ok U /\ U.length <= L.length:=by
 have hT:=wD h
 have hO:=TOk.of h
 have hN:=bO7 h
 have hG:∀k,GT (bU L k):=fun k=>by
  rcases Nat.lt_or_ge k L.length with hk|hk
  ·rw [bG hk]
   exact ⟨hN _ (getElem_mem hk),(hO.reg _ (getElem_mem hk)).2.2⟩
  have h9:bU L k=default:=by unfold bU;rw [List.getD_eq_getElem?_getD,List.getElem?_eq_none hk];rfl
  rw [h9]
  exact ⟨fun h=>absurd h (by decide),by decide⟩
 have hat:(fH L).At L 0:=aD9 hO.last _ _ _ hO.last.1
 rw [hp] at hat
 have hkL:k<L.length:=hat.2
 have hI:bX7 p k:=by
  unfold fH at hp
  exact bYu hG _ _ _ _ _ ⟨fun g hg=>(by cases hg),fun g hg=>(by cases hg),fun g hg=>(by cases hg),by decide,by decide,by decide,by decide⟩ hp
 have hfew:=hT.few
 have hlen:=hI.len
 have htk:=hI.toks
 have hv:jI p=true:=aPf hI.sane hI.form (by omega) (by omega)
 obtain ⟨U,k2,q1,q2,-⟩:=aFx hI.sane hv
 refine ⟨hI.sane,bZm hI.form (by have:=hI.wt;omega),by have:=hI.wt;omega,hv,by unfold vI;rw [if_pos hv],by omega,U,q1,?_⟩
 have:=congrArg List.length q2
 rw [List.length_map,length_append,List.length_singleton] at this
 omega
theorem bY4{l:List UInt8}{e:Nat}(h:dQ l=.err e):e≠0:=by
 unfold dQ at h
 split at h
 ·split at h
  ·cases h;decide
  cases h
 split at h
 ·split at h
  ·cases h;decide
  cases h
 split at h
 ·cases h;decide
 cases h
theorem bYp:∀(m:Nat)(s:List UInt8)(k n:Nat),s.length-k <= m -> k <= s.length -> ∀p e,kD s k n=.err p e -> e≠0
 |m,s,k,n,hm,hk,p,e,h=>by
  by_cases he:s.length <= bF s k
  ·rw [mX he] at h;cases h
  have hlt:bF s k<s.length:=by omega
  cases hx:dQ (s.drop (bF s k)) with
  |err e=>rw [uY hlt hx] at h;cases h;exact bY4 hx
  |tok kind len num=>
   by_cases h4:n=4000
   ·subst h4;rw [sG hlt hx] at h;cases h;decide
   rw [nD hk hlt hx h4] at h
   have hg:=lG s k hk
   have hd:s.drop (bF s k)≠[]:=by intro hd;have:=congrArg List.length hd;rw [List.length_drop] at this;simp at this;omega
   have hl:=mS hd hx
   rw [List.length_drop] at hl
   cases m with
   |zero=>omega
   |succ m=>
    cases hq:kD s (bF s k+len) (n+1) with
    |ok L=>rw [hq] at h;cases h
    |err p' e'=>
     rw [hq] at h
     cases h
     exact bYp m s (bF s k+len) (n+1) (by omega) (by omega) _ _ hq
theorem bY7{s:List UInt8}(h:(jM s).2.2=0):∃L p k,iH s=.ok L /\ fH L=.ok p k /\ jM s=(p,s.length,0):=by
 cases hl:iH s with
 |err p e=>
  rw [aA9 hl] at h
  unfold iH at hl
  split at hl
  ·cases hl;cases h
  ·exact absurd h (bYp s.length s 0 0 (by omega) (by omega) _ _ hl)
 |ok L=>
  have hO:=TOk.of hl
  have hat:(fH L).At L 0:=aD9 hO.last _ _ _ hO.last.1
  cases hp:fH L with
  |ok p k=>exact ⟨L,p,k,rfl,hp,pT hl hp⟩
  |err k e=>
   rw [hp] at hat
   have hb:k<L.length:=hat.2.1
   rw [aBe hl hp hb] at h
   have:=hat.2.2.1
   dsimp only at h
   omega
end
section
open Go.RowKit
def cDq:List UInt8:=[109,117,116,101,120,32,97,59,32,102,117,110,99,32,109,97,105,110,40,41,32,123,32,108,111,99,107,32,97,59,32,117,110,108,111,99,107,32,97,59,32,125]
def cDj:List UInt8:=[109,117,116,101,120,32,97,59,32,102,117,110,99,32,109,97,105,110,40,41,32,123,32,108,111,99,107,32,97,59,32,108,111,99,107,32,98,59,32,125]
def cDr:List UInt8:=[]
theorem cCn:(jM cDq).2.2=0 /\ cAb (jM cDq).1=(0,0,0):=by refine ⟨?_,?_⟩<;>kernel_rfl
theorem cCv:(jM cDj).2.2=0 /\ cAb (jM cDj).1=(0,1,6):=by refine ⟨?_,?_⟩<;>kernel_rfl
theorem cCu:(jM cDr).2.2=0 /\ cAb (jM cDr).1=(-1,-1,9):=by refine ⟨?_,?_⟩<;>kernel_rfl
theorem cAd{l:List UInt8}(h:(jM l).2.2=0):(jM l).1.sane /\ (jM l).1.wt <= 16000:=by
 obtain ⟨L,p,k,h1,h2,h3⟩:=bY7 h
 obtain ⟨g1,-,g2,-⟩:=bY5 h1 h2
 rw [h3];exact ⟨g1,g2⟩
theorem cBy(l:List UInt8)(hl:l.length <= 100000)(hs:(jM l).1.sane)(hw:(jM l).1.wt <= 16000){f s0:Int}{e:Nat}(hc:cAb (jM l).1=(f,s0,e))(s:Sto):aL prog 47 [bK5 (.c (.val (.string (bytes l))))] [] s fun t s'=>t=.tup [.c (.val (.int .i64 f)),.c (.val (.int .i64 s0)),nI e] /\ s'=s:=by
 obtain ⟨bx,rw⟩:=s
 refine acB func47 rfl ?_
 show AWp prog _ ⟨20,[],⟨bx,rw⟩,[(0,bK5 (.c (.val (.string (bytes l)))))]⟩ _
 refine go 10 ?_
 refine wo rfl (aDc rfl rfl (by decide) rfl underlying9 underlying23 underlying5 (by rw [kT];omega) (N:=l.length) rfl (cs:=iF l) rfl ?_)
 refine wc0 rfl call24 rfl (bGw l _) ?_
 rintro _ _ ⟨rfl,rfl⟩
 refine go 13 fun b1=>?_
 refine wo rfl (bMg 0 [] rfl rfl (by decide) call19 rfl rfl (cCm _ hs (by omega) _) bDl bDl (fun _=>bDl) ?_)
 rintro _ _ ⟨f1,s1,e1,hc1,rfl,rfl⟩
 rw [hc] at hc1
 cases hc1
 refine go 9 ?_
 exact ⟨.inr rfl,_,⟨bx,rw⟩,pC rfl (aF rfl) (aF rfl) (aF rfl),aA ((List.sublist_cons_self _ _)) (List.Sublist.refl _),rfl,rfl⟩
theorem cEd(s:Sto):aL prog 47 [bK5 (.c (.val (.string ⟨#[109,117,116,101,120,32,97,59,32,102,117,110,99,32,109,97,105,110,40,41,32,123,32,108,111,99,107,32,97,59,32,117,110,108,111,99,107,32,97,59,32,125]⟩)))] [] s fun t s'=>t=.tup [.c (.val (.int .i64 0)),.c (.val (.int .i64 0)),.c (.val (.int .i64 0))] /\ s'=s:=cBy cDq (by decide) (cAd cCn.1).1 (cAd cCn.1).2 cCn.2 s
theorem cEi(s:Sto):aL prog 47 [bK5 (.c (.val (.string ⟨#[109,117,116,101,120,32,97,59,32,102,117,110,99,32,109,97,105,110,40,41,32,123,32,108,111,99,107,32,97,59,32,108,111,99,107,32,98,59,32,125]⟩)))] [] s fun t s'=>t=.tup [.c (.val (.int .i64 0)),.c (.val (.int .i64 1)),.c (.val (.int .i64 6))] /\ s'=s:=cBy cDj (by decide) (cAd cCv.1).1 (cAd cCv.1).2 cCv.2 s
theorem cEe(s:Sto):aL prog 47 [bK5 (.c (.val (.string ⟨#[]⟩)))] [] s fun t s'=>t=.tup [.c (.val (.int .i64 (-1))),.c (.val (.int .i64 (-1))),.c (.val (.int .i64 9))] /\ s'=s:=cBy cDr (by decide) (cAd cCu.1).1 (cAd cCu.1).2 cCu.2 s
theorem cCo(w:World)(he:bM9 w):Calls prog 21 #[] w fun e w'=>e=.returned (.bool true) /\ Below w.heap.size w w':=by
 refine bPa func21 rfl 42 (Nat.le_of_ble_eq_true rfl) he ?_
 show AWp prog _ ⟨43,[],⟨[],[]⟩,[(42,bK5 (.raw undef))]⟩ _
 refine go 7 ?_
 refine wcR 42 rfl call47 rfl (cEd _) (go 11 ?_)
 refine wcR 42 rfl call47 rfl (cEi _) (go 11 ?_)
 refine wcR 42 rfl call47 rfl (cEe _) (go 12 ?_)
 refine wcp true rfl (by simp [bC]) (go 2 ?_)
 refine wcp true rfl (by simp [bC]) (go 3 ?_)
 refine wcp true rfl (by simp [bC]) (go 3 ?_)
 refine wcp true rfl (by simp [bC]) (go 3 ?_)
 refine wcp true rfl (by simp [bC]) (go 5 ?_)
 exact ⟨.inr rfl,_,⟨[],[]⟩,aR rfl (aF rfl),aA (List.nil_sublist _) (List.nil_sublist _),rfl,rfl⟩
end
section
open Go.RowKit
abbrev SSt(A B:List Box)(rw:List bA)(S:Nat)(l:List Int)(i:Nat):Sto:=⟨A++⟨S,102,[.sl l.length (l.map fun i=>.val (.int .i64 i)),nC i]⟩::B,rw⟩
theorem aTv(l:List Int)(n:Nat)(s:Sto):aL prog 44 [.c (.sl l.length (l.map fun i=>.val (.int .i64 i))),nI n] [] s fun r s'=>r=.c (.sl (l.take n).length ((l.take n).map fun i=>.val (.int .i64 i))) /\ s'=s:=by
 obtain ⟨bx,rw⟩:=s
 refine acB func44 rfl ?_
 show AWp prog _ ⟨13,[],⟨bx,rw⟩,[(0,.c (.sl l.length (l.map fun i=>.val (.int .i64 i)))),(1,nI n)]⟩ _
 refine go 11 ?_
 by_cases hlt:n<l.length
 ·refine wcp true rfl (by first|exact eU (by omega)|(simp [bC]<;>omega)) (go 7 ?_)
  refine wyz rfl (aGm (h:=(l.take n).length) (z:=1) rfl rfl rfl (by rw [List.length_take];omega) (by rw [List.length_take];omega) (by kernel_rfl) (by kernel_rfl) sizeOf3 (by rw [List.length_take,Nat.min_eq_left (by omega),Nat.mul_one,←List.map_take])) (go 5 ?_)
  exact bHe (s':=⟨bx,rw⟩) rfl sb0 ⟨rfl,rfl⟩
 rw [take_of_length_le (l:=l) (i:=n) (by omega)]
 refine wcp false rfl (by first|exact eE (by omega)|(simp [bC]<;>omega)) (go 12 ?_)
 exact bHe (s':=⟨bx,rw⟩) rfl sb0 ⟨rfl,rfl⟩
theorem aC2(A B:List Box)(rw:List bA)(S:Nat)(l:List Int)(i0:Nat)(n:Int)(hi0:i0 <= l.length)(hl:l.length <= 1000000)(hn0:0<n)(hn1:n <= 4611686018427387904):aL prog 45 [pP S,.c (.val (.int .i64 n))] [S] (SSt A B rw S l i0) fun r s=>∃(z:Int) (i:Nat),r=.c (.val (.int .i64 z)) /\ 0 <= z /\ z<n /\ i <= l.length /\ s=SSt A B rw S l i:=by
 refine acB func45 rfl ?_
 show AWp prog _ ⟨35,[S],⟨A++⟨S,102,[.sl l.length (l.map fun i=>.val (.int .i64 i)),nC i0]⟩::B,rw⟩,[(0,pP S),(1,.c (.val (.int .i64 n)))]⟩ _
 refine go 7 ?_
 refine dx [S] (tz [(0,true),(1,true),(2,true),(3,true),(4,true),(5,true),(6,true),(7,true),(8,true)] 1 (go 10 ?_))
 refine tx 9 rfl (bO _ rfl rfl rfl rfl) ?_
 refine ax (go 1 ?_)
 refine gY rfl (fun hc1=>?_) (fun hc1=>?_)
 ·have hge:l.length <= i0:=by simpa using hc1
  refine go 7 ?_
  exact bHe (s':=SSt A B rw S l i0) rfl sb0 ⟨0,i0,rfl,by omega,hn0,hi0,rfl⟩
 have hlt:i0<l.length:=by simpa using hc1
 refine go 8 ?_
 refine wad rfl (go 6 ?_)
 refine dx [S] (tz [(0,true),(1,true),(2,true),(3,true),(4,true),(5,true),(6,true),(7,true)] 6 (go 9 ?_))
 refine tx 8 rfl (cI ((i0:Nat):Int) rfl rfl rfl (by omega) (by omega) (by omega)) ?_
 refine tx 9 rfl (rT (fun i=>.val (.int .i64 i)) l i0 rfl rfl rfl rfl hlt runUnderlying22 sizeOf3) (tz [(10,true),(11,true)] 2 (go 3 ?_))
 refine ox 12 rfl rfl (bD [] rfl rfl (by decide) call12 rfl (aNz _ _ hn0 hn1 _) bDl bDl (fun _=>bDl) ?_)
 rintro rj sj ⟨rfl,rfl⟩
 refine tz [(13,true)] 0 (go 2 ?_)
 refine ax (go 2 ?_)
 exact bHe (s':=SSt A B rw S l (i0+1)) rfl sb0 ⟨l[i0]%n,i0+1,rfl,Int.emod_nonneg _ (by omega),Int.emod_lt_of_pos _ hn0,hlt,rfl⟩
theorem vH(A B:List Box)(rw:List bA)(S:Nat)(l:List Int)(i0:Nat)(hi0:i0 <= l.length)(hl:l.length <= 1000000):aL prog 156 [pP S] [S] (SSt A B rw S l i0) fun r s=>∃(z:Int) (i:Nat),r=.c (.val (.int .i64 z)) /\ 0 <= z /\ z<4611686018427387904 /\ i <= l.length /\ s=SSt A B rw S l i:=by
 refine acB func156 rfl ?_
 show AWp prog _ ⟨10,[S],⟨A++⟨S,102,[.sl l.length (l.map fun i=>.val (.int .i64 i)),nC i0]⟩::B,rw⟩,[(0,pP S)]⟩ _
 refine go 9 ?_
 refine wo rfl (bD [S] rfl rfl (by decide) call45 rfl (aC2 A _ _ _ l i0 _ hi0 hl (by decide) (by decide)) (bDj (by simp)) (bDj (by simp [Sto.bl])) (fun _=>bDj (by simp)) ?_)
 rintro r1 s1 ⟨z1,i1,rfl,hz1,hy1,hi1,rfl⟩
 refine wyz rfl (bO _ rfl rfl rfl rfl) (go 2 ?_)
 refine gY rfl (fun hc1=>?_) (fun hc1=>?_)
 ·refine go 3 ?_
  refine wo rfl (bD [S] rfl rfl (by decide) call45 rfl (aC2 A _ _ _ l i1 _ hi1 hl (by decide) (by decide)) (bDj (by simp)) (bDj (by simp [Sto.bl])) (fun _=>bDj (by simp)) ?_)
  rintro r2 s2 ⟨z2,i2,rfl,hz2,hy2,hi2,rfl⟩
  refine go 5 ?_
  exact bHe (s':=SSt A B rw S l i2) rfl sb0 ⟨z2,i2,rfl,hz2,by omega,hi2,rfl⟩
 refine go 5 ?_
 refine wo rfl (bD [S] rfl rfl (by decide) call45 rfl (aC2 A _ _ _ l i1 _ hi1 hl (by decide) (by decide)) (bDj (by simp)) (bDj (by simp [Sto.bl])) (fun _=>bDj (by simp)) ?_)
 rintro r2 s2 ⟨z2,i2,rfl,hz2,hy2,hi2,rfl⟩
 refine go 4 ?_
 exact bHe (s':=SSt A B rw S l i2) rfl sb0 ⟨z2,i2,rfl,hz2,by omega,hi2,rfl⟩
end
end Go.Proofs.YtojinfngbbajgaaGreatDoor
