import Derived.Test.YtjgeihmhppadaaaGreatDoorRG31J
set_option linter.all false
set_option synthInstance.maxHeartbeats 1000000
set_option synthInstance.maxSize 1000000
namespace Go.Proofs.YtjgeihmhppadaaaGreatDoor
open Go.Proofs.Tryz
open List (length_append length_cons length_nil mem_append mem_cons not_mem_nil append_assoc getElem_mem take_of_length_le)
section
open Go.RowKit
theorem bUh:∀(N:Nat)(l:List aJ)(n how x:Int),N <= 8999999 -> wtS l <= N -> gC l -> -1000000000000000+22*(wtS l:Int) <= n -> n <= 1000000000000000 -> ∀s:Sto,aL prog 36 [.c (Sq encS l),Ci n,Ci how,Ci x] [] s λt s'=>(∃l' n',t=.tup [.c (Sq encS l'),Ci n'] /\ bU1 l n l' n') /\ s'=s
 |0,l,n,how,x,hN,hw,hs,h1,h2,⟨bx,rw⟩=>bT6 0 l n how x J J Cy hs h1 h2 (λh=>absurd (uZ l) J) bx rw
 |N+1,l,n,how,x,hN,hw,hs,h1,h2,⟨bx,rw⟩=>bT6 N l n how x J hw Cy hs h1 h2 (λ_ l2 n2 q1 q2 q3 q4 s=>bUh N l2 n2 how x J q1 q2 q3 q4 s) bx rw
theorem bUy{P:Program}{α:Type}{x y:Code}{st:AS}{Q:Exit -> AS -> Prop}(F:α -> AS)(h1:AWp P x st (sU (λs=>∃a,Sub s (F a)) Q))(h2:∀a,AWp P y (F a) Q):AWp P (.seq x y) st Q:=
 aHp (sE h1 λe s h=>by
  cases e with
  |normal=>obtain ⟨a,ha⟩:=h;exact zU ha (h2 a)
  |_=>exact h)
theorem bUg{bx:List Box}{rw rw':List bA}(h:rw'.Perm rw):aAz ⟨bx,rw⟩ ⟨bx,rw'⟩:=by
 intro w hm
 have hp:((⟨bx,rw'⟩:Sto).bl).Perm ((⟨bx,rw⟩:Sto).bl):=List.Perm.append (List.Perm.refl _) (h.flatMap_right _)
 have hu:Up2 (bI (⟨bx,rw⟩:Sto).bl w) (bI (⟨bx,rw'⟩:Sto).bl w):=up_sub λb hb=>hp.mem_iff.1 hb
 exact ⟨⟨hp.nodup_iff.2 hm.nodup,λb hb=>hm.lt b (hp.mem_iff.1 hb),λx hx=>let ⟨us,e,r⟩:=hm.box x hx;⟨us,e,r.mono hu⟩,λx hx=>let ⟨us,e,r⟩:=hm.row x (h.mem_iff.1 hx);⟨us,e,r.mono hu⟩⟩,λb hb=>hp.mem_iff.1 hb⟩
theorem bSn{n:Nat}{T T':List Nat}{bx:List Box}{rw rw':List bA}{ts ts':List (Nat×AT)}(h:rw'.Perm rw)(hT:∀b,b∈T' -> b∈T)(hs:Sub ⟨n,T',⟨bx,rw'⟩,ts⟩ ⟨n,T',⟨bx,rw'⟩,ts'⟩):Sub ⟨n,T,⟨bx,rw⟩,ts⟩ ⟨n,T',⟨bx,rw'⟩,ts'⟩:=
 (vU (st:=⟨n,T,⟨bx,rw⟩,ts⟩) (bUg h)).trans (cQf (h:=hs) hT)
theorem bSv{α:Type}(a b c:α)(l:List α):(a::b::c::l).Perm (a::c::b::l) /\ (a::b::c::l).Perm (b::a::c::l) /\ (a::b::c::l).Perm (b::c::a::l) /\ (a::b::c::l).Perm (c::a::b::l) /\ (a::b::c::l).Perm (c::b::a::l):=by
 have h1:∀(x y z:α),(x::y::z::l).Perm (x::z::y::l):=λx y z=>.cons _ (.swap _ _ _)
 have h2:∀(x y z:α),(x::y::z::l).Perm (y::x::z::l):=λx y z=>.swap _ _ _
 exact ⟨h1 _ _ _,h2 _ _ _,(h2 _ _ _).trans (h1 _ _ _),(h1 _ _ _).trans (h2 _ _ _),((h1 _ _ _).trans (h2 _ _ _)).trans (h1 _ _ _)⟩
def bTb(f:bS)(l:List aJ):bS:=⟨f.name,f.params,l⟩
section
variable {fs:List bS}{k:Nat}{f':bS}
theorem bTp(hk:k<fs.length):fs.flatMap fV=(fs.take k).flatMap fV++(fV fs[k]++(fs.drop (k+1)).flatMap fV) /\ ((fs.take k).flatMap fV).length=k*3:=by
 refine ⟨?_,?_⟩
 ·conv=>lhs;rw [←List.take_append_drop k fs,List.drop_eq_getElem_cons hk]
  rw [List.flatMap_append,List.flatMap_cons]
 rw [aFz fV 3 vC,List.length_take,Nat.min_eq_left J]
theorem bTd(hk:k<fs.length)(i:Nat)(x:AC)(hx:(fV fs[k])[i]?=some x):pk false 1 (fs.flatMap fV) (0+k*3+i)=some (.c x):=by
 obtain ⟨h1,h2⟩:=bTp hk
 have hi:i<(fV fs[k]).length:=(List.getElem?_eq_some_iff.1 hx).1
 unfold pk
 rw [if_neg V,h1,Nat.zero_add,List.getElem?_append_right J,h2,Nat.add_sub_cancel_left,List.getElem?_append_left hi,hx];rfl
theorem bS1(hk:k<fs.length)(i:Nat)(x:AC)(hi:i<3)(hx:(fV fs[k]).set i x=fV f'):splice (fs.flatMap fV) (0+k*3+i) [x]=(fs.set k f').flatMap fV:=by
 obtain ⟨h1,h2⟩:=bTp hk
 have h4:(fs.set k f').flatMap fV=(fs.take k).flatMap fV++(fV f'++(fs.drop (k+1)).flatMap fV):=by
  rw [List.set_eq_take_append_cons_drop,if_pos hk,List.flatMap_append,List.flatMap_cons]
 have h11:(fV fs[k]).length=3:=Y
 rw [h4,h1,←hx]
 unfold splice
 rw [Nat.zero_add,←h2,List.take_append,take_of_length_le J,Nat.add_sub_cancel_left,List.take_append_of_le_length J]
 simp only [append_assoc]
 rw [List.drop_append,List.drop_of_length_le DR,List.nil_append,show ((fs.take k).flatMap fV).length+i+[x].length-((fs.take k).flatMap fV).length=i+1 by simp;omega,List.drop_append_of_le_length J,List.set_eq_take_append_cons_drop,if_pos J]
 simp
theorem bSz(hk:k<fs.length)(i z:Nat)(h:i+z <= 3):0+k*3+i+z <= (fs.flatMap fV).length:=by
 rw [aFz fV 3 vC]
 have:(k+1)*3 <= fs.length*3:=Nat.mul_le_mul_right _ hk
 omega
end
def wtF(fs:List bS):Nat:=(fs.map bS.wt).sum
theorem bSw:∀(fs:List bS)(k:Nat)(f':bS),wtF (fs.set k f') <= wtF fs+f'.wt
 |[],_,_=>G0
 |f::fs,0,f'=>by unfold wtF;simp only [List.set_cons_zero,List.map_cons,List.sum_cons];omega
 |f::fs,k+1,f'=>by have:=bSw fs k f';unfold wtF at this⊢;simp only [List.set_cons_succ,List.map_cons,List.sum_cons];omega
theorem bS0{α:Type}{Q:α -> Prop}{l:List α}{k:Nat}{a:α}(h:∀x,x∈l -> Q x)(ha:Q a):∀x,x∈l.set k a -> Q x:=λx hx=>by
 rcases List.mem_or_eq_of_mem_set hx with hx|hx
 ·exact h x hx
 rw [hx];exact ha
theorem dGf{a b c:Nat}{q:cK}(ha:a=q.globals.length)(hb:b=q.mutexes.length)(hc:c=q.funcs.length):Wk (.agg [.sl a (q.globals.flatMap dB),.sl b (q.mutexes.flatMap bT),.sl c (q.funcs.flatMap fV)]) (.agg (jV q)):=by subst ha hb hc;exact λ_ _ h=>h
end
end Go.Proofs.YtjgeihmhppadaaaGreatDoor
