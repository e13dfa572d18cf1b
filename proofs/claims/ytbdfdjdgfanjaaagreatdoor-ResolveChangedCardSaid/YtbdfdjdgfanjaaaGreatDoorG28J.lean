import Derived.Test.YtbdfdjdgfanjaaaGreatDoorG27J
set_option linter.all false
set_option synthInstance.maxHeartbeats 1000000
set_option synthInstance.maxSize 1000000
set_option maxHeartbeats 8000000
set_option maxRecDepth 100000
namespace Go.Proofs.YtbdfdjdgfanjaaaGreatDoor
open Go.Proofs.Tryz
open List (length_append length_cons length_nil mem_append mem_cons not_mem_nil append_assoc getElem_mem take_of_length_le)
theorem zn{α:Type}(l:List α):[]++l=l:=rfl
theorem zg(p:cK):0+p.globals.length=p.globals.length:=Nat.zero_add _
theorem zm(p:cK):0+p.mutexes.length=p.mutexes.length:=Nat.zero_add _
theorem zf(p:cK):0+p.funcs.length=p.funcs.length:=Nat.zero_add _
abbrev zr(g E z:Nat):bA:=⟨.slice (some ⟨g,0,none⟩) 0 0,E,z,0,[]⟩
def zM(p:cK):=aFz bT 3 (λ_=>Y) p.mutexes
def zG(p:cK):=aFz dB 2 (λ_=>Y) p.globals
def zFO{p:Prop}(h:p:=by unfold jV Sq;(try simp only [List.length_set]);exact λ_ _ h=>h):=h
section
open Go.RowKit
theorem bUh:∀(N:Nat)(l:List aJ)(n how x:Int),N <= 8999999 -> wtS l <= N -> gC l -> -1000000000000000+22*(wtS l:Int) <= n -> n <= 1000000000000000 -> ∀s:Sto,aL prog 32 [.c (Sq encS l),Ci n,Ci how,Ci x] [] s λt s'=>(∃l' n',t=.tup [.c (Sq encS l'),Ci n'] /\ bU1 l n l' n') /\ s'=s
 |0,l,n,how,x,hN,hw,hs,h1,h2,⟨bx,rw⟩=>bT6 0 l n how x J J Cy hs h1 h2 (λh=>absurd (uZ l) J) bx rw
 |N+1,l,n,how,x,hN,hw,hs,h1,h2,⟨bx,rw⟩=>bT6 N l n how x J hw Cy hs h1 h2 (λ_ l2 n2 q1 q2 q3 q4 s=>bUh N l2 n2 how x J q1 q2 q3 q4 s) bx rw
theorem bUy{P:Program}{α:Type}{x y:Code}{st:AS}{Q:Exit -> AS -> Prop}(F:α -> AS)(h1:AWp P x st (sU (λs=>∃a,Sub s (F a)) Q))(h2:∀a,AWp P y (F a) Q):AWp P (.seq x y) st Q:=
 aHp (sE h1 λe s h=>by
  cases e with
  |normal=>obtain ⟨a,ha⟩:=h;exact zU ha (h2 a)
  |_=>exact h)
theorem bUg{bx:List Box}{rw rw':List bA}(h:rw'.Perm rw):aAz ⟨bx,rw⟩ ⟨bx,rw'⟩:=by
 intro w hm
 have hp:((⟨bx,rw'⟩:Sto).bl).Perm ((⟨bx,rw⟩:Sto).bl):=List.Perm.append (List.Perm.refl _) (h.flatMap_right _)
 have hu:Up2 (bI (⟨bx,rw⟩:Sto).bl w) (bI (⟨bx,rw'⟩:Sto).bl w):=up_sub λb hb=>hp.mem_iff.1 hb
 exact ⟨⟨hp.nodup_iff.2 hm.nodup,λb hb=>hm.lt b (hp.mem_iff.1 hb),λx hx=>let ⟨us,e,r⟩:=hm.box x hx;⟨us,e,r.mono hu⟩,λx hx=>let ⟨us,e,r⟩:=hm.row x (h.mem_iff.1 hx);⟨us,e,r.mono hu⟩⟩,λb hb=>hp.mem_iff.1 hb⟩
theorem bSn{n:Nat}{T T':List Nat}{bx:List Box}{rw rw':List bA}{ts ts':List (Nat×AT)}(h:rw'.Perm rw)(hT:∀b,b∈T' -> b∈T)(hs:Sub ⟨n,T',⟨bx,rw'⟩,ts⟩ ⟨n,T',⟨bx,rw'⟩,ts'⟩):Sub ⟨n,T,⟨bx,rw⟩,ts⟩ ⟨n,T',⟨bx,rw'⟩,ts'⟩:=
 (vU (st:=⟨n,T,⟨bx,rw⟩,ts⟩) (bUg h)).trans (cQf (h:=hs) hT)
theorem bSv{α:Type}(a b c:α)(l:List α):(a::b::c::l).Perm (a::c::b::l) /\ (a::b::c::l).Perm (b::a::c::l) /\ (a::b::c::l).Perm (b::c::a::l) /\ (a::b::c::l).Perm (c::a::b::l) /\ (a::b::c::l).Perm (c::b::a::l):=by
 have h1:∀(x y z:α),(x::y::z::l).Perm (x::z::y::l):=λx y z=>.cons _ (.swap _ _ _)
 have h2:∀(x y z:α),(x::y::z::l).Perm (y::x::z::l):=λx y z=>.swap _ _ _
 exact ⟨h1 _ _ _,h2 _ _ _,(h2 _ _ _).trans (h1 _ _ _),(h1 _ _ _).trans (h2 _ _ _),((h1 _ _ _).trans (h2 _ _ _)).trans (h1 _ _ _)⟩
theorem bUv{P:Program}{ops:Array Oper}{Z:List Nat}{fuel:Nat}{listed:Array Bool}{n:Nat}{T:List Nat}{bx:List Box}{rw:List bA}{ts:List (Nat×AT)}{K:AS -> Prop}{v:Value}{E:TypeId}{z k:Nat}{cs:List AC}(i:Nat)(hi:look ts i=some (Cv v))(h:lD P ops Z fuel listed ⟨n,T,⟨bx,rw⟩,(i,.c (.sl k cs))::ts⟩ K)(hz:0<z:=by decide):lD P ops Z fuel listed ⟨n,T,⟨bx,⟨v,E,z,k,cs⟩::rw⟩,ts⟩ K:=
 aO1 (yS (st:=⟨n,T,⟨bx,⟨v,E,z,k,cs⟩::rw⟩,ts⟩) (A:=[]) i hi rfl hz) h
def bUd(f:bS)(y:ByteArray):bS:=⟨y,f.params,f.body⟩
def bSt(f:bS)(l:List aS):bS:=⟨f.name,l,f.body⟩
def bTb(f:bS)(l:List aJ):bS:=⟨f.name,f.params,l⟩
section
variable {fs:List bS}{k:Nat}{f':bS}
theorem bTp(hk:k<fs.length):fs.flatMap fV=(fs.take k).flatMap fV++(fV fs[k]++(fs.drop (k+1)).flatMap fV) /\ ((fs.take k).flatMap fV).length=k*3:=by
 refine ⟨?_,?_⟩
 ·conv=>lhs;rw [←List.take_append_drop k fs,List.drop_eq_getElem_cons hk]
  rw [List.flatMap_append,List.flatMap_cons]
 rw [aFz fV 3 vC,List.length_take,Nat.min_eq_left J]
theorem bUf(hk:k<fs.length):pk true 3 (fs.flatMap fV) (0+k*3)=some (.agg (fV fs[k])):=by
 obtain ⟨h1,h2⟩:=bTp hk
 unfold pk
 rw [if_pos rfl,h1,Nat.zero_add,List.drop_left' h2,List.take_left' Fs,if_pos (by rw [length_append,length_append,h2];show _ <= _+(3+_);omega)]
theorem bTd(hk:k<fs.length)(i:Nat)(x:AC)(hx:(fV fs[k])[i]?=some x):pk false 1 (fs.flatMap fV) (0+k*3+i)=some (.c x):=by
 obtain ⟨h1,h2⟩:=bTp hk
 have hi:i<(fV fs[k]).length:=(List.getElem?_eq_some_iff.1 hx).1
 unfold pk
 rw [if_neg V,h1,Nat.zero_add,List.getElem?_append_right J,h2,Nat.add_sub_cancel_left,List.getElem?_append_left hi,hx];rfl
theorem bS1(hk:k<fs.length)(i:Nat)(x:AC)(hi:i<3)(hx:(fV fs[k]).set i x=fV f'):splice (fs.flatMap fV) (0+k*3+i) [x]=(fs.set k f').flatMap fV:=by
 obtain ⟨h1,h2⟩:=bTp hk
 have h4:(fs.set k f').flatMap fV=(fs.take k).flatMap fV++(fV f'++(fs.drop (k+1)).flatMap fV):=by
  rw [List.set_eq_take_append_cons_drop,if_pos hk,List.flatMap_append,List.flatMap_cons]
 have h11:(fV fs[k]).length=3:=Y
 rw [h4,h1,←hx]
 unfold splice
 rw [Nat.zero_add,←h2,List.take_append,take_of_length_le J,Nat.add_sub_cancel_left,List.take_append_of_le_length J]
 simp only [append_assoc]
 rw [List.drop_append,List.drop_of_length_le DR,List.nil_append,show ((fs.take k).flatMap fV).length+i+[x].length-((fs.take k).flatMap fV).length=i+1 by simp;omega,List.drop_append_of_le_length J,List.set_eq_take_append_cons_drop,if_pos J]
 simp
theorem bSz(hk:k<fs.length)(i z:Nat)(h:i+z <= 3):0+k*3+i+z <= (fs.flatMap fV).length:=by
 rw [aFz fV 3 vC]
 have:(k+1)*3 <= fs.length*3:=Nat.mul_le_mul_right _ hk
 omega
end
def wtF(fs:List bS):Nat:=(fs.map bS.wt).sum
theorem bSw:∀(fs:List bS)(k:Nat)(f':bS),wtF (fs.set k f') <= wtF fs+f'.wt
 |[],_,_=>G0
 |f::fs,0,f'=>by unfold wtF;simp only [List.set_cons_zero,List.map_cons,List.sum_cons];omega
 |f::fs,k+1,f'=>by have:=bSw fs k f';unfold wtF at this⊢;simp only [List.set_cons_succ,List.map_cons,List.sum_cons];omega
theorem bTv(fs:List bS)(f':bS):wtF (fs++[f'])=wtF fs+f'.wt:=by unfold wtF;simp
theorem bS0{α:Type}{Q:α -> Prop}{l:List α}{k:Nat}{a:α}(h:∀x,x∈l -> Q x)(ha:Q a):∀x,x∈l.set k a -> Q x:=λx hx=>by
 rcases List.mem_or_eq_of_mem_set hx with hx|hx
 ·exact h x hx
 rw [hx];exact ha
theorem bSp{α:Type}{Q:α -> Prop}{l:List α}{a:α}(h:∀x,x∈l -> Q x)(ha:Q a):∀x,x∈l++[a] -> Q x:=λx hx=>by
 rcases mem_append.1 hx with hx|hx
 ·exact h x hx
 rw [List.mem_singleton.1 hx];exact ha
structure bU2 (p q:cK):Prop where
 sane:q.sane
 wt:q.wt <= 24*p.wt+20
 funcs:p.funcs.length <= q.funcs.length
theorem bTz(p:cK)(which a how x:Int)(hs:p.sane)(hw:p.wt <= 300000)(hf:1 <= p.funcs.length)(hx:fit x)(s:Sto):aL prog 13 [.agg (jV p),Ci which,Ci a,Ci how,Ci x] [] s λt s'=>(∃q:cK,t=.agg (jV q) /\ bU2 p q) /\ s'=s:=by
 obtain ⟨bx,rw⟩:=s
 have hwp:p.wt=p.globals.length+p.mutexes.length+(p.funcs.map bS.wt).sum:=Y
 have hfn:=aDr bS.wt Cg p.funcs
 refine acX 137 func13 ?_
 refine go 6 λb1 b2=>?_
 refine bUy (λg:Value×Value×Value=>(⟨137,(aY g.1++aY g.2.1++aY g.2.2)++[b1,b2],⟨⟨b2,27,[Nl,Nl,Nl]⟩::⟨b1,27,[.val g.1,.val g.2.1,.val g.2.2]⟩::bx,⟨g.1,75,2,p.globals.length,p.globals.flatMap dB⟩::⟨g.2.1,77,3,p.mutexes.length,p.mutexes.flatMap bT⟩::⟨g.2.2,62,3,p.funcs.length,p.funcs.flatMap fV⟩::rw⟩,[(1,Ci which),(2,Ci a),(3,Ci how),(4,Ci x),(5,pP b1),(10,pP b2)]⟩:AS)) ?_ ?_
 ·refine bTy 13 [b2,b1] [b2] #[true,true,true,true,true,true,true,true,true,true,true,true,true,false,false,false,false,false] B6 B6 B6 ?_
  refine tz [(1,true),(2,true),(5,true),(6,true),(9,true),(10,true)] 7 (go 7 ?_)
  refine three 0 4 8 B6 Y Y Y Y Y Y ?_ ?_ ?_
  focus
   refine (aTr underlying23 sizeOf75 λg3=>?_)
   refine three 3 4 8 B6 Y Y Y Y Y Y ?_ ?_ ?_
   focus
    refine (jU [] Tryz.t75 24 Y Y V Y Y underlying23 B6 Y Y Y Y V (zG p) B1 J (zg p) (λhn b hb=>qM (r:=zr g3 75 2) hn hb) FH (zn _) λw67=>?_)
    refine tz [(12,true)] 4 (go 2 ?_)
    refine t2 4 8 Y ?_ ?_
    focus
     refine (aTr underlying24 sizeOf77 λg5=>?_)
     refine t2 7 8 Y ?_ ?_
     focus
      refine (jU [] Tryz.t77 32 Y Y V Y Y underlying24 B6 Y Y Y Y V (zM p) B1 J (zm p) (λhn b hb=>qM (r:=zr g5 77 3) hn hb) FH (zn _) λw68=>?_)
      refine ox 8 Y Y (aTr underlying25 sizeOf62 λg9=>?_)
     rotate_left
     refine (aTr underlying25 sizeOf62 λg9=>?_)
     refine ox 7 Y Y (jU [_] Tryz.t77 32 Y Y V Y Y underlying24 B6 Y Y Y Y V (zM p) B1 J (zm p) (λhn b hb=>qM (r:=zr g5 77 3) hn hb) FH (zn _) λw68=>?_)
     all_goals
      refine ox 11 Y Y (jU [] Tryz.t62 64 Y Y V Y Y underlying25 B6 Y Y Y Y V (aFz fV 3 (λ_=>Y) p.funcs) B1 J (zf p) (λhn b hb=>qM (r:=zr g9 62 3) hn hb) FH (zn _) λw69=>?_)
    rotate_left 2
    refine (aTr underlying25 sizeOf62 λg12=>?_)
    refine ox 4 Y Y (aTr underlying24 sizeOf77 λg13=>?_)
    refine ox 7 Y Y (jU [] Tryz.t77 32 Y Y V Y Y underlying24 B6 Y Y Y Y V (zM p) B1 J (zm p) (λhn b hb=>qM (r:=zr g13 77 3) hn hb) FH (zn _) λw68=>?_)
    refine ox 11 Y Y (jU [_] Tryz.t62 64 Y Y V Y Y underlying25 B6 Y Y Y Y V (aFz fV 3 (λ_=>Y) p.funcs) B1 J (zf p) (λhn b hb=>qM (r:=zr g12 62 3) hn hb) FH (zn _) λw69=>?_)
   rotate_left 3
   focus
    refine (aTr underlying24 sizeOf77 λg16=>?_)
    refine t2 3 8 Y ?_ ?_
    focus
     refine (jU [_] Tryz.t75 24 Y Y V Y Y underlying23 B6 Y Y Y Y V (zG p) B1 J (zg p) (λhn b hb=>qM (r:=zr g3 75 2) hn hb) FH (zn _) λw67=>?_)
     refine tz [(12,true)] 3 (go 2 ?_)
     refine t2 7 8 Y ?_ ?_
     focus
      refine (jU [] Tryz.t77 32 Y Y V Y Y underlying24 B6 Y Y Y Y V (zM p) B1 J (zm p) (λhn b hb=>qM (r:=zr g16 77 3) hn hb) FH (zn _) λw68=>?_)
      refine ox 8 Y Y (aTr underlying25 sizeOf62 λg24=>?_)
     rotate_left
     refine (aTr underlying25 sizeOf62 λg24=>?_)
     refine ox 7 Y Y (jU [_] Tryz.t77 32 Y Y V Y Y underlying24 B6 Y Y Y Y V (zM p) B1 J (zm p) (λhn b hb=>qM (r:=zr g16 77 3) hn hb) FH (zn _) λw68=>?_)
    rotate_left 2
    refine (aTr underlying25 sizeOf62 λg24=>?_)
    refine ox 3 Y Y (jU [_,_] Tryz.t75 24 Y Y V Y Y underlying23 B6 Y Y Y Y V (zG p) B1 J (zg p) (λhn b hb=>qM (r:=zr g3 75 2) hn hb) FH (zn _) λw67=>?_)
    refine tz [(12,true)] 2 (go 2 ?_)
    refine ox 7 Y Y (jU [_] Tryz.t77 32 Y Y V Y Y underlying24 B6 Y Y Y Y V (zM p) B1 J (zm p) (λhn b hb=>qM (r:=zr g16 77 3) hn hb) FH (zn _) λw68=>?_)
    all_goals
     refine ox 11 Y Y (jU [] Tryz.t62 64 Y Y V Y Y underlying25 B6 Y Y Y Y V (aFz fV 3 (λ_=>Y) p.funcs) B1 J (zf p) (λhn b hb=>qM (r:=zr g24 62 3) hn hb) FH (zn _) λw69=>?_)
   rotate_left 3
   focus
    refine (aTr underlying25 sizeOf62 λg28=>?_)
    refine t2 3 4 Y ?_ ?_
    focus
     refine (jU [_] Tryz.t75 24 Y Y V Y Y underlying23 B6 Y Y Y Y V (zG p) B1 J (zg p) (λhn b hb=>qM (r:=zr g3 75 2) hn hb) FH (zn _) λw67=>?_)
     refine tz [(12,true)] 3 (go 2 ?_)
     refine ox 4 Y Y (aTr underlying24 sizeOf77 λg33=>?_)
    rotate_left
    refine (aTr underlying24 sizeOf77 λg33=>?_)
    refine ox 3 Y Y (jU [_,_] Tryz.t75 24 Y Y V Y Y underlying23 B6 Y Y Y Y V (zG p) B1 J (zg p) (λhn b hb=>qM (r:=zr g3 75 2) hn hb) FH (zn _) λw67=>?_)
    refine tz [(12,true)] 2 (go 2 ?_)
    all_goals
     refine ox 7 Y Y (jU [] Tryz.t77 32 Y Y V Y Y underlying24 B6 Y Y Y Y V (zM p) B1 J (zm p) (λhn b hb=>qM (r:=zr g33 77 3) hn hb) FH (zn _) λw68=>?_)
     refine ox 11 Y Y (jU [_] Tryz.t62 64 Y Y V Y Y underlying25 B6 Y Y Y Y V (aFz fV 3 (λ_=>Y) p.funcs) B1 J (zf p) (λhn b hb=>qM (r:=zr g28 62 3) hn hb) FH (zn _) λw69=>?_)
  rotate_left 8
  focus
   refine (aTr underlying24 sizeOf77 λg37=>?_)
   refine t2 0 8 Y ?_ ?_
   focus
    refine (aTr underlying23 sizeOf75 λg38=>?_)
    refine t2 3 8 Y ?_ ?_
    focus
     refine (jU [] Tryz.t75 24 Y Y V Y Y underlying23 B6 Y Y Y Y V (zG p) B1 J (zg p) (λhn b hb=>qM (r:=zr g38 75 2) hn hb) FH (zn _) λw67=>?_)
     refine tz [(12,true)] 3 (go 2 ?_)
     refine t2 7 8 Y ?_ ?_
     focus
      refine (jU [_] Tryz.t77 32 Y Y V Y Y underlying24 B6 Y Y Y Y V (zM p) B1 J (zm p) (λhn b hb=>qM (r:=zr g37 77 3) hn hb) FH (zn _) λw68=>?_)
      refine ox 8 Y Y (aTr underlying25 sizeOf62 λg46=>?_)
     rotate_left
     refine (aTr underlying25 sizeOf62 λg46=>?_)
     refine ox 7 Y Y (jU [_,_] Tryz.t77 32 Y Y V Y Y underlying24 B6 Y Y Y Y V (zM p) B1 J (zm p) (λhn b hb=>qM (r:=zr g37 77 3) hn hb) FH (zn _) λw68=>?_)
    rotate_left 2
    refine (aTr underlying25 sizeOf62 λg46=>?_)
    refine ox 3 Y Y (jU [_] Tryz.t75 24 Y Y V Y Y underlying23 B6 Y Y Y Y V (zG p) B1 J (zg p) (λhn b hb=>qM (r:=zr g38 75 2) hn hb) FH (zn _) λw67=>?_)
    refine tz [(12,true)] 2 (go 2 ?_)
    refine ox 7 Y Y (jU [_,_] Tryz.t77 32 Y Y V Y Y underlying24 B6 Y Y Y Y V (zM p) B1 J (zm p) (λhn b hb=>qM (r:=zr g37 77 3) hn hb) FH (zn _) λw68=>?_)
    all_goals
     refine ox 11 Y Y (jU [] Tryz.t62 64 Y Y V Y Y underlying25 B6 Y Y Y Y V (aFz fV 3 (λ_=>Y) p.funcs) B1 J (zf p) (λhn b hb=>qM (r:=zr g46 62 3) hn hb) FH (zn _) λw69=>?_)
   rotate_left 3
   refine (aTr underlying25 sizeOf62 λg50=>?_)
   refine ox 0 Y Y (aTr underlying23 sizeOf75 λg51=>?_)
   refine ox 3 Y Y (jU [] Tryz.t75 24 Y Y V Y Y underlying23 B6 Y Y Y Y V (zG p) B1 J (zg p) (λhn b hb=>qM (r:=zr g51 75 2) hn hb) FH (zn _) λw67=>?_)
   refine tz [(12,true)] 2 (go 2 ?_)
   refine ox 7 Y Y (jU [_,_] Tryz.t77 32 Y Y V Y Y underlying24 B6 Y Y Y Y V (zM p) B1 J (zm p) (λhn b hb=>qM (r:=zr g37 77 3) hn hb) FH (zn _) λw68=>?_)
   refine ox 11 Y Y (jU [_] Tryz.t62 64 Y Y V Y Y underlying25 B6 Y Y Y Y V (aFz fV 3 (λ_=>Y) p.funcs) B1 J (zf p) (λhn b hb=>qM (r:=zr g50 62 3) hn hb) FH (zn _) λw69=>?_)
  rotate_left 4
  focus
   refine (aTr underlying25 sizeOf62 λg55=>?_)
   refine t2 0 4 Y ?_ ?_
   focus
    refine (aTr underlying23 sizeOf75 λg56=>?_)
    refine t2 3 4 Y ?_ ?_
    focus
     refine (jU [] Tryz.t75 24 Y Y V Y Y underlying23 B6 Y Y Y Y V (zG p) B1 J (zg p) (λhn b hb=>qM (r:=zr g56 75 2) hn hb) FH (zn _) λw67=>?_)
     refine tz [(12,true)] 3 (go 2 ?_)
     refine ox 4 Y Y (aTr underlying24 sizeOf77 λg61=>?_)
    rotate_left
    refine (aTr underlying24 sizeOf77 λg61=>?_)
    refine ox 3 Y Y (jU [_] Tryz.t75 24 Y Y V Y Y underlying23 B6 Y Y Y Y V (zG p) B1 J (zg p) (λhn b hb=>qM (r:=zr g56 75 2) hn hb) FH (zn _) λw67=>?_)
    refine tz [(12,true)] 2 (go 2 ?_)
    all_goals
     refine ox 7 Y Y (jU [] Tryz.t77 32 Y Y V Y Y underlying24 B6 Y Y Y Y V (zM p) B1 J (zm p) (λhn b hb=>qM (r:=zr g61 77 3) hn hb) FH (zn _) λw68=>?_)
   rotate_left 2
   refine (aTr underlying24 sizeOf77 λg65=>?_)
   refine ox 0 Y Y (aTr underlying23 sizeOf75 λg66=>?_)
   refine ox 3 Y Y (jU [] Tryz.t75 24 Y Y V Y Y underlying23 B6 Y Y Y Y V (zG p) B1 J (zg p) (λhn b hb=>qM (r:=zr g66 75 2) hn hb) FH (zn _) λw67=>?_)
   refine tz [(12,true)] 2 (go 2 ?_)
   refine ox 7 Y Y (jU [_] Tryz.t77 32 Y Y V Y Y underlying24 B6 Y Y Y Y V (zM p) B1 J (zm p) (λhn b hb=>qM (r:=zr g65 77 3) hn hb) FH (zn _) λw68=>?_)
   all_goals
    refine ox 11 Y Y (jU [_,_] Tryz.t62 64 Y Y V Y Y underlying25 B6 Y Y Y Y V (aFz fV 3 (λ_=>Y) p.funcs) B1 J (zf p) (λhn b hb=>qM (r:=zr g55 62 3) hn hb) FH (zn _) λw69=>?_)
  all_goals
   refine ax ?_
   refine id ?_
   refine tz [(13,false),(14,true),(15,false),(16,true),(17,false)] 0 (go 6 ?_)
   refine ax ?_
   show ∃g:Value×Value×Value,Sub _ _
   exact ⟨(w67,w68,w69),bSn (by first|exact .refl _|exact (bSv _ _ _ _).1|exact (bSv _ _ _ _).2.1|exact (bSv _ _ _ _).2.2.1|exact (bSv _ _ _ _).2.2.2.1|exact (bSv _ _ _ _).2.2.2.2) (by intro b hb;simp only [mem_append,mem_cons,not_mem_nil,or_false] at hb⊢;rcases hb with ((h|h)|h)|h|h<;>simp [h]) (sA Y)⟩
 rintro ⟨vG,vM,vF⟩
 try dsimp only
 refine go 5 ?_
 refine wyz Y (kV [_,_] Y Y Y runUnderlying25) ?_
 obtain ⟨j1,hj1,hlj1⟩:=bEj (a) (((p.funcs.length:Nat):Int)) J
 refine wc0 Y call17 Y (bEl (a) (((p.funcs.length:Nat):Int)) j1 J J hj1 _) ?_
 rintro _ _ ⟨rfl,rfl⟩
 refine go 6 ?_
 have hj1:j1<p.funcs.length:=J
 have hfs:=hs.funcs p.funcs[j1] (getElem_mem hj1)
 have hfw:=aDi bS.wt p.funcs j1 hj1
 have hfw2:bS.wt p.funcs[j1]=1+p.funcs[j1].params.length+wtS p.funcs[j1].body:=Y
 refine aF1 [_,_] J λgF cF hgF=>?_
 subst hgF
 refine go 1 ?_
 obtain ⟨j2,hj2,hlj2⟩:=bEj (which) (12) J
 refine wc0 Y call17 Y (bEl (which) (12) j2 J J hj2 _) ?_
 rintro _ _ ⟨rfl,rfl⟩
 refine go 5 ?_
 by_cases h1:((j2:Nat):Int)=0
 ·refine wcp true Y (eR h1) (go 4 ?_)
  refine dx [b2] (tz [(0,true),(2,true),(4,true)] 7 (go 4 ?_))
  refine t2 1 3 Y ?_ ?_
  focus
   refine way Y V (aX [_] isAgg23 sizeOf23) ?_
   refine ox 3 Y Y (bV call31 (bSo x _) ?_)
   rintro _ _ ⟨⟨y4,rfl,hy3⟩,rfl⟩
   refine tz [(5,true)] 4 (go 2 ?_)
   refine ox 6 Y Y (bDk (r:=[(⟨y4,x⟩:aI)].flatMap dB) bDo ?_)
  rotate_left
  focus
   refine (bV call31 (bSo x _) ?_)
   rintro _ _ ⟨⟨y4,rfl,hy4⟩,rfl⟩
   refine tz [(5,true)] 5 (go 2 ?_)
   refine t2 1 6 Y ?_ ?_
   focus
    refine way Y V (aX [_] isAgg23 sizeOf23) ?_
    refine ox 6 Y Y (bDk (r:=[(⟨y4,x⟩:aI)].flatMap dB) bDo ?_)
   rotate_left
   refine (bDk (r:=[(⟨y4,x⟩:aI)].flatMap dB) bDo ?_)
   refine ox 1 Y Y (way Y V (aX [_] isAgg23 sizeOf23) ?_)
  all_goals
   refine ox 7 Y Y (bDm [] bN3 Y Y V B1 J (@length_append _ p.globals [(⟨y4,x⟩:aI)]).symm (λhn b hb=>qM (r:=(⟨vG,75,2,p.globals.length,p.globals.flatMap dB⟩:bA)) hn hb) FH (List.flatMap_append (f:=dB)).symm λw72=>?_)
   refine tz [(8,true),(9,false)] 0 (go 3 ?_)
   refine ax (go 4 ?_)
   refine aAg [_] 0 Y Y ?_
   refine aAg [_] 1 Y Y ?_
   refine aAg [_] 2 Y Y ?_
   refine go 1 ?_
   refine eA 136 Y (t:=.agg (jV (⟨(p.globals++[(⟨y4,x⟩:aI)]),p.mutexes,p.funcs⟩:cK))) zFO (go 4 ?_)
   exact ⟨.inr Y,_,⟨bx,rw⟩,aR Y (aO [] Y Y isAgg27 sizeOf27 (bK Y Y)),aA zc (.refl _),⟨(⟨(p.globals++[(⟨y4,x⟩:aI)]),p.mutexes,p.funcs⟩:cK),Y,⟨⟨bSp hs.globals ⟨hx,by show y4.size <= _;omega⟩,hs.mutexes,hs.funcs⟩,FJ,FM⟩⟩,Y⟩
 refine wcp false Y (eD h1) (go 6 ?_)
 by_cases h6:((j2:Nat):Int)=1
 ·refine wcp true Y (eR h6) (go 4 ?_)
  refine dx [b2] (tz [(0,true),(2,true),(4,true)] 13 (go 4 ?_))
  refine tx 5 Y (bFn Y Y Y) ?_
  by_cases h8:(bFm how 1)=1
  ·refine tx 6 Y (bO true Y Y Y (eR h8)) (tz [(7,true)] 10 (go 2 ?_))
   refine tx 8 Y (bFd Y Y Y) ?_
   refine t2 1 3 Y ?_ ?_
   focus
    refine way Y V (aX [_] isAgg24 sizeOf24) ?_
    refine ox 3 Y Y (bV call31 (bSo x _) ?_)
    rintro _ _ ⟨⟨y10,rfl,hy9⟩,rfl⟩
    obtain ⟨j3,hj3,hlj3⟩:=bEj ((how.fdiv 2)) (67) J
    refine ox 9 Y Y (bV (ho:=Y) (has:=Y) call17 (bEl ((how.fdiv 2)) (67) j3 J J hj3 _) ?_)
    rintro _ _ ⟨rfl,rfl⟩
    refine tx 10 Y (qC) (tz [(11,true)] 4 (go 2 ?_))
    refine ox 12 Y Y (bDk (r:=[(⟨y10,true,(((j3:Nat):Int)-1)⟩:cL)].flatMap bT) bDx ?_)
   rotate_left
   focus
    refine (bV call31 (bSo x _) ?_)
    rintro _ _ ⟨⟨y10,rfl,hy10⟩,rfl⟩
    refine t2 1 9 Y ?_ ?_
    focus
     refine way Y V (aX [_] isAgg24 sizeOf24) ?_
     obtain ⟨j3,hj3,hlj3⟩:=bEj ((how.fdiv 2)) (67) J
     refine ox 9 Y Y (bV (ho:=Y) (has:=Y) call17 (bEl ((how.fdiv 2)) (67) j3 J J hj3 _) ?_)
     rintro _ _ ⟨rfl,rfl⟩
     refine tx 10 Y (qC) (tz [(11,true)] 4 (go 2 ?_))
     refine ox 12 Y Y (bDk (r:=[(⟨y10,true,(((j3:Nat):Int)-1)⟩:cL)].flatMap bT) bDx ?_)
    rotate_left
    focus
     obtain ⟨j3,hj3,hlj3⟩:=bEj ((how.fdiv 2)) (67) J
     refine (bV (ho:=Y) (has:=Y) call17 (bEl ((how.fdiv 2)) (67) j3 J J hj3 _) ?_)
     rintro _ _ ⟨rfl,rfl⟩
     refine tx 10 Y (qC) (tz [(11,true)] 5 (go 2 ?_))
     refine t2 1 12 Y ?_ ?_
     focus
      refine way Y V (aX [_] isAgg24 sizeOf24) ?_
      refine ox 12 Y Y (bDk (r:=[(⟨y10,true,(((j3:Nat):Int)-1)⟩:cL)].flatMap bT) bDx ?_)
     rotate_left
     refine (bDk (r:=[(⟨y10,true,(((j3:Nat):Int)-1)⟩:cL)].flatMap bT) bDx ?_)
     refine ox 1 Y Y (way Y V (aX [_] isAgg24 sizeOf24) ?_)
   all_goals
    refine ox 13 Y Y (bDm [_] cKb Y Y V B1 J (@length_append _ p.mutexes [(⟨y10,true,(((j3:Nat):Int)-1)⟩:cL)]).symm (λhn b hb=>qM (r:=(⟨vM,77,3,p.mutexes.length,p.mutexes.flatMap bT⟩:bA)) hn hb) FH (List.flatMap_append (f:=bT)).symm λw76=>?_)
    refine tz [(14,true),(15,false)] 0 (go 3 ?_)
    refine ax (go 4 ?_)
    refine aAg [_] 0 Y Y ?_
    refine aAg [_] 1 Y Y ?_
    refine aAg [_] 2 Y Y ?_
    refine go 1 ?_
    refine eA 136 Y (t:=.agg (jV (⟨p.globals,(p.mutexes++[(⟨y10,true,(((j3:Nat):Int)-1)⟩:cL)]),p.funcs⟩:cK))) zFO (go 4 ?_)
    exact ⟨.inr Y,_,⟨bx,rw⟩,aR Y (aO [] Y Y isAgg27 sizeOf27 (bK Y Y)),aA zc (.refl _),⟨(⟨p.globals,(p.mutexes++[(⟨y10,true,(((j3:Nat):Int)-1)⟩:cL)]),p.funcs⟩:cK),Y,⟨⟨hs.globals,bSp hs.mutexes ⟨by unfold fit;dsimp only;omega,by show y10.size <= _;omega⟩,hs.funcs⟩,FJ,FM⟩⟩,Y⟩
  refine tx 6 Y (bO false Y Y Y (eD h8)) (tz [(7,true)] 10 (go 2 ?_))
  refine tx 8 Y (bFd Y Y Y) ?_
  refine t2 1 3 Y ?_ ?_
  focus
   refine way Y V (aX [_] isAgg24 sizeOf24) ?_
   refine ox 3 Y Y (bV call31 (bSo x _) ?_)
   rintro _ _ ⟨⟨y12,rfl,hy11⟩,rfl⟩
   obtain ⟨j3,hj3,hlj3⟩:=bEj ((how.fdiv 2)) (67) J
   refine ox 9 Y Y (bV (ho:=Y) (has:=Y) call17 (bEl ((how.fdiv 2)) (67) j3 J J hj3 _) ?_)
   rintro _ _ ⟨rfl,rfl⟩
   refine tx 10 Y (qC) (tz [(11,true)] 4 (go 2 ?_))
   refine ox 12 Y Y (bDk (r:=[(⟨y12,false,(((j3:Nat):Int)-1)⟩:cL)].flatMap bT) bDx ?_)
  rotate_left
  focus
   refine (bV call31 (bSo x _) ?_)
   rintro _ _ ⟨⟨y12,rfl,hy12⟩,rfl⟩
   refine t2 1 9 Y ?_ ?_
   focus
    refine way Y V (aX [_] isAgg24 sizeOf24) ?_
    obtain ⟨j3,hj3,hlj3⟩:=bEj ((how.fdiv 2)) (67) J
    refine ox 9 Y Y (bV (ho:=Y) (has:=Y) call17 (bEl ((how.fdiv 2)) (67) j3 J J hj3 _) ?_)
    rintro _ _ ⟨rfl,rfl⟩
    refine tx 10 Y (qC) (tz [(11,true)] 4 (go 2 ?_))
    refine ox 12 Y Y (bDk (r:=[(⟨y12,false,(((j3:Nat):Int)-1)⟩:cL)].flatMap bT) bDx ?_)
   rotate_left
   focus
    obtain ⟨j3,hj3,hlj3⟩:=bEj ((how.fdiv 2)) (67) J
    refine (bV (ho:=Y) (has:=Y) call17 (bEl ((how.fdiv 2)) (67) j3 J J hj3 _) ?_)
    rintro _ _ ⟨rfl,rfl⟩
    refine tx 10 Y (qC) (tz [(11,true)] 5 (go 2 ?_))
    refine t2 1 12 Y ?_ ?_
    focus
     refine way Y V (aX [_] isAgg24 sizeOf24) ?_
     refine ox 12 Y Y (bDk (r:=[(⟨y12,false,(((j3:Nat):Int)-1)⟩:cL)].flatMap bT) bDx ?_)
    rotate_left
    refine (bDk (r:=[(⟨y12,false,(((j3:Nat):Int)-1)⟩:cL)].flatMap bT) bDx ?_)
    refine ox 1 Y Y (way Y V (aX [_] isAgg24 sizeOf24) ?_)
  all_goals
   refine ox 13 Y Y (bDm [_] cKb Y Y V B1 J (@length_append _ p.mutexes [(⟨y12,false,(((j3:Nat):Int)-1)⟩:cL)]).symm (λhn b hb=>qM (r:=(⟨vM,77,3,p.mutexes.length,p.mutexes.flatMap bT⟩:bA)) hn hb) FH (List.flatMap_append (f:=bT)).symm λw80=>?_)
   refine tz [(14,true),(15,false)] 0 (go 3 ?_)
   refine ax (go 4 ?_)
   refine aAg [_] 0 Y Y ?_
   refine aAg [_] 1 Y Y ?_
   refine aAg [_] 2 Y Y ?_
   refine go 1 ?_
   refine eA 136 Y (t:=.agg (jV (⟨p.globals,(p.mutexes++[(⟨y12,false,(((j3:Nat):Int)-1)⟩:cL)]),p.funcs⟩:cK))) zFO (go 4 ?_)
   exact ⟨.inr Y,_,⟨bx,rw⟩,aR Y (aO [] Y Y isAgg27 sizeOf27 (bK Y Y)),aA zc (.refl _),⟨(⟨p.globals,(p.mutexes++[(⟨y12,false,(((j3:Nat):Int)-1)⟩:cL)]),p.funcs⟩:cK),Y,⟨⟨hs.globals,bSp hs.mutexes ⟨by unfold fit;dsimp only;omega,by show y12.size <= _;omega⟩,hs.funcs⟩,FJ,FM⟩⟩,Y⟩
 refine wcp false Y (eD h6) (go 6 ?_)
 by_cases h14:((j2:Nat):Int)=2
 ·refine wcp true Y (eR h14) (go 4 ?_)
  refine dx [b2,b1] (tz [(0,true),(1,true),(2,true),(3,true)] 4 (go 5 ?_))
  refine ox 4 Y Y (bV call31 (bSo x _) ?_)
  rintro _ _ ⟨⟨y16,rfl,hy16⟩,rfl⟩
  refine tx 5 Y (dH (z:=3) j1 Y Y Y Y hj1 runUnderlying25 sizeOf62) ?_
  refine tx 6 Y (id <|uX 0 (0+j1*3+0) runUnderlying62 sizeOf9) ?_
  refine ox 7 Y Y (aO0 (ho:=Y) (hx:=Y) (hy:=Y) (hc:=Y) (r:=(p.funcs.set j1 (bUd p.funcs[j1] y16)).flatMap fV) [_,_] sizeOf9 (bSz hj1 0 1 V) (bS1 hj1 0 _ V Y) FG ?_)
  refine ax (go 4 ?_)
  refine aAg [_] 0 Y Y ?_
  refine aAg [_] 1 Y Y ?_
  refine aAg [_] 2 Y Y ?_
  refine go 1 ?_
  refine eA 136 Y (t:=.agg (jV (⟨p.globals,p.mutexes,(p.funcs.set j1 (bUd p.funcs[j1] y16))⟩:cK))) zFO (go 4 ?_)
  exact ⟨.inr Y,_,⟨bx,rw⟩,aR Y (aO [] Y Y isAgg27 sizeOf27 (bK Y Y)),aA zc (.refl _),⟨(⟨p.globals,p.mutexes,(p.funcs.set j1 (bUd p.funcs[j1] y16))⟩:cK),Y,⟨⟨hs.globals,hs.mutexes,bS0 hs.funcs ⟨by show y16.size <= _;omega,hfs.2.1,hfs.2.2⟩⟩,by unfold cK.wt;dsimp only;have h8:=bSw p.funcs j1 (bUd p.funcs[j1] y16);have h9:bS.wt (bUd p.funcs[j1] y16)=bS.wt p.funcs[j1]:=rfl;unfold wtF at h8;omega,FM⟩⟩,Y⟩
 refine wcp false Y (eD h14) (go 6 ?_)
 by_cases h18:((j2:Nat):Int)=3
 ·refine wcp true Y (eR h18) (go 4 ?_)
  refine dx [b2,b1] (tz [(0,true),(1,true),(2,true),(4,true),(5,true),(6,true)] 16 (go 7 ?_))
  refine tx 7 Y (dH (z:=3) j1 Y Y Y Y hj1 runUnderlying25 sizeOf62) ?_
  refine tx 8 Y (id <|uX 1 (0+j1*3+1) runUnderlying62 sizeOf59) (tz [(11,true),(13,true)] 12 (go 3 ?_))
  refine tx 14 Y (bFn Y Y Y) ?_
  by_cases h20:(bFm how 1)=1
  ·refine tx 15 Y (bO true Y Y Y (eR h20)) ?_
   refine t2 3 9 Y ?_ ?_
   focus
    refine (aTr underlying59 sizeOf79 λg84=>?_)
    refine ox 9 Y Y (way Y V (rM [_,_,_] isAgg59 sizeOf59 (bTd hj1 1 _ Y)) ?_)
   rotate_left
   refine way Y V (rM [_,_] isAgg59 sizeOf59 (bTd hj1 1 _ Y)) ?_
   refine ox 3 Y Y (aTr underlying59 sizeOf79 λg84=>?_)
   all_goals
    refine ox 10 Y Y (jU [] Tryz.t79 24 Y Y V Y Y underlying59 B6 Y Y Y Y V (aFz cP 2 (λ_=>Y) p.funcs[j1].params) B1 J (Nat.zero_add p.funcs[j1].params.length) (λhn b hb=>qM (r:=zr g84 79 2) hn hb) FH (zn _) λw85=>?_)
    refine ox 12 Y Y (bV call31 (bSo x _) ?_)
    rintro _ _ ⟨⟨y22,rfl,hy22⟩,rfl⟩
    refine tz [(16,true)] 5 (go 2 ?_)
    refine ox 17 Y Y (bDk (r:=[(⟨y22,true⟩:aS)].flatMap cP) bDw ?_)
    refine ox 18 Y Y (bDm [] cR2 Y Y V B1 J (@length_append _ p.funcs[j1].params [(⟨y22,true⟩:aS)]).symm (λhn b hb=>qM (r:=(⟨w85,79,2,p.funcs[j1].params.length,p.funcs[j1].params.flatMap cP⟩:bA)) hn hb) FH (List.flatMap_append (f:=cP)).symm λw86=>?_)
    refine bUv 121 Y ?_
    refine tx 19 Y (dH (z:=3) j1 Y Y Y Y hj1 runUnderlying25 sizeOf62) ?_
    refine tx 20 Y (id <|uX 1 (0+j1*3+1) runUnderlying62 sizeOf59) ?_
    refine ox 21 Y Y (aO0 (ho:=Y) (hx:=Y) (hy:=Y) (hc:=Y) (r:=(p.funcs.set j1 (bSt p.funcs[j1] (p.funcs[j1].params++[(⟨y22,true⟩:aS)]))).flatMap fV) [_,_] sizeOf59 (bSz hj1 1 1 V) (bS1 hj1 1 _ V Y) FG ?_)
    refine ax (go 4 ?_)
    refine aAg [_] 0 Y Y ?_
    refine aAg [_] 1 Y Y ?_
    refine aAg [_] 2 Y Y ?_
    refine go 1 ?_
    refine eA 136 Y (t:=.agg (jV (⟨p.globals,p.mutexes,(p.funcs.set j1 (bSt p.funcs[j1] (p.funcs[j1].params++[(⟨y22,true⟩:aS)])))⟩:cK))) zFO (go 4 ?_)
    exact ⟨.inr Y,_,⟨bx,rw⟩,aR Y (aO [] Y Y isAgg27 sizeOf27 (bK Y Y)),aA zc (.refl _),⟨(⟨p.globals,p.mutexes,(p.funcs.set j1 (bSt p.funcs[j1] (p.funcs[j1].params++[(⟨y22,true⟩:aS)])))⟩:cK),Y,⟨⟨hs.globals,hs.mutexes,bS0 hs.funcs ⟨hfs.1,bSp hfs.2.1 (by show y22.size <= _;omega),hfs.2.2⟩⟩,by unfold cK.wt;dsimp only;have h8:=bSw p.funcs j1 (bSt p.funcs[j1] (p.funcs[j1].params++[(⟨y22,true⟩:aS)]));have h9:bS.wt (bSt p.funcs[j1] (p.funcs[j1].params++[(⟨y22,true⟩:aS)]))=bS.wt p.funcs[j1]+1:=Gk;unfold wtF at h8;omega,FM⟩⟩,Y⟩
  refine tx 15 Y (bO false Y Y Y (eD h20)) ?_
  refine t2 3 9 Y ?_ ?_
  focus
   refine (aTr underlying59 sizeOf79 λg90=>?_)
   refine ox 9 Y Y (way Y V (rM [_,_,_] isAgg59 sizeOf59 (bTd hj1 1 _ Y)) ?_)
  rotate_left
  refine way Y V (rM [_,_] isAgg59 sizeOf59 (bTd hj1 1 _ Y)) ?_
  refine ox 3 Y Y (aTr underlying59 sizeOf79 λg90=>?_)
  all_goals
   refine ox 10 Y Y (jU [] Tryz.t79 24 Y Y V Y Y underlying59 B6 Y Y Y Y V (aFz cP 2 (λ_=>Y) p.funcs[j1].params) B1 J (Nat.zero_add p.funcs[j1].params.length) (λhn b hb=>qM (r:=zr g90 79 2) hn hb) FH (zn _) λw91=>?_)
   refine ox 12 Y Y (bV call31 (bSo x _) ?_)
   rintro _ _ ⟨⟨y24,rfl,hy24⟩,rfl⟩
   refine tz [(16,true)] 5 (go 2 ?_)
   refine ox 17 Y Y (bDk (r:=[(⟨y24,false⟩:aS)].flatMap cP) bDw ?_)
   refine ox 18 Y Y (bDm [] cR2 Y Y V B1 J (@length_append _ p.funcs[j1].params [(⟨y24,false⟩:aS)]).symm (λhn b hb=>qM (r:=(⟨w91,79,2,p.funcs[j1].params.length,p.funcs[j1].params.flatMap cP⟩:bA)) hn hb) FH (List.flatMap_append (f:=cP)).symm λw92=>?_)
   refine bUv 121 Y ?_
   refine tx 19 Y (dH (z:=3) j1 Y Y Y Y hj1 runUnderlying25 sizeOf62) ?_
   refine tx 20 Y (id <|uX 1 (0+j1*3+1) runUnderlying62 sizeOf59) ?_
   refine ox 21 Y Y (aO0 (ho:=Y) (hx:=Y) (hy:=Y) (hc:=Y) (r:=(p.funcs.set j1 (bSt p.funcs[j1] (p.funcs[j1].params++[(⟨y24,false⟩:aS)]))).flatMap fV) [_,_] sizeOf59 (bSz hj1 1 1 V) (bS1 hj1 1 _ V Y) FG ?_)
   refine ax (go 4 ?_)
   refine aAg [_] 0 Y Y ?_
   refine aAg [_] 1 Y Y ?_
   refine aAg [_] 2 Y Y ?_
   refine go 1 ?_
   refine eA 136 Y (t:=.agg (jV (⟨p.globals,p.mutexes,(p.funcs.set j1 (bSt p.funcs[j1] (p.funcs[j1].params++[(⟨y24,false⟩:aS)])))⟩:cK))) zFO (go 4 ?_)
   exact ⟨.inr Y,_,⟨bx,rw⟩,aR Y (aO [] Y Y isAgg27 sizeOf27 (bK Y Y)),aA zc (.refl _),⟨(⟨p.globals,p.mutexes,(p.funcs.set j1 (bSt p.funcs[j1] (p.funcs[j1].params++[(⟨y24,false⟩:aS)])))⟩:cK),Y,⟨⟨hs.globals,hs.mutexes,bS0 hs.funcs ⟨hfs.1,bSp hfs.2.1 (by show y24.size <= _;omega),hfs.2.2⟩⟩,by unfold cK.wt;dsimp only;have h8:=bSw p.funcs j1 (bSt p.funcs[j1] (p.funcs[j1].params++[(⟨y24,false⟩:aS)]));have h9:bS.wt (bSt p.funcs[j1] (p.funcs[j1].params++[(⟨y24,false⟩:aS)]))=bS.wt p.funcs[j1]+1:=Gk;unfold wtF at h8;omega,FM⟩⟩,Y⟩
 refine wcp false Y (eD h18) (go 6 ?_)
 by_cases h26:((j2:Nat):Int)=4
 ·refine wcp true Y (eR h26) (go 4 ?_)
  refine dx [b2] (tz [(0,true),(2,true),(4,true)] 8 (go 4 ?_))
  refine t2 1 3 Y ?_ ?_
  focus
   refine way Y V (aX [_] isAgg25 sizeOf25) ?_
   refine ox 3 Y Y (way Y V (aX [_] isAgg25 sizeOf25) ?_)
   refine tx 5 Y (dH (z:=3) j1 Y Y Y Y hj1 runUnderlying25 sizeOf62) ?_
   refine ox 6 Y Y (way Y V (rM [_,_] isAgg62 sizeOf62 (bUf hj1)) ?_)
   refine ox 7 Y Y (bDk (r:=[p.funcs[j1]].flatMap fV) bDs ?_)
  rotate_left
  focus
   refine way Y V (aX [_] isAgg25 sizeOf25) ?_
   refine tx 5 Y (dH (z:=3) j1 Y Y Y Y hj1 runUnderlying25 sizeOf62) ?_
   refine t2 1 6 Y ?_ ?_
   focus
    refine way Y V (aX [_] isAgg25 sizeOf25) ?_
    refine ox 6 Y Y (way Y V (rM [_,_] isAgg62 sizeOf62 (bUf hj1)) ?_)
    refine ox 7 Y Y (bDk (r:=[p.funcs[j1]].flatMap fV) bDs ?_)
   rotate_left
   focus
    refine way Y V (rM [_,_] isAgg62 sizeOf62 (bUf hj1)) ?_
    refine t2 1 7 Y ?_ ?_
    focus
     refine way Y V (aX [_] isAgg25 sizeOf25) ?_
     refine ox 7 Y Y (bDk (r:=[p.funcs[j1]].flatMap fV) bDs ?_)
    rotate_left
    refine (bDk (r:=[p.funcs[j1]].flatMap fV) bDs ?_)
    refine ox 1 Y Y (way Y V (aX [_] isAgg25 sizeOf25) ?_)
  all_goals
   refine ox 8 Y Y (bDm [_,_] cN3 Y Y V B1 J (@length_append _ p.funcs [p.funcs[j1]]).symm (λhn b hb=>qM (r:=(⟨(.slice (some ⟨gF,0,none⟩) p.funcs.length cF),62,3,p.funcs.length,p.funcs.flatMap fV⟩:bA)) hn hb) FH (List.flatMap_append (f:=fV)).symm λw96=>?_)
   refine tz [(9,true),(10,false)] 0 (go 3 ?_)
   refine ax (go 4 ?_)
   refine aAg [_] 0 Y Y ?_
   refine aAg [_] 1 Y Y ?_
   refine aAg [_] 2 Y Y ?_
   refine go 1 ?_
   refine eA 136 Y (t:=.agg (jV (⟨p.globals,p.mutexes,(p.funcs++[p.funcs[j1]])⟩:cK))) zFO (go 4 ?_)
   exact ⟨.inr Y,_,⟨bx,rw⟩,aR Y (aO [] Y Y isAgg27 sizeOf27 (bK Y Y)),aA zc (.refl _),⟨(⟨p.globals,p.mutexes,(p.funcs++[p.funcs[j1]])⟩:cK),Y,⟨⟨hs.globals,hs.mutexes,bSp hs.funcs hfs⟩,by unfold cK.wt;dsimp only;have h8:=bTv p.funcs p.funcs[j1];unfold wtF at h8;omega,by rw [length_append];omega⟩⟩,Y⟩
 refine wcp false Y (eD h26) (go 9 ?_)
 refine wyz Y (dH (z:=3) j1 Y Y Y Y hj1 runUnderlying25 sizeOf62) ?_
 refine wyz Y (id <|uX 2 (0+j1*3+2) runUnderlying62 sizeOf60) ?_
 refine wyz Y (rM [_,_] isAgg60 sizeOf60 (bTd hj1 2 _ Y)) ?_
 have hcw:=bNe p.funcs[j1].body
 refine wc0 Y call29 Y (bPd (bLh p.funcs[j1].body) p.funcs[j1].body (Nat.le_refl _) J _) ?_
 rintro _ _ ⟨rfl,rfl⟩
 refine wyz Y (aNq _ Y Y Y Y) (go 3 ?_)
 refine dx [b2,b1] (tz [(0,true),(1,true),(2,true),(3,true),(4,true),(5,true)] 16 (go 7 ?_))
 refine tx 6 Y (dH (z:=3) j1 Y Y Y Y hj1 runUnderlying25 sizeOf62) ?_
 refine tx 7 Y (id <|uX 2 (0+j1*3+2) runUnderlying62 sizeOf60) (tz [(9,true)] 13 (go 2 ?_))
 refine tx 10 Y (bTi Y Y Y) (tz [(11,true),(13,true),(14,true)] 9 (go 4 ?_))
 refine t2 8 12 Y ?_ ?_
 focus
  refine way Y V (rM [_,_] isAgg60 sizeOf60 (bTd hj1 2 _ Y)) ?_
  obtain ⟨j4,hj4,hlj4⟩:=bEj ((a.fdiv 16)) ((max 1 ((bLh p.funcs[j1].body:Nat):Int))) J
  refine ox 12 Y Y (bV (ho:=Y) (has:=Y) call17 (bEl ((a.fdiv 16)) ((max 1 ((bLh p.funcs[j1].body:Nat):Int))) j4 J J hj4 _) ?_)
  rintro _ _ ⟨rfl,rfl⟩
 rotate_left
 obtain ⟨j4,hj4,hlj4⟩:=bEj ((a.fdiv 16)) ((max 1 ((bLh p.funcs[j1].body:Nat):Int))) J
 refine (bV (ho:=Y) (has:=Y) call17 (bEl ((a.fdiv 16)) ((max 1 ((bLh p.funcs[j1].body:Nat):Int))) j4 J J hj4 _) ?_)
 rintro _ _ ⟨rfl,rfl⟩
 refine ox 8 Y Y (way Y V (rM [_,_] isAgg60 sizeOf60 (bTd hj1 2 _ Y)) ?_)
 all_goals
  refine ox 15 Y Y (bV (ho:=Y) (has:=Y) call32 (bUh (wtS p.funcs[j1].body) p.funcs[j1].body ((j4:Nat):Int) how x J (Nat.le_refl _) hfs.2.2 J J _) ?_)
  rintro _ _ ⟨⟨t1,m1,rfl,hE1⟩,rfl⟩
  refine tz [(16,true),(17,true),(18,true)] 3 (go 4 ?_)
  refine tx 19 Y (dH (z:=3) j1 Y Y Y Y hj1 runUnderlying25 sizeOf62) ?_
  refine tx 20 Y (id <|uX 2 (0+j1*3+2) runUnderlying62 sizeOf60) ?_
  refine ox 21 Y Y (aO0 (ho:=Y) (hx:=Y) (hy:=Y) (hc:=Y) (r:=(p.funcs.set j1 (bTb p.funcs[j1] t1)).flatMap fV) [_,_] sizeOf60 (bSz hj1 2 1 V) (bS1 hj1 2 _ V Y) FG ?_)
  refine ax (go 4 ?_)
  refine aAg [_] 0 Y Y ?_
  refine aAg [_] 1 Y Y ?_
  refine aAg [_] 2 Y Y ?_
  refine go 1 ?_
  refine eA 136 Y (t:=.agg (jV (⟨p.globals,p.mutexes,(p.funcs.set j1 (bTb p.funcs[j1] t1))⟩:cK))) zFO (go 4 ?_)
  exact ⟨.inr Y,_,⟨bx,rw⟩,aR Y (aO [] Y Y isAgg27 sizeOf27 (bK Y Y)),aA zc (.refl _),⟨(⟨p.globals,p.mutexes,(p.funcs.set j1 (bTb p.funcs[j1] t1))⟩:cK),Y,⟨⟨hs.globals,hs.mutexes,bS0 hs.funcs ⟨hfs.1,hfs.2.1,hE1.sane⟩⟩,by unfold cK.wt;dsimp only;have h8:=bSw p.funcs j1 (bTb p.funcs[j1] t1);have h9:bS.wt (bTb p.funcs[j1] t1)=1+p.funcs[j1].params.length+wtS t1:=rfl;have:=hE1.wt;unfold wtF at h8;omega,FM⟩⟩,Y⟩
end
end Go.Proofs.YtbdfdjdgfanjaaaGreatDoor
