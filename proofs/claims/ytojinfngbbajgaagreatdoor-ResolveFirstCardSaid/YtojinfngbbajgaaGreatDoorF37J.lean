import Derived.Test.YtojinfngbbajgaaGreatDoorF5J
import Derived.Test.YtojinfngbbajgaaGreatDoorF36J
import Derived.Test.YtojinfngbbajgaaGreatDoorF25J
import Derived.Test.YtojinfngbbajgaaGreatDoorF15J
set_option linter.all false
set_option synthInstance.maxHeartbeats 1000000
set_option synthInstance.maxSize 1000000
set_option maxHeartbeats 8000000
set_option maxRecDepth 100000
namespace Go.Proofs.YtojinfngbbajgaaGreatDoor
open Go.Proofs.Tryz
open List (length_append length_cons length_nil mem_append mem_cons not_mem_nil append_assoc getElem_mem take_of_length_le)
section
open Go.RowKit
theorem bUh:∀(N:Nat)(l:List aJ)(n how x:Int),N <= 8999999 -> wtS l <= N -> gC l -> -1000000000000000+22*(wtS l:Int) <= n -> n <= 1000000000000000 -> ∀s:Sto,aL prog 28 [.c (.sl l.length (l.flatMap encS)),.c (.val (.int .i64 n)),.c (.val (.int .i64 how)),.c (.val (.int .i64 x))] [] s fun t s'=>(∃l' n',t=.tup [.c (.sl l'.length (l'.flatMap encS)),.c (.val (.int .i64 n'))] /\ bU1 l n l' n') /\ s'=s
 |0,l,n,how,x,hN,hw,hs,h1,h2,⟨bx,rw⟩=>bT6 0 l n how x (by omega) (by omega) (by have:=uZ l;omega) hs h1 h2 (fun h=>absurd (uZ l) (by omega)) bx rw
 |N+1,l,n,how,x,hN,hw,hs,h1,h2,⟨bx,rw⟩=>bT6 N l n how x (by omega) hw (by have:=uZ l;omega) hs h1 h2 (fun _ l2 n2 q1 q2 q3 q4 s=>bUh N l2 n2 how x (by omega) q1 q2 q3 q4 s) bx rw
theorem bUy{P:Program}{α:Type}{x y:Code}{st:AS}{Q:Exit -> AS -> Prop}(F:α -> AS)(h1:AWp P x st (sU (fun s=>∃a,Sub s (F a)) Q))(h2:∀a,AWp P y (F a) Q):AWp P (.seq x y) st Q:=
 aHp (sE h1 fun e s h=>by
  cases e with
  |normal=>obtain ⟨a,ha⟩:=h;exact zU ha (h2 a)
  |_=>exact h)
theorem bUg{bx:List Box}{rw rw':List bA}(h:rw'.Perm rw):aAz ⟨bx,rw⟩ ⟨bx,rw'⟩:=by
 intro w hm
 have hp:((⟨bx,rw'⟩:Sto).bl).Perm ((⟨bx,rw⟩:Sto).bl):=List.Perm.append (List.Perm.refl _) (h.flatMap_right _)
 have hu:Up2 (bI (⟨bx,rw⟩:Sto).bl w) (bI (⟨bx,rw'⟩:Sto).bl w):=up_sub fun b hb=>hp.mem_iff.1 hb
 exact ⟨⟨hp.nodup_iff.2 hm.nodup,fun b hb=>hm.lt b (hp.mem_iff.1 hb),fun x hx=>let ⟨us,e,r⟩:=hm.box x hx;⟨us,e,r.mono hu⟩,fun x hx=>let ⟨us,e,r⟩:=hm.row x (h.mem_iff.1 hx);⟨us,e,r.mono hu⟩⟩,fun b hb=>hp.mem_iff.1 hb⟩
theorem bSn{n:Nat}{T T':List Nat}{bx:List Box}{rw rw':List bA}{ts ts':List (Nat×AT)}(h:rw'.Perm rw)(hT:∀b,b∈T' -> b∈T)(hs:Sub ⟨n,T',⟨bx,rw'⟩,ts⟩ ⟨n,T',⟨bx,rw'⟩,ts'⟩):Sub ⟨n,T,⟨bx,rw⟩,ts⟩ ⟨n,T',⟨bx,rw'⟩,ts'⟩:=
 (vU (st:=⟨n,T,⟨bx,rw⟩,ts⟩) (bUg h)).trans (cA (.refl _) (.refl _) hT hs)
theorem bSv{α:Type}(a b c:α)(l:List α):(a::b::c::l).Perm (a::c::b::l) /\ (a::b::c::l).Perm (b::a::c::l) /\ (a::b::c::l).Perm (b::c::a::l) /\ (a::b::c::l).Perm (c::a::b::l) /\ (a::b::c::l).Perm (c::b::a::l):=by
 have h1:∀(x y z:α),(x::y::z::l).Perm (x::z::y::l):=fun x y z=>.cons _ (.swap _ _ _)
 have h2:∀(x y z:α),(x::y::z::l).Perm (y::x::z::l):=fun x y z=>.swap _ _ _
 exact ⟨h1 _ _ _,h2 _ _ _,(h2 _ _ _).trans (h1 _ _ _),(h1 _ _ _).trans (h2 _ _ _),((h1 _ _ _).trans (h2 _ _ _)).trans (h1 _ _ _)⟩
theorem bUv{P:Program}{ops:Array Oper}{Z:List Nat}{fuel:Nat}{listed:Array Bool}{n:Nat}{T:List Nat}{bx:List Box}{rw:List bA}{ts:List (Nat×AT)}{K:AS -> Prop}{v:Value}{E:TypeId}{z k:Nat}{cs:List AC}(i:Nat)(hi:look ts i=some (.c (.val v)))(h:lD P ops Z fuel listed ⟨n,T,⟨bx,rw⟩,(i,.c (.sl k cs))::ts⟩ K)(hz:0<z:=by decide):lD P ops Z fuel listed ⟨n,T,⟨bx,⟨v,E,z,k,cs⟩::rw⟩,ts⟩ K:=
 aO1 (yS (st:=⟨n,T,⟨bx,⟨v,E,z,k,cs⟩::rw⟩,ts⟩) (A:=[]) i hi rfl hz) h
def bUd(f:bS)(y:ByteArray):bS:=⟨y,f.params,f.body⟩
def bSt(f:bS)(l:List aS):bS:=⟨f.name,l,f.body⟩
def bTb(f:bS)(l:List aJ):bS:=⟨f.name,f.params,l⟩
section
variable {fs:List bS}{k:Nat}{f':bS}
theorem bTp(hk:k<fs.length):fs.flatMap fV=(fs.take k).flatMap fV++(fV fs[k]++(fs.drop (k+1)).flatMap fV) /\ ((fs.take k).flatMap fV).length=k*3:=by
 refine ⟨?_,?_⟩
 ·conv=>lhs;rw [←List.take_append_drop k fs,List.drop_eq_getElem_cons hk]
  rw [List.flatMap_append,List.flatMap_cons]
 rw [aFz fV 3 vC,List.length_take,Nat.min_eq_left (by omega)]
theorem bUf(hk:k<fs.length):pk true 3 (fs.flatMap fV) (0+k*3)=some (.agg (fV fs[k])):=by
 obtain ⟨h1,h2⟩:=bTp hk
 unfold pk
 rw [if_pos rfl,h1,Nat.zero_add,List.drop_left' h2,List.take_left' (by rfl),if_pos (by rw [length_append,length_append,h2];show _ <= _+(3+_);omega)]
theorem bTd(hk:k<fs.length)(i:Nat)(x:AC)(hx:(fV fs[k])[i]?=some x):pk false 1 (fs.flatMap fV) (0+k*3+i)=some (.c x):=by
 obtain ⟨h1,h2⟩:=bTp hk
 have hi:i<(fV fs[k]).length:=(List.getElem?_eq_some_iff.1 hx).1
 unfold pk
 rw [if_neg (by decide),h1,Nat.zero_add,List.getElem?_append_right (by omega),h2,Nat.add_sub_cancel_left,List.getElem?_append_left hi,hx];rfl
theorem bS1(hk:k<fs.length)(i:Nat)(x:AC)(hi:i<3)(hx:(fV fs[k]).set i x=fV f'):splice (fs.flatMap fV) (0+k*3+i) [x]=(fs.set k f').flatMap fV:=by
 obtain ⟨h1,h2⟩:=bTp hk
 have h4:(fs.set k f').flatMap fV=(fs.take k).flatMap fV++(fV f'++(fs.drop (k+1)).flatMap fV):=by
  rw [List.set_eq_take_append_cons_drop,if_pos hk,List.flatMap_append,List.flatMap_cons]
 have h11:(fV fs[k]).length=3:=rfl
 rw [h4,h1,←hx]
 unfold splice
 rw [Nat.zero_add,←h2,List.take_append,take_of_length_le (by omega),Nat.add_sub_cancel_left,List.take_append_of_le_length (by omega)]
 simp only [append_assoc]
 rw [List.drop_append,List.drop_of_length_le (by simp;omega),List.nil_append,show ((fs.take k).flatMap fV).length+i+[x].length-((fs.take k).flatMap fV).length=i+1 by simp;omega,List.drop_append_of_le_length (by omega),List.set_eq_take_append_cons_drop,if_pos (by omega)]
 simp
theorem bSz(hk:k<fs.length)(i z:Nat)(h:i+z <= 3):0+k*3+i+z <= (fs.flatMap fV).length:=by
 rw [aFz fV 3 vC]
 have:(k+1)*3 <= fs.length*3:=Nat.mul_le_mul_right _ hk
 omega
end
def wtF(fs:List bS):Nat:=(fs.map bS.wt).sum
theorem bSw:∀(fs:List bS)(k:Nat)(f':bS),wtF (fs.set k f') <= wtF fs+f'.wt
 |[],_,_=>by simp
 |f::fs,0,f'=>by unfold wtF;simp only [List.set_cons_zero,List.map_cons,List.sum_cons];omega
 |f::fs,k+1,f'=>by have:=bSw fs k f';unfold wtF at this⊢;simp only [List.set_cons_succ,List.map_cons,List.sum_cons];omega
theorem bTv(fs:List bS)(f':bS):wtF (fs++[f'])=wtF fs+f'.wt:=by unfold wtF;simp
theorem bS0{α:Type}{Q:α -> Prop}{l:List α}{k:Nat}{a:α}(h:∀x,x∈l -> Q x)(ha:Q a):∀x,x∈l.set k a -> Q x:=fun x hx=>by
 rcases List.mem_or_eq_of_mem_set hx with hx|hx
 ·exact h x hx
 rw [hx];exact ha
theorem bSp{α:Type}{Q:α -> Prop}{l:List α}{a:α}(h:∀x,x∈l -> Q x)(ha:Q a):∀x,x∈l++[a] -> Q x:=fun x hx=>by
 rcases mem_append.1 hx with hx|hx
 ·exact h x hx
 rw [List.mem_singleton.1 hx];exact ha
structure bU2 (p q:cK):Prop where
 sane:q.sane
 wt:q.wt <= 24*p.wt+20
 funcs:p.funcs.length <= q.funcs.length
theorem bTz(p:cK)(which a how x:Int)(hs:p.sane)(hw:p.wt <= 300000)(hf:1 <= p.funcs.length)(hx:fit x)(s:Sto):aL prog 22 [.agg (jV p),.c (.val (.int .i64 which)),.c (.val (.int .i64 a)),.c (.val (.int .i64 how)),.c (.val (.int .i64 x))] [] s fun t s'=>(∃q:cK,t=.agg (jV q) /\ bU2 p q) /\ s'=s:=by
 obtain ⟨bx,rw⟩:=s
 have hwp:p.wt=p.globals.length+p.mutexes.length+(p.funcs.map bS.wt).sum:=rfl
 have hfn:=aDr bS.wt (fun x=>by unfold bS.wt;omega) p.funcs
 refine acB func22 rfl ?_
 show AWp prog _ ⟨137,_,⟨bx,rw⟩,[(0,.agg (jV p)),(1,.c (.val (.int .i64 which))),(2,.c (.val (.int .i64 a))),(3,.c (.val (.int .i64 how))),(4,.c (.val (.int .i64 x)))]⟩ _
 refine go 6 fun b1 b2=>?_
 refine bUy (fun g:Value×Value×Value=>(⟨137,(aY g.1++aY g.2.1++aY g.2.2)++[b1,b2],⟨⟨b2,30,[.val (.slice none 0 0),.val (.slice none 0 0),.val (.slice none 0 0)]⟩::⟨b1,30,[.val g.1,.val g.2.1,.val g.2.2]⟩::bx,⟨g.1,86,2,p.globals.length,p.globals.flatMap dB⟩::⟨g.2.1,70,3,p.mutexes.length,p.mutexes.flatMap bT⟩::⟨g.2.2,58,3,p.funcs.length,p.funcs.flatMap fV⟩::rw⟩,[(1,.c (.val (.int .i64 which))),(2,.c (.val (.int .i64 a))),(3,.c (.val (.int .i64 how))),(4,.c (.val (.int .i64 x))),(5,pP b1),(10,pP b2)]⟩:AS)) ?_ ?_
 ·refine bTy 13 [b2,b1] [b2] #[true,true,true,true,true,true,true,true,true,true,true,true,true,false,false,false,false,false] (by kernel_rfl) (by kernel_rfl) (by kernel_rfl) ?_
  refine tz [(1,true),(2,true),(5,true),(6,true),(9,true),(10,true)] 7 (go 7 ?_)
  refine three 0 4 8 (by kernel_rfl) rfl rfl rfl rfl rfl rfl ?_ ?_ ?_
  ·refine (aTr rfl rfl (by decide) underlying26 sizeOf86 fun g3=>?_)
   refine three 3 4 8 (by kernel_rfl) rfl rfl rfl rfl rfl rfl ?_ ?_ ?_
   ·refine (jU [] Tryz.t86 24 rfl rfl (by decide) rfl rfl underlying26 (by kernel_rfl) rfl rfl rfl rfl (by decide) (aFz dB 2 (fun _=>rfl) p.globals) (by unfold maxLen;omega) (by omega) (Nat.zero_add p.globals.length) (fun hn b hb=>qM (r:=(⟨(.slice (some ⟨g3,0,none⟩) 0 0),86,2,0,[]⟩:bA)) (by simp) hn hb) (fun b hb=>by first|(simp [hb];done)|(simp only [aY,Value.ownBlock,Option.toList,mem_cons,not_mem_nil,or_false] at hb;simp [hb];done)) (List.nil_append _) fun w4=>?_)
    refine tz [(12,true)] 4 (go 2 ?_)
    refine t2 4 8 rfl ?_ ?_
    ·refine (aTr rfl rfl (by decide) underlying27 sizeOf70 fun g5=>?_)
     refine t2 7 8 rfl ?_ ?_
     ·refine (jU [] Tryz.t70 32 rfl rfl (by decide) rfl rfl underlying27 (by kernel_rfl) rfl rfl rfl rfl (by decide) (aFz bT 3 (fun _=>rfl) p.mutexes) (by unfold maxLen;omega) (by omega) (Nat.zero_add p.mutexes.length) (fun hn b hb=>qM (r:=(⟨(.slice (some ⟨g5,0,none⟩) 0 0),70,3,0,[]⟩:bA)) (by simp) hn hb) (fun b hb=>by first|(simp [hb];done)|(simp only [aY,Value.ownBlock,Option.toList,mem_cons,not_mem_nil,or_false] at hb;simp [hb];done)) (List.nil_append _) fun w6=>?_)
      refine ox 8 rfl rfl (aTr rfl rfl (by decide) underlying28 sizeOf58 fun g7=>?_)
      refine ox 11 rfl rfl (jU [] Tryz.t58 64 rfl rfl (by decide) rfl rfl underlying28 (by kernel_rfl) rfl rfl rfl rfl (by decide) (aFz fV 3 (fun _=>rfl) p.funcs) (by unfold maxLen;omega) (by omega) (Nat.zero_add p.funcs.length) (fun hn b hb=>qM (r:=(⟨(.slice (some ⟨g7,0,none⟩) 0 0),58,3,0,[]⟩:bA)) (by simp) hn hb) (fun b hb=>by first|(simp [hb];done)|(simp only [aY,Value.ownBlock,Option.toList,mem_cons,not_mem_nil,or_false] at hb;simp [hb];done)) (List.nil_append _) fun w8=>?_)
      refine ax ?_
      refine id ?_
      refine tz [(13,false),(14,true),(15,false),(16,true),(17,false)] 0 (go 6 ?_)
      refine ax ?_
      show ∃g:Value×Value×Value,Sub _ _
      exact ⟨(w4,w6,w8),bSn (bSv _ _ _ _).2.2.2.2 (by intro b hb;simp only [mem_append,mem_cons,not_mem_nil,or_false] at hb⊢;rcases hb with ((h|h)|h)|h|h<;>simp [h]) (sA rfl)⟩
     refine (aTr rfl rfl (by decide) underlying28 sizeOf58 fun g9=>?_)
     refine ox 7 rfl rfl (jU [_] Tryz.t70 32 rfl rfl (by decide) rfl rfl underlying27 (by kernel_rfl) rfl rfl rfl rfl (by decide) (aFz bT 3 (fun _=>rfl) p.mutexes) (by unfold maxLen;omega) (by omega) (Nat.zero_add p.mutexes.length) (fun hn b hb=>qM (r:=(⟨(.slice (some ⟨g5,0,none⟩) 0 0),70,3,0,[]⟩:bA)) (by simp) hn hb) (fun b hb=>by first|(simp [hb];done)|(simp only [aY,Value.ownBlock,Option.toList,mem_cons,not_mem_nil,or_false] at hb;simp [hb];done)) (List.nil_append _) fun w10=>?_)
     refine ox 11 rfl rfl (jU [] Tryz.t58 64 rfl rfl (by decide) rfl rfl underlying28 (by kernel_rfl) rfl rfl rfl rfl (by decide) (aFz fV 3 (fun _=>rfl) p.funcs) (by unfold maxLen;omega) (by omega) (Nat.zero_add p.funcs.length) (fun hn b hb=>qM (r:=(⟨(.slice (some ⟨g9,0,none⟩) 0 0),58,3,0,[]⟩:bA)) (by simp) hn hb) (fun b hb=>by first|(simp [hb];done)|(simp only [aY,Value.ownBlock,Option.toList,mem_cons,not_mem_nil,or_false] at hb;simp [hb];done)) (List.nil_append _) fun w11=>?_)
     refine ax ?_
     refine id ?_
     refine tz [(13,false),(14,true),(15,false),(16,true),(17,false)] 0 (go 6 ?_)
     refine ax ?_
     show ∃g:Value×Value×Value,Sub _ _
     exact ⟨(w4,w10,w11),bSn (bSv _ _ _ _).2.2.2.2 (by intro b hb;simp only [mem_append,mem_cons,not_mem_nil,or_false] at hb⊢;rcases hb with ((h|h)|h)|h|h<;>simp [h]) (sA rfl)⟩
    refine (aTr rfl rfl (by decide) underlying28 sizeOf58 fun g12=>?_)
    refine ox 4 rfl rfl (aTr rfl rfl (by decide) underlying27 sizeOf70 fun g13=>?_)
    refine ox 7 rfl rfl (jU [] Tryz.t70 32 rfl rfl (by decide) rfl rfl underlying27 (by kernel_rfl) rfl rfl rfl rfl (by decide) (aFz bT 3 (fun _=>rfl) p.mutexes) (by unfold maxLen;omega) (by omega) (Nat.zero_add p.mutexes.length) (fun hn b hb=>qM (r:=(⟨(.slice (some ⟨g13,0,none⟩) 0 0),70,3,0,[]⟩:bA)) (by simp) hn hb) (fun b hb=>by first|(simp [hb];done)|(simp only [aY,Value.ownBlock,Option.toList,mem_cons,not_mem_nil,or_false] at hb;simp [hb];done)) (List.nil_append _) fun w14=>?_)
    refine ox 11 rfl rfl (jU [_] Tryz.t58 64 rfl rfl (by decide) rfl rfl underlying28 (by kernel_rfl) rfl rfl rfl rfl (by decide) (aFz fV 3 (fun _=>rfl) p.funcs) (by unfold maxLen;omega) (by omega) (Nat.zero_add p.funcs.length) (fun hn b hb=>qM (r:=(⟨(.slice (some ⟨g12,0,none⟩) 0 0),58,3,0,[]⟩:bA)) (by simp) hn hb) (fun b hb=>by first|(simp [hb];done)|(simp only [aY,Value.ownBlock,Option.toList,mem_cons,not_mem_nil,or_false] at hb;simp [hb];done)) (List.nil_append _) fun w15=>?_)
    refine ax ?_
    refine id ?_
    refine tz [(13,false),(14,true),(15,false),(16,true),(17,false)] 0 (go 6 ?_)
    refine ax ?_
    show ∃g:Value×Value×Value,Sub _ _
    exact ⟨(w4,w14,w15),bSn (bSv _ _ _ _).2.2.1 (by intro b hb;simp only [mem_append,mem_cons,not_mem_nil,or_false] at hb⊢;rcases hb with ((h|h)|h)|h|h<;>simp [h]) (sA rfl)⟩
   ·refine (aTr rfl rfl (by decide) underlying27 sizeOf70 fun g16=>?_)
    refine t2 3 8 rfl ?_ ?_
    ·refine (jU [_] Tryz.t86 24 rfl rfl (by decide) rfl rfl underlying26 (by kernel_rfl) rfl rfl rfl rfl (by decide) (aFz dB 2 (fun _=>rfl) p.globals) (by unfold maxLen;omega) (by omega) (Nat.zero_add p.globals.length) (fun hn b hb=>qM (r:=(⟨(.slice (some ⟨g3,0,none⟩) 0 0),86,2,0,[]⟩:bA)) (by simp) hn hb) (fun b hb=>by first|(simp [hb];done)|(simp only [aY,Value.ownBlock,Option.toList,mem_cons,not_mem_nil,or_false] at hb;simp [hb];done)) (List.nil_append _) fun w17=>?_)
     refine tz [(12,true)] 3 (go 2 ?_)
     refine t2 7 8 rfl ?_ ?_
     ·refine (jU [] Tryz.t70 32 rfl rfl (by decide) rfl rfl underlying27 (by kernel_rfl) rfl rfl rfl rfl (by decide) (aFz bT 3 (fun _=>rfl) p.mutexes) (by unfold maxLen;omega) (by omega) (Nat.zero_add p.mutexes.length) (fun hn b hb=>qM (r:=(⟨(.slice (some ⟨g16,0,none⟩) 0 0),70,3,0,[]⟩:bA)) (by simp) hn hb) (fun b hb=>by first|(simp [hb];done)|(simp only [aY,Value.ownBlock,Option.toList,mem_cons,not_mem_nil,or_false] at hb;simp [hb];done)) (List.nil_append _) fun w18=>?_)
      refine ox 8 rfl rfl (aTr rfl rfl (by decide) underlying28 sizeOf58 fun g19=>?_)
      refine ox 11 rfl rfl (jU [] Tryz.t58 64 rfl rfl (by decide) rfl rfl underlying28 (by kernel_rfl) rfl rfl rfl rfl (by decide) (aFz fV 3 (fun _=>rfl) p.funcs) (by unfold maxLen;omega) (by omega) (Nat.zero_add p.funcs.length) (fun hn b hb=>qM (r:=(⟨(.slice (some ⟨g19,0,none⟩) 0 0),58,3,0,[]⟩:bA)) (by simp) hn hb) (fun b hb=>by first|(simp [hb];done)|(simp only [aY,Value.ownBlock,Option.toList,mem_cons,not_mem_nil,or_false] at hb;simp [hb];done)) (List.nil_append _) fun w20=>?_)
      refine ax ?_
      refine id ?_
      refine tz [(13,false),(14,true),(15,false),(16,true),(17,false)] 0 (go 6 ?_)
      refine ax ?_
      show ∃g:Value×Value×Value,Sub _ _
      exact ⟨(w17,w18,w20),bSn (bSv _ _ _ _).2.2.2.2 (by intro b hb;simp only [mem_append,mem_cons,not_mem_nil,or_false] at hb⊢;rcases hb with ((h|h)|h)|h|h<;>simp [h]) (sA rfl)⟩
     refine (aTr rfl rfl (by decide) underlying28 sizeOf58 fun g21=>?_)
     refine ox 7 rfl rfl (jU [_] Tryz.t70 32 rfl rfl (by decide) rfl rfl underlying27 (by kernel_rfl) rfl rfl rfl rfl (by decide) (aFz bT 3 (fun _=>rfl) p.mutexes) (by unfold maxLen;omega) (by omega) (Nat.zero_add p.mutexes.length) (fun hn b hb=>qM (r:=(⟨(.slice (some ⟨g16,0,none⟩) 0 0),70,3,0,[]⟩:bA)) (by simp) hn hb) (fun b hb=>by first|(simp [hb];done)|(simp only [aY,Value.ownBlock,Option.toList,mem_cons,not_mem_nil,or_false] at hb;simp [hb];done)) (List.nil_append _) fun w22=>?_)
     refine ox 11 rfl rfl (jU [] Tryz.t58 64 rfl rfl (by decide) rfl rfl underlying28 (by kernel_rfl) rfl rfl rfl rfl (by decide) (aFz fV 3 (fun _=>rfl) p.funcs) (by unfold maxLen;omega) (by omega) (Nat.zero_add p.funcs.length) (fun hn b hb=>qM (r:=(⟨(.slice (some ⟨g21,0,none⟩) 0 0),58,3,0,[]⟩:bA)) (by simp) hn hb) (fun b hb=>by first|(simp [hb];done)|(simp only [aY,Value.ownBlock,Option.toList,mem_cons,not_mem_nil,or_false] at hb;simp [hb];done)) (List.nil_append _) fun w23=>?_)
     refine ax ?_
     refine id ?_
     refine tz [(13,false),(14,true),(15,false),(16,true),(17,false)] 0 (go 6 ?_)
     refine ax ?_
     show ∃g:Value×Value×Value,Sub _ _
     exact ⟨(w17,w22,w23),bSn (bSv _ _ _ _).2.2.2.2 (by intro b hb;simp only [mem_append,mem_cons,not_mem_nil,or_false] at hb⊢;rcases hb with ((h|h)|h)|h|h<;>simp [h]) (sA rfl)⟩
    refine (aTr rfl rfl (by decide) underlying28 sizeOf58 fun g24=>?_)
    refine ox 3 rfl rfl (jU [_,_] Tryz.t86 24 rfl rfl (by decide) rfl rfl underlying26 (by kernel_rfl) rfl rfl rfl rfl (by decide) (aFz dB 2 (fun _=>rfl) p.globals) (by unfold maxLen;omega) (by omega) (Nat.zero_add p.globals.length) (fun hn b hb=>qM (r:=(⟨(.slice (some ⟨g3,0,none⟩) 0 0),86,2,0,[]⟩:bA)) (by simp) hn hb) (fun b hb=>by first|(simp [hb];done)|(simp only [aY,Value.ownBlock,Option.toList,mem_cons,not_mem_nil,or_false] at hb;simp [hb];done)) (List.nil_append _) fun w25=>?_)
    refine tz [(12,true)] 2 (go 2 ?_)
    refine ox 7 rfl rfl (jU [_] Tryz.t70 32 rfl rfl (by decide) rfl rfl underlying27 (by kernel_rfl) rfl rfl rfl rfl (by decide) (aFz bT 3 (fun _=>rfl) p.mutexes) (by unfold maxLen;omega) (by omega) (Nat.zero_add p.mutexes.length) (fun hn b hb=>qM (r:=(⟨(.slice (some ⟨g16,0,none⟩) 0 0),70,3,0,[]⟩:bA)) (by simp) hn hb) (fun b hb=>by first|(simp [hb];done)|(simp only [aY,Value.ownBlock,Option.toList,mem_cons,not_mem_nil,or_false] at hb;simp [hb];done)) (List.nil_append _) fun w26=>?_)
    refine ox 11 rfl rfl (jU [] Tryz.t58 64 rfl rfl (by decide) rfl rfl underlying28 (by kernel_rfl) rfl rfl rfl rfl (by decide) (aFz fV 3 (fun _=>rfl) p.funcs) (by unfold maxLen;omega) (by omega) (Nat.zero_add p.funcs.length) (fun hn b hb=>qM (r:=(⟨(.slice (some ⟨g24,0,none⟩) 0 0),58,3,0,[]⟩:bA)) (by simp) hn hb) (fun b hb=>by first|(simp [hb];done)|(simp only [aY,Value.ownBlock,Option.toList,mem_cons,not_mem_nil,or_false] at hb;simp [hb];done)) (List.nil_append _) fun w27=>?_)
    refine ax ?_
    refine id ?_
    refine tz [(13,false),(14,true),(15,false),(16,true),(17,false)] 0 (go 6 ?_)
    refine ax ?_
    show ∃g:Value×Value×Value,Sub _ _
    exact ⟨(w25,w26,w27),bSn (bSv _ _ _ _).2.2.2.2 (by intro b hb;simp only [mem_append,mem_cons,not_mem_nil,or_false] at hb⊢;rcases hb with ((h|h)|h)|h|h<;>simp [h]) (sA rfl)⟩
   refine (aTr rfl rfl (by decide) underlying28 sizeOf58 fun g28=>?_)
   refine t2 3 4 rfl ?_ ?_
   ·refine (jU [_] Tryz.t86 24 rfl rfl (by decide) rfl rfl underlying26 (by kernel_rfl) rfl rfl rfl rfl (by decide) (aFz dB 2 (fun _=>rfl) p.globals) (by unfold maxLen;omega) (by omega) (Nat.zero_add p.globals.length) (fun hn b hb=>qM (r:=(⟨(.slice (some ⟨g3,0,none⟩) 0 0),86,2,0,[]⟩:bA)) (by simp) hn hb) (fun b hb=>by first|(simp [hb];done)|(simp only [aY,Value.ownBlock,Option.toList,mem_cons,not_mem_nil,or_false] at hb;simp [hb];done)) (List.nil_append _) fun w29=>?_)
    refine tz [(12,true)] 3 (go 2 ?_)
    refine ox 4 rfl rfl (aTr rfl rfl (by decide) underlying27 sizeOf70 fun g30=>?_)
    refine ox 7 rfl rfl (jU [] Tryz.t70 32 rfl rfl (by decide) rfl rfl underlying27 (by kernel_rfl) rfl rfl rfl rfl (by decide) (aFz bT 3 (fun _=>rfl) p.mutexes) (by unfold maxLen;omega) (by omega) (Nat.zero_add p.mutexes.length) (fun hn b hb=>qM (r:=(⟨(.slice (some ⟨g30,0,none⟩) 0 0),70,3,0,[]⟩:bA)) (by simp) hn hb) (fun b hb=>by first|(simp [hb];done)|(simp only [aY,Value.ownBlock,Option.toList,mem_cons,not_mem_nil,or_false] at hb;simp [hb];done)) (List.nil_append _) fun w31=>?_)
    refine ox 11 rfl rfl (jU [_] Tryz.t58 64 rfl rfl (by decide) rfl rfl underlying28 (by kernel_rfl) rfl rfl rfl rfl (by decide) (aFz fV 3 (fun _=>rfl) p.funcs) (by unfold maxLen;omega) (by omega) (Nat.zero_add p.funcs.length) (fun hn b hb=>qM (r:=(⟨(.slice (some ⟨g28,0,none⟩) 0 0),58,3,0,[]⟩:bA)) (by simp) hn hb) (fun b hb=>by first|(simp [hb];done)|(simp only [aY,Value.ownBlock,Option.toList,mem_cons,not_mem_nil,or_false] at hb;simp [hb];done)) (List.nil_append _) fun w32=>?_)
    refine ax ?_
    refine id ?_
    refine tz [(13,false),(14,true),(15,false),(16,true),(17,false)] 0 (go 6 ?_)
    refine ax ?_
    show ∃g:Value×Value×Value,Sub _ _
    exact ⟨(w29,w31,w32),bSn (bSv _ _ _ _).2.2.1 (by intro b hb;simp only [mem_append,mem_cons,not_mem_nil,or_false] at hb⊢;rcases hb with ((h|h)|h)|h|h<;>simp [h]) (sA rfl)⟩
   refine (aTr rfl rfl (by decide) underlying27 sizeOf70 fun g33=>?_)
   refine ox 3 rfl rfl (jU [_,_] Tryz.t86 24 rfl rfl (by decide) rfl rfl underlying26 (by kernel_rfl) rfl rfl rfl rfl (by decide) (aFz dB 2 (fun _=>rfl) p.globals) (by unfold maxLen;omega) (by omega) (Nat.zero_add p.globals.length) (fun hn b hb=>qM (r:=(⟨(.slice (some ⟨g3,0,none⟩) 0 0),86,2,0,[]⟩:bA)) (by simp) hn hb) (fun b hb=>by first|(simp [hb];done)|(simp only [aY,Value.ownBlock,Option.toList,mem_cons,not_mem_nil,or_false] at hb;simp [hb];done)) (List.nil_append _) fun w34=>?_)
   refine tz [(12,true)] 2 (go 2 ?_)
   refine ox 7 rfl rfl (jU [] Tryz.t70 32 rfl rfl (by decide) rfl rfl underlying27 (by kernel_rfl) rfl rfl rfl rfl (by decide) (aFz bT 3 (fun _=>rfl) p.mutexes) (by unfold maxLen;omega) (by omega) (Nat.zero_add p.mutexes.length) (fun hn b hb=>qM (r:=(⟨(.slice (some ⟨g33,0,none⟩) 0 0),70,3,0,[]⟩:bA)) (by simp) hn hb) (fun b hb=>by first|(simp [hb];done)|(simp only [aY,Value.ownBlock,Option.toList,mem_cons,not_mem_nil,or_false] at hb;simp [hb];done)) (List.nil_append _) fun w35=>?_)
   refine ox 11 rfl rfl (jU [_] Tryz.t58 64 rfl rfl (by decide) rfl rfl underlying28 (by kernel_rfl) rfl rfl rfl rfl (by decide) (aFz fV 3 (fun _=>rfl) p.funcs) (by unfold maxLen;omega) (by omega) (Nat.zero_add p.funcs.length) (fun hn b hb=>qM (r:=(⟨(.slice (some ⟨g28,0,none⟩) 0 0),58,3,0,[]⟩:bA)) (by simp) hn hb) (fun b hb=>by first|(simp [hb];done)|(simp only [aY,Value.ownBlock,Option.toList,mem_cons,not_mem_nil,or_false] at hb;simp [hb];done)) (List.nil_append _) fun w36=>?_)
   refine ax ?_
   refine id ?_
   refine tz [(13,false),(14,true),(15,false),(16,true),(17,false)] 0 (go 6 ?_)
   refine ax ?_
   show ∃g:Value×Value×Value,Sub _ _
   exact ⟨(w34,w35,w36),bSn (bSv _ _ _ _).2.2.1 (by intro b hb;simp only [mem_append,mem_cons,not_mem_nil,or_false] at hb⊢;rcases hb with ((h|h)|h)|h|h<;>simp [h]) (sA rfl)⟩
  ·refine (aTr rfl rfl (by decide) underlying27 sizeOf70 fun g37=>?_)
   refine t2 0 8 rfl ?_ ?_
   ·refine (aTr rfl rfl (by decide) underlying26 sizeOf86 fun g38=>?_)
    refine t2 3 8 rfl ?_ ?_
    ·refine (jU [] Tryz.t86 24 rfl rfl (by decide) rfl rfl underlying26 (by kernel_rfl) rfl rfl rfl rfl (by decide) (aFz dB 2 (fun _=>rfl) p.globals) (by unfold maxLen;omega) (by omega) (Nat.zero_add p.globals.length) (fun hn b hb=>qM (r:=(⟨(.slice (some ⟨g38,0,none⟩) 0 0),86,2,0,[]⟩:bA)) (by simp) hn hb) (fun b hb=>by first|(simp [hb];done)|(simp only [aY,Value.ownBlock,Option.toList,mem_cons,not_mem_nil,or_false] at hb;simp [hb];done)) (List.nil_append _) fun w39=>?_)
     refine tz [(12,true)] 3 (go 2 ?_)
     refine t2 7 8 rfl ?_ ?_
     ·refine (jU [_] Tryz.t70 32 rfl rfl (by decide) rfl rfl underlying27 (by kernel_rfl) rfl rfl rfl rfl (by decide) (aFz bT 3 (fun _=>rfl) p.mutexes) (by unfold maxLen;omega) (by omega) (Nat.zero_add p.mutexes.length) (fun hn b hb=>qM (r:=(⟨(.slice (some ⟨g37,0,none⟩) 0 0),70,3,0,[]⟩:bA)) (by simp) hn hb) (fun b hb=>by first|(simp [hb];done)|(simp only [aY,Value.ownBlock,Option.toList,mem_cons,not_mem_nil,or_false] at hb;simp [hb];done)) (List.nil_append _) fun w40=>?_)
      refine ox 8 rfl rfl (aTr rfl rfl (by decide) underlying28 sizeOf58 fun g41=>?_)
      refine ox 11 rfl rfl (jU [] Tryz.t58 64 rfl rfl (by decide) rfl rfl underlying28 (by kernel_rfl) rfl rfl rfl rfl (by decide) (aFz fV 3 (fun _=>rfl) p.funcs) (by unfold maxLen;omega) (by omega) (Nat.zero_add p.funcs.length) (fun hn b hb=>qM (r:=(⟨(.slice (some ⟨g41,0,none⟩) 0 0),58,3,0,[]⟩:bA)) (by simp) hn hb) (fun b hb=>by first|(simp [hb];done)|(simp only [aY,Value.ownBlock,Option.toList,mem_cons,not_mem_nil,or_false] at hb;simp [hb];done)) (List.nil_append _) fun w42=>?_)
      refine ax ?_
      refine id ?_
      refine tz [(13,false),(14,true),(15,false),(16,true),(17,false)] 0 (go 6 ?_)
      refine ax ?_
      show ∃g:Value×Value×Value,Sub _ _
      exact ⟨(w39,w40,w42),bSn (bSv _ _ _ _).2.2.2.1 (by intro b hb;simp only [mem_append,mem_cons,not_mem_nil,or_false] at hb⊢;rcases hb with ((h|h)|h)|h|h<;>simp [h]) (sA rfl)⟩
     refine (aTr rfl rfl (by decide) underlying28 sizeOf58 fun g43=>?_)
     refine ox 7 rfl rfl (jU [_,_] Tryz.t70 32 rfl rfl (by decide) rfl rfl underlying27 (by kernel_rfl) rfl rfl rfl rfl (by decide) (aFz bT 3 (fun _=>rfl) p.mutexes) (by unfold maxLen;omega) (by omega) (Nat.zero_add p.mutexes.length) (fun hn b hb=>qM (r:=(⟨(.slice (some ⟨g37,0,none⟩) 0 0),70,3,0,[]⟩:bA)) (by simp) hn hb) (fun b hb=>by first|(simp [hb];done)|(simp only [aY,Value.ownBlock,Option.toList,mem_cons,not_mem_nil,or_false] at hb;simp [hb];done)) (List.nil_append _) fun w44=>?_)
     refine ox 11 rfl rfl (jU [] Tryz.t58 64 rfl rfl (by decide) rfl rfl underlying28 (by kernel_rfl) rfl rfl rfl rfl (by decide) (aFz fV 3 (fun _=>rfl) p.funcs) (by unfold maxLen;omega) (by omega) (Nat.zero_add p.funcs.length) (fun hn b hb=>qM (r:=(⟨(.slice (some ⟨g43,0,none⟩) 0 0),58,3,0,[]⟩:bA)) (by simp) hn hb) (fun b hb=>by first|(simp [hb];done)|(simp only [aY,Value.ownBlock,Option.toList,mem_cons,not_mem_nil,or_false] at hb;simp [hb];done)) (List.nil_append _) fun w45=>?_)
     refine ax ?_
     refine id ?_
     refine tz [(13,false),(14,true),(15,false),(16,true),(17,false)] 0 (go 6 ?_)
     refine ax ?_
     show ∃g:Value×Value×Value,Sub _ _
     exact ⟨(w39,w44,w45),bSn (bSv _ _ _ _).2.2.2.1 (by intro b hb;simp only [mem_append,mem_cons,not_mem_nil,or_false] at hb⊢;rcases hb with ((h|h)|h)|h|h<;>simp [h]) (sA rfl)⟩
    refine (aTr rfl rfl (by decide) underlying28 sizeOf58 fun g46=>?_)
    refine ox 3 rfl rfl (jU [_] Tryz.t86 24 rfl rfl (by decide) rfl rfl underlying26 (by kernel_rfl) rfl rfl rfl rfl (by decide) (aFz dB 2 (fun _=>rfl) p.globals) (by unfold maxLen;omega) (by omega) (Nat.zero_add p.globals.length) (fun hn b hb=>qM (r:=(⟨(.slice (some ⟨g38,0,none⟩) 0 0),86,2,0,[]⟩:bA)) (by simp) hn hb) (fun b hb=>by first|(simp [hb];done)|(simp only [aY,Value.ownBlock,Option.toList,mem_cons,not_mem_nil,or_false] at hb;simp [hb];done)) (List.nil_append _) fun w47=>?_)
    refine tz [(12,true)] 2 (go 2 ?_)
    refine ox 7 rfl rfl (jU [_,_] Tryz.t70 32 rfl rfl (by decide) rfl rfl underlying27 (by kernel_rfl) rfl rfl rfl rfl (by decide) (aFz bT 3 (fun _=>rfl) p.mutexes) (by unfold maxLen;omega) (by omega) (Nat.zero_add p.mutexes.length) (fun hn b hb=>qM (r:=(⟨(.slice (some ⟨g37,0,none⟩) 0 0),70,3,0,[]⟩:bA)) (by simp) hn hb) (fun b hb=>by first|(simp [hb];done)|(simp only [aY,Value.ownBlock,Option.toList,mem_cons,not_mem_nil,or_false] at hb;simp [hb];done)) (List.nil_append _) fun w48=>?_)
    refine ox 11 rfl rfl (jU [] Tryz.t58 64 rfl rfl (by decide) rfl rfl underlying28 (by kernel_rfl) rfl rfl rfl rfl (by decide) (aFz fV 3 (fun _=>rfl) p.funcs) (by unfold maxLen;omega) (by omega) (Nat.zero_add p.funcs.length) (fun hn b hb=>qM (r:=(⟨(.slice (some ⟨g46,0,none⟩) 0 0),58,3,0,[]⟩:bA)) (by simp) hn hb) (fun b hb=>by first|(simp [hb];done)|(simp only [aY,Value.ownBlock,Option.toList,mem_cons,not_mem_nil,or_false] at hb;simp [hb];done)) (List.nil_append _) fun w49=>?_)
    refine ax ?_
    refine id ?_
    refine tz [(13,false),(14,true),(15,false),(16,true),(17,false)] 0 (go 6 ?_)
    refine ax ?_
    show ∃g:Value×Value×Value,Sub _ _
    exact ⟨(w47,w48,w49),bSn (bSv _ _ _ _).2.2.2.1 (by intro b hb;simp only [mem_append,mem_cons,not_mem_nil,or_false] at hb⊢;rcases hb with ((h|h)|h)|h|h<;>simp [h]) (sA rfl)⟩
   refine (aTr rfl rfl (by decide) underlying28 sizeOf58 fun g50=>?_)
   refine ox 0 rfl rfl (aTr rfl rfl (by decide) underlying26 sizeOf86 fun g51=>?_)
   refine ox 3 rfl rfl (jU [] Tryz.t86 24 rfl rfl (by decide) rfl rfl underlying26 (by kernel_rfl) rfl rfl rfl rfl (by decide) (aFz dB 2 (fun _=>rfl) p.globals) (by unfold maxLen;omega) (by omega) (Nat.zero_add p.globals.length) (fun hn b hb=>qM (r:=(⟨(.slice (some ⟨g51,0,none⟩) 0 0),86,2,0,[]⟩:bA)) (by simp) hn hb) (fun b hb=>by first|(simp [hb];done)|(simp only [aY,Value.ownBlock,Option.toList,mem_cons,not_mem_nil,or_false] at hb;simp [hb];done)) (List.nil_append _) fun w52=>?_)
   refine tz [(12,true)] 2 (go 2 ?_)
   refine ox 7 rfl rfl (jU [_,_] Tryz.t70 32 rfl rfl (by decide) rfl rfl underlying27 (by kernel_rfl) rfl rfl rfl rfl (by decide) (aFz bT 3 (fun _=>rfl) p.mutexes) (by unfold maxLen;omega) (by omega) (Nat.zero_add p.mutexes.length) (fun hn b hb=>qM (r:=(⟨(.slice (some ⟨g37,0,none⟩) 0 0),70,3,0,[]⟩:bA)) (by simp) hn hb) (fun b hb=>by first|(simp [hb];done)|(simp only [aY,Value.ownBlock,Option.toList,mem_cons,not_mem_nil,or_false] at hb;simp [hb];done)) (List.nil_append _) fun w53=>?_)
   refine ox 11 rfl rfl (jU [_] Tryz.t58 64 rfl rfl (by decide) rfl rfl underlying28 (by kernel_rfl) rfl rfl rfl rfl (by decide) (aFz fV 3 (fun _=>rfl) p.funcs) (by unfold maxLen;omega) (by omega) (Nat.zero_add p.funcs.length) (fun hn b hb=>qM (r:=(⟨(.slice (some ⟨g50,0,none⟩) 0 0),58,3,0,[]⟩:bA)) (by simp) hn hb) (fun b hb=>by first|(simp [hb];done)|(simp only [aY,Value.ownBlock,Option.toList,mem_cons,not_mem_nil,or_false] at hb;simp [hb];done)) (List.nil_append _) fun w54=>?_)
   refine ax ?_
   refine id ?_
   refine tz [(13,false),(14,true),(15,false),(16,true),(17,false)] 0 (go 6 ?_)
   refine ax ?_
   show ∃g:Value×Value×Value,Sub _ _
   exact ⟨(w52,w53,w54),bSn (bSv _ _ _ _).1 (by intro b hb;simp only [mem_append,mem_cons,not_mem_nil,or_false] at hb⊢;rcases hb with ((h|h)|h)|h|h<;>simp [h]) (sA rfl)⟩
  refine (aTr rfl rfl (by decide) underlying28 sizeOf58 fun g55=>?_)
  refine t2 0 4 rfl ?_ ?_
  ·refine (aTr rfl rfl (by decide) underlying26 sizeOf86 fun g56=>?_)
   refine t2 3 4 rfl ?_ ?_
   ·refine (jU [] Tryz.t86 24 rfl rfl (by decide) rfl rfl underlying26 (by kernel_rfl) rfl rfl rfl rfl (by decide) (aFz dB 2 (fun _=>rfl) p.globals) (by unfold maxLen;omega) (by omega) (Nat.zero_add p.globals.length) (fun hn b hb=>qM (r:=(⟨(.slice (some ⟨g56,0,none⟩) 0 0),86,2,0,[]⟩:bA)) (by simp) hn hb) (fun b hb=>by first|(simp [hb];done)|(simp only [aY,Value.ownBlock,Option.toList,mem_cons,not_mem_nil,or_false] at hb;simp [hb];done)) (List.nil_append _) fun w57=>?_)
    refine tz [(12,true)] 3 (go 2 ?_)
    refine ox 4 rfl rfl (aTr rfl rfl (by decide) underlying27 sizeOf70 fun g58=>?_)
    refine ox 7 rfl rfl (jU [] Tryz.t70 32 rfl rfl (by decide) rfl rfl underlying27 (by kernel_rfl) rfl rfl rfl rfl (by decide) (aFz bT 3 (fun _=>rfl) p.mutexes) (by unfold maxLen;omega) (by omega) (Nat.zero_add p.mutexes.length) (fun hn b hb=>qM (r:=(⟨(.slice (some ⟨g58,0,none⟩) 0 0),70,3,0,[]⟩:bA)) (by simp) hn hb) (fun b hb=>by first|(simp [hb];done)|(simp only [aY,Value.ownBlock,Option.toList,mem_cons,not_mem_nil,or_false] at hb;simp [hb];done)) (List.nil_append _) fun w59=>?_)
    refine ox 11 rfl rfl (jU [_,_] Tryz.t58 64 rfl rfl (by decide) rfl rfl underlying28 (by kernel_rfl) rfl rfl rfl rfl (by decide) (aFz fV 3 (fun _=>rfl) p.funcs) (by unfold maxLen;omega) (by omega) (Nat.zero_add p.funcs.length) (fun hn b hb=>qM (r:=(⟨(.slice (some ⟨g55,0,none⟩) 0 0),58,3,0,[]⟩:bA)) (by simp) hn hb) (fun b hb=>by first|(simp [hb];done)|(simp only [aY,Value.ownBlock,Option.toList,mem_cons,not_mem_nil,or_false] at hb;simp [hb];done)) (List.nil_append _) fun w60=>?_)
    refine ax ?_
    refine id ?_
    refine tz [(13,false),(14,true),(15,false),(16,true),(17,false)] 0 (go 6 ?_)
    refine ax ?_
    show ∃g:Value×Value×Value,Sub _ _
    exact ⟨(w57,w59,w60),bSn (bSv _ _ _ _).2.1 (by intro b hb;simp only [mem_append,mem_cons,not_mem_nil,or_false] at hb⊢;rcases hb with ((h|h)|h)|h|h<;>simp [h]) (sA rfl)⟩
   refine (aTr rfl rfl (by decide) underlying27 sizeOf70 fun g61=>?_)
   refine ox 3 rfl rfl (jU [_] Tryz.t86 24 rfl rfl (by decide) rfl rfl underlying26 (by kernel_rfl) rfl rfl rfl rfl (by decide) (aFz dB 2 (fun _=>rfl) p.globals) (by unfold maxLen;omega) (by omega) (Nat.zero_add p.globals.length) (fun hn b hb=>qM (r:=(⟨(.slice (some ⟨g56,0,none⟩) 0 0),86,2,0,[]⟩:bA)) (by simp) hn hb) (fun b hb=>by first|(simp [hb];done)|(simp only [aY,Value.ownBlock,Option.toList,mem_cons,not_mem_nil,or_false] at hb;simp [hb];done)) (List.nil_append _) fun w62=>?_)
   refine tz [(12,true)] 2 (go 2 ?_)
   refine ox 7 rfl rfl (jU [] Tryz.t70 32 rfl rfl (by decide) rfl rfl underlying27 (by kernel_rfl) rfl rfl rfl rfl (by decide) (aFz bT 3 (fun _=>rfl) p.mutexes) (by unfold maxLen;omega) (by omega) (Nat.zero_add p.mutexes.length) (fun hn b hb=>qM (r:=(⟨(.slice (some ⟨g61,0,none⟩) 0 0),70,3,0,[]⟩:bA)) (by simp) hn hb) (fun b hb=>by first|(simp [hb];done)|(simp only [aY,Value.ownBlock,Option.toList,mem_cons,not_mem_nil,or_false] at hb;simp [hb];done)) (List.nil_append _) fun w63=>?_)
   refine ox 11 rfl rfl (jU [_,_] Tryz.t58 64 rfl rfl (by decide) rfl rfl underlying28 (by kernel_rfl) rfl rfl rfl rfl (by decide) (aFz fV 3 (fun _=>rfl) p.funcs) (by unfold maxLen;omega) (by omega) (Nat.zero_add p.funcs.length) (fun hn b hb=>qM (r:=(⟨(.slice (some ⟨g55,0,none⟩) 0 0),58,3,0,[]⟩:bA)) (by simp) hn hb) (fun b hb=>by first|(simp [hb];done)|(simp only [aY,Value.ownBlock,Option.toList,mem_cons,not_mem_nil,or_false] at hb;simp [hb];done)) (List.nil_append _) fun w64=>?_)
   refine ax ?_
   refine id ?_
   refine tz [(13,false),(14,true),(15,false),(16,true),(17,false)] 0 (go 6 ?_)
   refine ax ?_
   show ∃g:Value×Value×Value,Sub _ _
   exact ⟨(w62,w63,w64),bSn (bSv _ _ _ _).2.1 (by intro b hb;simp only [mem_append,mem_cons,not_mem_nil,or_false] at hb⊢;rcases hb with ((h|h)|h)|h|h<;>simp [h]) (sA rfl)⟩
  refine (aTr rfl rfl (by decide) underlying27 sizeOf70 fun g65=>?_)
  refine ox 0 rfl rfl (aTr rfl rfl (by decide) underlying26 sizeOf86 fun g66=>?_)
  refine ox 3 rfl rfl (jU [] Tryz.t86 24 rfl rfl (by decide) rfl rfl underlying26 (by kernel_rfl) rfl rfl rfl rfl (by decide) (aFz dB 2 (fun _=>rfl) p.globals) (by unfold maxLen;omega) (by omega) (Nat.zero_add p.globals.length) (fun hn b hb=>qM (r:=(⟨(.slice (some ⟨g66,0,none⟩) 0 0),86,2,0,[]⟩:bA)) (by simp) hn hb) (fun b hb=>by first|(simp [hb];done)|(simp only [aY,Value.ownBlock,Option.toList,mem_cons,not_mem_nil,or_false] at hb;simp [hb];done)) (List.nil_append _) fun w67=>?_)
  refine tz [(12,true)] 2 (go 2 ?_)
  refine ox 7 rfl rfl (jU [_] Tryz.t70 32 rfl rfl (by decide) rfl rfl underlying27 (by kernel_rfl) rfl rfl rfl rfl (by decide) (aFz bT 3 (fun _=>rfl) p.mutexes) (by unfold maxLen;omega) (by omega) (Nat.zero_add p.mutexes.length) (fun hn b hb=>qM (r:=(⟨(.slice (some ⟨g65,0,none⟩) 0 0),70,3,0,[]⟩:bA)) (by simp) hn hb) (fun b hb=>by first|(simp [hb];done)|(simp only [aY,Value.ownBlock,Option.toList,mem_cons,not_mem_nil,or_false] at hb;simp [hb];done)) (List.nil_append _) fun w68=>?_)
  refine ox 11 rfl rfl (jU [_,_] Tryz.t58 64 rfl rfl (by decide) rfl rfl underlying28 (by kernel_rfl) rfl rfl rfl rfl (by decide) (aFz fV 3 (fun _=>rfl) p.funcs) (by unfold maxLen;omega) (by omega) (Nat.zero_add p.funcs.length) (fun hn b hb=>qM (r:=(⟨(.slice (some ⟨g55,0,none⟩) 0 0),58,3,0,[]⟩:bA)) (by simp) hn hb) (fun b hb=>by first|(simp [hb];done)|(simp only [aY,Value.ownBlock,Option.toList,mem_cons,not_mem_nil,or_false] at hb;simp [hb];done)) (List.nil_append _) fun w69=>?_)
  refine ax ?_
  refine id ?_
  refine tz [(13,false),(14,true),(15,false),(16,true),(17,false)] 0 (go 6 ?_)
  refine ax ?_
  show ∃g:Value×Value×Value,Sub _ _
  exact ⟨(w67,w68,w69),bSn (List.Perm.refl _) (by intro b hb;simp only [mem_append,mem_cons,not_mem_nil,or_false] at hb⊢;rcases hb with ((h|h)|h)|h|h<;>simp [h]) (sA rfl)⟩
 rintro ⟨vG,vM,vF⟩
 show AWp prog _ ⟨137,(aY vG++aY vM++aY vF)++[b1,b2],⟨⟨b2,30,[.val (.slice none 0 0),.val (.slice none 0 0),.val (.slice none 0 0)]⟩::⟨b1,30,[.val vG,.val vM,.val vF]⟩::bx,⟨vG,86,2,p.globals.length,p.globals.flatMap dB⟩::⟨vM,70,3,p.mutexes.length,p.mutexes.flatMap bT⟩::⟨vF,58,3,p.funcs.length,p.funcs.flatMap fV⟩::rw⟩,[(1,.c (.val (.int .i64 which))),(2,.c (.val (.int .i64 a))),(3,.c (.val (.int .i64 how))),(4,.c (.val (.int .i64 x))),(5,pP b1),(10,pP b2)]⟩ _
 refine go 5 ?_
 refine wyz rfl (kV [_,_] rfl rfl rfl runUnderlying28) ?_
 obtain ⟨j1,hj1,hlj1⟩:=bEj (a) (((p.funcs.length:Nat):Int)) (by omega)
 refine wc0 rfl call12 rfl (bEl (a) (((p.funcs.length:Nat):Int)) j1 (by omega) (by omega) hj1 _) ?_
 rintro _ _ ⟨rfl,rfl⟩
 refine go 6 ?_
 have hj1:j1<p.funcs.length:=by omega
 have hfs:=hs.funcs p.funcs[j1] (getElem_mem hj1)
 have hfw:=aDi bS.wt p.funcs j1 hj1
 have hfw2:bS.wt p.funcs[j1]=1+p.funcs[j1].params.length+wtS p.funcs[j1].body:=rfl
 refine aF1 [_,_] (by omega) fun gF cF hgF=>?_
 subst hgF
 refine go 1 ?_
 obtain ⟨j2,hj2,hlj2⟩:=bEj (which) (12) (by omega)
 refine wc0 rfl call12 rfl (bEl (which) (12) j2 (by omega) (by omega) hj2 _) ?_
 rintro _ _ ⟨rfl,rfl⟩
 refine go 5 ?_
 by_cases h1:((j2:Nat):Int)=0
 ·refine wcp true rfl (eR h1) (go 4 ?_)
  refine dx [b2] (tz [(0,true),(2,true),(4,true)] 7 (go 4 ?_))
  refine t2 1 3 rfl ?_ ?_
  ·refine way rfl (by decide) (aX [_] rfl rfl rfl isAgg26 sizeOf26 rfl (fun _ h=>by cases h)) ?_
   refine ox 3 rfl rfl (bV rfl rfl (by decide) call48 rfl (bSo x _) ?_)
   rintro _ _ ⟨⟨y3,rfl,hy3⟩,rfl⟩
   refine tz [(5,true)] 4 (go 2 ?_)
   refine ox 6 rfl rfl (bDk bHf rfl (.cons rfl .nil) (r:=[(⟨y3,x⟩:aI)].flatMap dB) rfl ?_)
   refine ox 7 rfl rfl (bDm [] bDn rfl rfl (by decide) (by unfold maxLen;omega) (by omega) (@length_append _ p.globals [(⟨y3,x⟩:aI)]).symm (fun hn b hb=>qM (r:=(⟨vG,86,2,p.globals.length,p.globals.flatMap dB⟩:bA)) (by simp) hn hb) (fun b hb=>by first|(simp [hb];done)|(simp only [aY,Value.ownBlock,Option.toList,mem_cons,not_mem_nil,or_false] at hb;simp [hb];done)) (List.flatMap_append (f:=dB)).symm fun w70=>?_)
   refine tz [(8,true),(9,false)] 0 (go 3 ?_)
   refine ax (go 4 ?_)
   refine aAg [_] 0 rfl rfl ?_
   refine aAg [_] 1 rfl rfl ?_
   refine aAg [_] 2 rfl rfl ?_
   refine go 1 ?_
   refine eA 136 rfl (t:=.agg (jV (⟨(p.globals++[(⟨y3,x⟩:aI)]),p.mutexes,p.funcs⟩:cK))) (by unfold jV;(try simp only [List.length_set]);exact fun _ _ h=>h) (go 4 ?_)
   exact ⟨.inr rfl,_,⟨bx,rw⟩,aR rfl (aO [] rfl rfl isAgg30 sizeOf30 (bK rfl rfl)),aA (.cons _ (.cons _ (.refl _))) (.refl _),⟨(⟨(p.globals++[(⟨y3,x⟩:aI)]),p.mutexes,p.funcs⟩:cK),rfl,⟨⟨bSp hs.globals ⟨hx,by show y3.size <= _;omega⟩,hs.mutexes,hs.funcs⟩,by unfold cK.wt;dsimp only;rw [length_append];simp only [length_cons,length_nil];omega,by first|exact Nat.le_refl _|(rw [List.length_set];exact Nat.le_refl _)⟩⟩,rfl⟩
  refine (bV rfl rfl (by decide) call48 rfl (bSo x _) ?_)
  rintro _ _ ⟨⟨y4,rfl,hy4⟩,rfl⟩
  refine tz [(5,true)] 5 (go 2 ?_)
  refine t2 1 6 rfl ?_ ?_
  ·refine way rfl (by decide) (aX [_] rfl rfl rfl isAgg26 sizeOf26 rfl (fun _ h=>by cases h)) ?_
   refine ox 6 rfl rfl (bDk bHf rfl (.cons rfl .nil) (r:=[(⟨y4,x⟩:aI)].flatMap dB) rfl ?_)
   refine ox 7 rfl rfl (bDm [] bDn rfl rfl (by decide) (by unfold maxLen;omega) (by omega) (@length_append _ p.globals [(⟨y4,x⟩:aI)]).symm (fun hn b hb=>qM (r:=(⟨vG,86,2,p.globals.length,p.globals.flatMap dB⟩:bA)) (by simp) hn hb) (fun b hb=>by first|(simp [hb];done)|(simp only [aY,Value.ownBlock,Option.toList,mem_cons,not_mem_nil,or_false] at hb;simp [hb];done)) (List.flatMap_append (f:=dB)).symm fun w71=>?_)
   refine tz [(8,true),(9,false)] 0 (go 3 ?_)
   refine ax (go 4 ?_)
   refine aAg [_] 0 rfl rfl ?_
   refine aAg [_] 1 rfl rfl ?_
   refine aAg [_] 2 rfl rfl ?_
   refine go 1 ?_
   refine eA 136 rfl (t:=.agg (jV (⟨(p.globals++[(⟨y4,x⟩:aI)]),p.mutexes,p.funcs⟩:cK))) (by unfold jV;(try simp only [List.length_set]);exact fun _ _ h=>h) (go 4 ?_)
   exact ⟨.inr rfl,_,⟨bx,rw⟩,aR rfl (aO [] rfl rfl isAgg30 sizeOf30 (bK rfl rfl)),aA (.cons _ (.cons _ (.refl _))) (.refl _),⟨(⟨(p.globals++[(⟨y4,x⟩:aI)]),p.mutexes,p.funcs⟩:cK),rfl,⟨⟨bSp hs.globals ⟨hx,by show y4.size <= _;omega⟩,hs.mutexes,hs.funcs⟩,by unfold cK.wt;dsimp only;rw [length_append];simp only [length_cons,length_nil];omega,by first|exact Nat.le_refl _|(rw [List.length_set];exact Nat.le_refl _)⟩⟩,rfl⟩
  refine (bDk bHf rfl (.cons rfl .nil) (r:=[(⟨y4,x⟩:aI)].flatMap dB) rfl ?_)
  refine ox 1 rfl rfl (way rfl (by decide) (aX [_] rfl rfl rfl isAgg26 sizeOf26 rfl (fun _ h=>by cases h)) ?_)
  refine ox 7 rfl rfl (bDm [] bDn rfl rfl (by decide) (by unfold maxLen;omega) (by omega) (@length_append _ p.globals [(⟨y4,x⟩:aI)]).symm (fun hn b hb=>qM (r:=(⟨vG,86,2,p.globals.length,p.globals.flatMap dB⟩:bA)) (by simp) hn hb) (fun b hb=>by first|(simp [hb];done)|(simp only [aY,Value.ownBlock,Option.toList,mem_cons,not_mem_nil,or_false] at hb;simp [hb];done)) (List.flatMap_append (f:=dB)).symm fun w72=>?_)
  refine tz [(8,true),(9,false)] 0 (go 3 ?_)
  refine ax (go 4 ?_)
  refine aAg [_] 0 rfl rfl ?_
  refine aAg [_] 1 rfl rfl ?_
  refine aAg [_] 2 rfl rfl ?_
  refine go 1 ?_
  refine eA 136 rfl (t:=.agg (jV (⟨(p.globals++[(⟨y4,x⟩:aI)]),p.mutexes,p.funcs⟩:cK))) (by unfold jV;(try simp only [List.length_set]);exact fun _ _ h=>h) (go 4 ?_)
  exact ⟨.inr rfl,_,⟨bx,rw⟩,aR rfl (aO [] rfl rfl isAgg30 sizeOf30 (bK rfl rfl)),aA (.cons _ (.cons _ (.refl _))) (.refl _),⟨(⟨(p.globals++[(⟨y4,x⟩:aI)]),p.mutexes,p.funcs⟩:cK),rfl,⟨⟨bSp hs.globals ⟨hx,by show y4.size <= _;omega⟩,hs.mutexes,hs.funcs⟩,by unfold cK.wt;dsimp only;rw [length_append];simp only [length_cons,length_nil];omega,by first|exact Nat.le_refl _|(rw [List.length_set];exact Nat.le_refl _)⟩⟩,rfl⟩
 refine wcp false rfl (eD h1) (go 6 ?_)
 by_cases h6:((j2:Nat):Int)=1
 ·refine wcp true rfl (eR h6) (go 4 ?_)
  refine dx [b2] (tz [(0,true),(2,true),(4,true)] 13 (go 4 ?_))
  refine tx 5 rfl (bFn rfl rfl rfl) ?_
  by_cases h8:(bFm how 1)=1
  ·refine tx 6 rfl (bO true rfl rfl rfl (eR h8)) (tz [(7,true)] 10 (go 2 ?_))
   refine tx 8 rfl (bFd rfl rfl rfl) ?_
   refine t2 1 3 rfl ?_ ?_
   ·refine way rfl (by decide) (aX [_] rfl rfl rfl isAgg27 sizeOf27 rfl (fun _ h=>by cases h)) ?_
    refine ox 3 rfl rfl (bV rfl rfl (by decide) call48 rfl (bSo x _) ?_)
    rintro _ _ ⟨⟨y9,rfl,hy9⟩,rfl⟩
    obtain ⟨j3,hj3,hlj3⟩:=bEj ((how.fdiv 2)) (67) (by omega)
    refine ox 9 rfl rfl (bV rfl rfl (by decide) call12 rfl (bEl ((how.fdiv 2)) (67) j3 (by omega) (by omega) hj3 _) ?_)
    rintro _ _ ⟨rfl,rfl⟩
    refine tx 10 rfl (qC rfl rfl rfl (by omega) (by omega)) (tz [(11,true)] 4 (go 2 ?_))
    refine ox 12 rfl rfl (bDk zb8 rfl (.cons rfl .nil) (r:=[(⟨y9,true,(((j3:Nat):Int)-1)⟩:cL)].flatMap bT) rfl ?_)
    refine ox 13 rfl rfl (bDm [_] bWh rfl rfl (by decide) (by unfold maxLen;omega) (by omega) (@length_append _ p.mutexes [(⟨y9,true,(((j3:Nat):Int)-1)⟩:cL)]).symm (fun hn b hb=>qM (r:=(⟨vM,70,3,p.mutexes.length,p.mutexes.flatMap bT⟩:bA)) (by simp) hn hb) (fun b hb=>by first|(simp [hb];done)|(simp only [aY,Value.ownBlock,Option.toList,mem_cons,not_mem_nil,or_false] at hb;simp [hb];done)) (List.flatMap_append (f:=bT)).symm fun w73=>?_)
    refine tz [(14,true),(15,false)] 0 (go 3 ?_)
    refine ax (go 4 ?_)
    refine aAg [_] 0 rfl rfl ?_
    refine aAg [_] 1 rfl rfl ?_
    refine aAg [_] 2 rfl rfl ?_
    refine go 1 ?_
    refine eA 136 rfl (t:=.agg (jV (⟨p.globals,(p.mutexes++[(⟨y9,true,(((j3:Nat):Int)-1)⟩:cL)]),p.funcs⟩:cK))) (by unfold jV;(try simp only [List.length_set]);exact fun _ _ h=>h) (go 4 ?_)
    exact ⟨.inr rfl,_,⟨bx,rw⟩,aR rfl (aO [] rfl rfl isAgg30 sizeOf30 (bK rfl rfl)),aA (.cons _ (.cons _ (.refl _))) (.refl _),⟨(⟨p.globals,(p.mutexes++[(⟨y9,true,(((j3:Nat):Int)-1)⟩:cL)]),p.funcs⟩:cK),rfl,⟨⟨hs.globals,bSp hs.mutexes ⟨by unfold fit;dsimp only;omega,by show y9.size <= _;omega⟩,hs.funcs⟩,by unfold cK.wt;dsimp only;rw [length_append];simp only [length_cons,length_nil];omega,by first|exact Nat.le_refl _|(rw [List.length_set];exact Nat.le_refl _)⟩⟩,rfl⟩
   refine (bV rfl rfl (by decide) call48 rfl (bSo x _) ?_)
   rintro _ _ ⟨⟨y10,rfl,hy10⟩,rfl⟩
   refine t2 1 9 rfl ?_ ?_
   ·refine way rfl (by decide) (aX [_] rfl rfl rfl isAgg27 sizeOf27 rfl (fun _ h=>by cases h)) ?_
    obtain ⟨j3,hj3,hlj3⟩:=bEj ((how.fdiv 2)) (67) (by omega)
    refine ox 9 rfl rfl (bV rfl rfl (by decide) call12 rfl (bEl ((how.fdiv 2)) (67) j3 (by omega) (by omega) hj3 _) ?_)
    rintro _ _ ⟨rfl,rfl⟩
    refine tx 10 rfl (qC rfl rfl rfl (by omega) (by omega)) (tz [(11,true)] 4 (go 2 ?_))
    refine ox 12 rfl rfl (bDk zb8 rfl (.cons rfl .nil) (r:=[(⟨y10,true,(((j3:Nat):Int)-1)⟩:cL)].flatMap bT) rfl ?_)
    refine ox 13 rfl rfl (bDm [_] bWh rfl rfl (by decide) (by unfold maxLen;omega) (by omega) (@length_append _ p.mutexes [(⟨y10,true,(((j3:Nat):Int)-1)⟩:cL)]).symm (fun hn b hb=>qM (r:=(⟨vM,70,3,p.mutexes.length,p.mutexes.flatMap bT⟩:bA)) (by simp) hn hb) (fun b hb=>by first|(simp [hb];done)|(simp only [aY,Value.ownBlock,Option.toList,mem_cons,not_mem_nil,or_false] at hb;simp [hb];done)) (List.flatMap_append (f:=bT)).symm fun w74=>?_)
    refine tz [(14,true),(15,false)] 0 (go 3 ?_)
    refine ax (go 4 ?_)
    refine aAg [_] 0 rfl rfl ?_
    refine aAg [_] 1 rfl rfl ?_
    refine aAg [_] 2 rfl rfl ?_
    refine go 1 ?_
    refine eA 136 rfl (t:=.agg (jV (⟨p.globals,(p.mutexes++[(⟨y10,true,(((j3:Nat):Int)-1)⟩:cL)]),p.funcs⟩:cK))) (by unfold jV;(try simp only [List.length_set]);exact fun _ _ h=>h) (go 4 ?_)
    exact ⟨.inr rfl,_,⟨bx,rw⟩,aR rfl (aO [] rfl rfl isAgg30 sizeOf30 (bK rfl rfl)),aA (.cons _ (.cons _ (.refl _))) (.refl _),⟨(⟨p.globals,(p.mutexes++[(⟨y10,true,(((j3:Nat):Int)-1)⟩:cL)]),p.funcs⟩:cK),rfl,⟨⟨hs.globals,bSp hs.mutexes ⟨by unfold fit;dsimp only;omega,by show y10.size <= _;omega⟩,hs.funcs⟩,by unfold cK.wt;dsimp only;rw [length_append];simp only [length_cons,length_nil];omega,by first|exact Nat.le_refl _|(rw [List.length_set];exact Nat.le_refl _)⟩⟩,rfl⟩
   obtain ⟨j3,hj3,hlj3⟩:=bEj ((how.fdiv 2)) (67) (by omega)
   refine (bV rfl rfl (by decide) call12 rfl (bEl ((how.fdiv 2)) (67) j3 (by omega) (by omega) hj3 _) ?_)
   rintro _ _ ⟨rfl,rfl⟩
   refine tx 10 rfl (qC rfl rfl rfl (by omega) (by omega)) (tz [(11,true)] 5 (go 2 ?_))
   refine t2 1 12 rfl ?_ ?_
   ·refine way rfl (by decide) (aX [_] rfl rfl rfl isAgg27 sizeOf27 rfl (fun _ h=>by cases h)) ?_
    refine ox 12 rfl rfl (bDk zb8 rfl (.cons rfl .nil) (r:=[(⟨y10,true,(((j3:Nat):Int)-1)⟩:cL)].flatMap bT) rfl ?_)
    refine ox 13 rfl rfl (bDm [_] bWh rfl rfl (by decide) (by unfold maxLen;omega) (by omega) (@length_append _ p.mutexes [(⟨y10,true,(((j3:Nat):Int)-1)⟩:cL)]).symm (fun hn b hb=>qM (r:=(⟨vM,70,3,p.mutexes.length,p.mutexes.flatMap bT⟩:bA)) (by simp) hn hb) (fun b hb=>by first|(simp [hb];done)|(simp only [aY,Value.ownBlock,Option.toList,mem_cons,not_mem_nil,or_false] at hb;simp [hb];done)) (List.flatMap_append (f:=bT)).symm fun w75=>?_)
    refine tz [(14,true),(15,false)] 0 (go 3 ?_)
    refine ax (go 4 ?_)
    refine aAg [_] 0 rfl rfl ?_
    refine aAg [_] 1 rfl rfl ?_
    refine aAg [_] 2 rfl rfl ?_
    refine go 1 ?_
    refine eA 136 rfl (t:=.agg (jV (⟨p.globals,(p.mutexes++[(⟨y10,true,(((j3:Nat):Int)-1)⟩:cL)]),p.funcs⟩:cK))) (by unfold jV;(try simp only [List.length_set]);exact fun _ _ h=>h) (go 4 ?_)
    exact ⟨.inr rfl,_,⟨bx,rw⟩,aR rfl (aO [] rfl rfl isAgg30 sizeOf30 (bK rfl rfl)),aA (.cons _ (.cons _ (.refl _))) (.refl _),⟨(⟨p.globals,(p.mutexes++[(⟨y10,true,(((j3:Nat):Int)-1)⟩:cL)]),p.funcs⟩:cK),rfl,⟨⟨hs.globals,bSp hs.mutexes ⟨by unfold fit;dsimp only;omega,by show y10.size <= _;omega⟩,hs.funcs⟩,by unfold cK.wt;dsimp only;rw [length_append];simp only [length_cons,length_nil];omega,by first|exact Nat.le_refl _|(rw [List.length_set];exact Nat.le_refl _)⟩⟩,rfl⟩
   refine (bDk zb8 rfl (.cons rfl .nil) (r:=[(⟨y10,true,(((j3:Nat):Int)-1)⟩:cL)].flatMap bT) rfl ?_)
   refine ox 1 rfl rfl (way rfl (by decide) (aX [_] rfl rfl rfl isAgg27 sizeOf27 rfl (fun _ h=>by cases h)) ?_)
   refine ox 13 rfl rfl (bDm [_] bWh rfl rfl (by decide) (by unfold maxLen;omega) (by omega) (@length_append _ p.mutexes [(⟨y10,true,(((j3:Nat):Int)-1)⟩:cL)]).symm (fun hn b hb=>qM (r:=(⟨vM,70,3,p.mutexes.length,p.mutexes.flatMap bT⟩:bA)) (by simp) hn hb) (fun b hb=>by first|(simp [hb];done)|(simp only [aY,Value.ownBlock,Option.toList,mem_cons,not_mem_nil,or_false] at hb;simp [hb];done)) (List.flatMap_append (f:=bT)).symm fun w76=>?_)
   refine tz [(14,true),(15,false)] 0 (go 3 ?_)
   refine ax (go 4 ?_)
   refine aAg [_] 0 rfl rfl ?_
   refine aAg [_] 1 rfl rfl ?_
   refine aAg [_] 2 rfl rfl ?_
   refine go 1 ?_
   refine eA 136 rfl (t:=.agg (jV (⟨p.globals,(p.mutexes++[(⟨y10,true,(((j3:Nat):Int)-1)⟩:cL)]),p.funcs⟩:cK))) (by unfold jV;(try simp only [List.length_set]);exact fun _ _ h=>h) (go 4 ?_)
   exact ⟨.inr rfl,_,⟨bx,rw⟩,aR rfl (aO [] rfl rfl isAgg30 sizeOf30 (bK rfl rfl)),aA (.cons _ (.cons _ (.refl _))) (.refl _),⟨(⟨p.globals,(p.mutexes++[(⟨y10,true,(((j3:Nat):Int)-1)⟩:cL)]),p.funcs⟩:cK),rfl,⟨⟨hs.globals,bSp hs.mutexes ⟨by unfold fit;dsimp only;omega,by show y10.size <= _;omega⟩,hs.funcs⟩,by unfold cK.wt;dsimp only;rw [length_append];simp only [length_cons,length_nil];omega,by first|exact Nat.le_refl _|(rw [List.length_set];exact Nat.le_refl _)⟩⟩,rfl⟩
  refine tx 6 rfl (bO false rfl rfl rfl (eD h8)) (tz [(7,true)] 10 (go 2 ?_))
  refine tx 8 rfl (bFd rfl rfl rfl) ?_
  refine t2 1 3 rfl ?_ ?_
  ·refine way rfl (by decide) (aX [_] rfl rfl rfl isAgg27 sizeOf27 rfl (fun _ h=>by cases h)) ?_
   refine ox 3 rfl rfl (bV rfl rfl (by decide) call48 rfl (bSo x _) ?_)
   rintro _ _ ⟨⟨y11,rfl,hy11⟩,rfl⟩
   obtain ⟨j3,hj3,hlj3⟩:=bEj ((how.fdiv 2)) (67) (by omega)
   refine ox 9 rfl rfl (bV rfl rfl (by decide) call12 rfl (bEl ((how.fdiv 2)) (67) j3 (by omega) (by omega) hj3 _) ?_)
   rintro _ _ ⟨rfl,rfl⟩
   refine tx 10 rfl (qC rfl rfl rfl (by omega) (by omega)) (tz [(11,true)] 4 (go 2 ?_))
   refine ox 12 rfl rfl (bDk zb8 rfl (.cons rfl .nil) (r:=[(⟨y11,false,(((j3:Nat):Int)-1)⟩:cL)].flatMap bT) rfl ?_)
   refine ox 13 rfl rfl (bDm [_] bWh rfl rfl (by decide) (by unfold maxLen;omega) (by omega) (@length_append _ p.mutexes [(⟨y11,false,(((j3:Nat):Int)-1)⟩:cL)]).symm (fun hn b hb=>qM (r:=(⟨vM,70,3,p.mutexes.length,p.mutexes.flatMap bT⟩:bA)) (by simp) hn hb) (fun b hb=>by first|(simp [hb];done)|(simp only [aY,Value.ownBlock,Option.toList,mem_cons,not_mem_nil,or_false] at hb;simp [hb];done)) (List.flatMap_append (f:=bT)).symm fun w77=>?_)
   refine tz [(14,true),(15,false)] 0 (go 3 ?_)
   refine ax (go 4 ?_)
   refine aAg [_] 0 rfl rfl ?_
   refine aAg [_] 1 rfl rfl ?_
   refine aAg [_] 2 rfl rfl ?_
   refine go 1 ?_
   refine eA 136 rfl (t:=.agg (jV (⟨p.globals,(p.mutexes++[(⟨y11,false,(((j3:Nat):Int)-1)⟩:cL)]),p.funcs⟩:cK))) (by unfold jV;(try simp only [List.length_set]);exact fun _ _ h=>h) (go 4 ?_)
   exact ⟨.inr rfl,_,⟨bx,rw⟩,aR rfl (aO [] rfl rfl isAgg30 sizeOf30 (bK rfl rfl)),aA (.cons _ (.cons _ (.refl _))) (.refl _),⟨(⟨p.globals,(p.mutexes++[(⟨y11,false,(((j3:Nat):Int)-1)⟩:cL)]),p.funcs⟩:cK),rfl,⟨⟨hs.globals,bSp hs.mutexes ⟨by unfold fit;dsimp only;omega,by show y11.size <= _;omega⟩,hs.funcs⟩,by unfold cK.wt;dsimp only;rw [length_append];simp only [length_cons,length_nil];omega,by first|exact Nat.le_refl _|(rw [List.length_set];exact Nat.le_refl _)⟩⟩,rfl⟩
  refine (bV rfl rfl (by decide) call48 rfl (bSo x _) ?_)
  rintro _ _ ⟨⟨y12,rfl,hy12⟩,rfl⟩
  refine t2 1 9 rfl ?_ ?_
  ·refine way rfl (by decide) (aX [_] rfl rfl rfl isAgg27 sizeOf27 rfl (fun _ h=>by cases h)) ?_
   obtain ⟨j3,hj3,hlj3⟩:=bEj ((how.fdiv 2)) (67) (by omega)
   refine ox 9 rfl rfl (bV rfl rfl (by decide) call12 rfl (bEl ((how.fdiv 2)) (67) j3 (by omega) (by omega) hj3 _) ?_)
   rintro _ _ ⟨rfl,rfl⟩
   refine tx 10 rfl (qC rfl rfl rfl (by omega) (by omega)) (tz [(11,true)] 4 (go 2 ?_))
   refine ox 12 rfl rfl (bDk zb8 rfl (.cons rfl .nil) (r:=[(⟨y12,false,(((j3:Nat):Int)-1)⟩:cL)].flatMap bT) rfl ?_)
   refine ox 13 rfl rfl (bDm [_] bWh rfl rfl (by decide) (by unfold maxLen;omega) (by omega) (@length_append _ p.mutexes [(⟨y12,false,(((j3:Nat):Int)-1)⟩:cL)]).symm (fun hn b hb=>qM (r:=(⟨vM,70,3,p.mutexes.length,p.mutexes.flatMap bT⟩:bA)) (by simp) hn hb) (fun b hb=>by first|(simp [hb];done)|(simp only [aY,Value.ownBlock,Option.toList,mem_cons,not_mem_nil,or_false] at hb;simp [hb];done)) (List.flatMap_append (f:=bT)).symm fun w78=>?_)
   refine tz [(14,true),(15,false)] 0 (go 3 ?_)
   refine ax (go 4 ?_)
   refine aAg [_] 0 rfl rfl ?_
   refine aAg [_] 1 rfl rfl ?_
   refine aAg [_] 2 rfl rfl ?_
   refine go 1 ?_
   refine eA 136 rfl (t:=.agg (jV (⟨p.globals,(p.mutexes++[(⟨y12,false,(((j3:Nat):Int)-1)⟩:cL)]),p.funcs⟩:cK))) (by unfold jV;(try simp only [List.length_set]);exact fun _ _ h=>h) (go 4 ?_)
   exact ⟨.inr rfl,_,⟨bx,rw⟩,aR rfl (aO [] rfl rfl isAgg30 sizeOf30 (bK rfl rfl)),aA (.cons _ (.cons _ (.refl _))) (.refl _),⟨(⟨p.globals,(p.mutexes++[(⟨y12,false,(((j3:Nat):Int)-1)⟩:cL)]),p.funcs⟩:cK),rfl,⟨⟨hs.globals,bSp hs.mutexes ⟨by unfold fit;dsimp only;omega,by show y12.size <= _;omega⟩,hs.funcs⟩,by unfold cK.wt;dsimp only;rw [length_append];simp only [length_cons,length_nil];omega,by first|exact Nat.le_refl _|(rw [List.length_set];exact Nat.le_refl _)⟩⟩,rfl⟩
  obtain ⟨j3,hj3,hlj3⟩:=bEj ((how.fdiv 2)) (67) (by omega)
  refine (bV rfl rfl (by decide) call12 rfl (bEl ((how.fdiv 2)) (67) j3 (by omega) (by omega) hj3 _) ?_)
  rintro _ _ ⟨rfl,rfl⟩
  refine tx 10 rfl (qC rfl rfl rfl (by omega) (by omega)) (tz [(11,true)] 5 (go 2 ?_))
  refine t2 1 12 rfl ?_ ?_
  ·refine way rfl (by decide) (aX [_] rfl rfl rfl isAgg27 sizeOf27 rfl (fun _ h=>by cases h)) ?_
   refine ox 12 rfl rfl (bDk zb8 rfl (.cons rfl .nil) (r:=[(⟨y12,false,(((j3:Nat):Int)-1)⟩:cL)].flatMap bT) rfl ?_)
   refine ox 13 rfl rfl (bDm [_] bWh rfl rfl (by decide) (by unfold maxLen;omega) (by omega) (@length_append _ p.mutexes [(⟨y12,false,(((j3:Nat):Int)-1)⟩:cL)]).symm (fun hn b hb=>qM (r:=(⟨vM,70,3,p.mutexes.length,p.mutexes.flatMap bT⟩:bA)) (by simp) hn hb) (fun b hb=>by first|(simp [hb];done)|(simp only [aY,Value.ownBlock,Option.toList,mem_cons,not_mem_nil,or_false] at hb;simp [hb];done)) (List.flatMap_append (f:=bT)).symm fun w79=>?_)
   refine tz [(14,true),(15,false)] 0 (go 3 ?_)
   refine ax (go 4 ?_)
   refine aAg [_] 0 rfl rfl ?_
   refine aAg [_] 1 rfl rfl ?_
   refine aAg [_] 2 rfl rfl ?_
   refine go 1 ?_
   refine eA 136 rfl (t:=.agg (jV (⟨p.globals,(p.mutexes++[(⟨y12,false,(((j3:Nat):Int)-1)⟩:cL)]),p.funcs⟩:cK))) (by unfold jV;(try simp only [List.length_set]);exact fun _ _ h=>h) (go 4 ?_)
   exact ⟨.inr rfl,_,⟨bx,rw⟩,aR rfl (aO [] rfl rfl isAgg30 sizeOf30 (bK rfl rfl)),aA (.cons _ (.cons _ (.refl _))) (.refl _),⟨(⟨p.globals,(p.mutexes++[(⟨y12,false,(((j3:Nat):Int)-1)⟩:cL)]),p.funcs⟩:cK),rfl,⟨⟨hs.globals,bSp hs.mutexes ⟨by unfold fit;dsimp only;omega,by show y12.size <= _;omega⟩,hs.funcs⟩,by unfold cK.wt;dsimp only;rw [length_append];simp only [length_cons,length_nil];omega,by first|exact Nat.le_refl _|(rw [List.length_set];exact Nat.le_refl _)⟩⟩,rfl⟩
  refine (bDk zb8 rfl (.cons rfl .nil) (r:=[(⟨y12,false,(((j3:Nat):Int)-1)⟩:cL)].flatMap bT) rfl ?_)
  refine ox 1 rfl rfl (way rfl (by decide) (aX [_] rfl rfl rfl isAgg27 sizeOf27 rfl (fun _ h=>by cases h)) ?_)
  refine ox 13 rfl rfl (bDm [_] bWh rfl rfl (by decide) (by unfold maxLen;omega) (by omega) (@length_append _ p.mutexes [(⟨y12,false,(((j3:Nat):Int)-1)⟩:cL)]).symm (fun hn b hb=>qM (r:=(⟨vM,70,3,p.mutexes.length,p.mutexes.flatMap bT⟩:bA)) (by simp) hn hb) (fun b hb=>by first|(simp [hb];done)|(simp only [aY,Value.ownBlock,Option.toList,mem_cons,not_mem_nil,or_false] at hb;simp [hb];done)) (List.flatMap_append (f:=bT)).symm fun w80=>?_)
  refine tz [(14,true),(15,false)] 0 (go 3 ?_)
  refine ax (go 4 ?_)
  refine aAg [_] 0 rfl rfl ?_
  refine aAg [_] 1 rfl rfl ?_
  refine aAg [_] 2 rfl rfl ?_
  refine go 1 ?_
  refine eA 136 rfl (t:=.agg (jV (⟨p.globals,(p.mutexes++[(⟨y12,false,(((j3:Nat):Int)-1)⟩:cL)]),p.funcs⟩:cK))) (by unfold jV;(try simp only [List.length_set]);exact fun _ _ h=>h) (go 4 ?_)
  exact ⟨.inr rfl,_,⟨bx,rw⟩,aR rfl (aO [] rfl rfl isAgg30 sizeOf30 (bK rfl rfl)),aA (.cons _ (.cons _ (.refl _))) (.refl _),⟨(⟨p.globals,(p.mutexes++[(⟨y12,false,(((j3:Nat):Int)-1)⟩:cL)]),p.funcs⟩:cK),rfl,⟨⟨hs.globals,bSp hs.mutexes ⟨by unfold fit;dsimp only;omega,by show y12.size <= _;omega⟩,hs.funcs⟩,by unfold cK.wt;dsimp only;rw [length_append];simp only [length_cons,length_nil];omega,by first|exact Nat.le_refl _|(rw [List.length_set];exact Nat.le_refl _)⟩⟩,rfl⟩
 refine wcp false rfl (eD h6) (go 6 ?_)
 by_cases h14:((j2:Nat):Int)=2
 ·refine wcp true rfl (eR h14) (go 4 ?_)
  refine dx [b2,b1] (tz [(0,true),(1,true),(2,true),(3,true)] 4 (go 5 ?_))
  refine ox 4 rfl rfl (bV rfl rfl (by decide) call48 rfl (bSo x _) ?_)
  rintro _ _ ⟨⟨y16,rfl,hy16⟩,rfl⟩
  refine tx 5 rfl (dH (z:=3) j1 rfl rfl rfl rfl hj1 runUnderlying28 sizeOf58) ?_
  refine tx 6 rfl (id <|uX 0 (0+j1*3+0) rfl rfl runUnderlying58 rfl sizeOf9 (by decide) rfl) ?_
  refine ox 7 rfl rfl (aO0 (r:=(p.funcs.set j1 (bUd p.funcs[j1] y16)).flatMap fV) [_,_] rfl rfl rfl rfl rfl sizeOf9 rfl (bSz hj1 0 1 (by decide)) (bS1 hj1 0 _ (by decide) rfl) (by simp [aY,Value.ownBlock]) (fun hn=>qM (r:=(⟨(.slice (some ⟨gF,0,none⟩) p.funcs.length cF),58,3,p.funcs.length,p.funcs.flatMap fV⟩:bA)) (by simp) hn (by simp [aY,Value.ownBlock])) ?_)
  refine ax (go 4 ?_)
  refine aAg [_] 0 rfl rfl ?_
  refine aAg [_] 1 rfl rfl ?_
  refine aAg [_] 2 rfl rfl ?_
  refine go 1 ?_
  refine eA 136 rfl (t:=.agg (jV (⟨p.globals,p.mutexes,(p.funcs.set j1 (bUd p.funcs[j1] y16))⟩:cK))) (by unfold jV;(try simp only [List.length_set]);exact fun _ _ h=>h) (go 4 ?_)
  exact ⟨.inr rfl,_,⟨bx,rw⟩,aR rfl (aO [] rfl rfl isAgg30 sizeOf30 (bK rfl rfl)),aA (.cons _ (.cons _ (.refl _))) (.refl _),⟨(⟨p.globals,p.mutexes,(p.funcs.set j1 (bUd p.funcs[j1] y16))⟩:cK),rfl,⟨⟨hs.globals,hs.mutexes,bS0 hs.funcs ⟨by show y16.size <= _;omega,hfs.2.1,hfs.2.2⟩⟩,by unfold cK.wt;dsimp only;have h8:=bSw p.funcs j1 (bUd p.funcs[j1] y16);have h9:bS.wt (bUd p.funcs[j1] y16)=bS.wt p.funcs[j1]:=rfl;unfold wtF at h8;omega,by first|exact Nat.le_refl _|(rw [List.length_set];exact Nat.le_refl _)⟩⟩,rfl⟩
 refine wcp false rfl (eD h14) (go 6 ?_)
 by_cases h18:((j2:Nat):Int)=3
 ·refine wcp true rfl (eR h18) (go 4 ?_)
  refine dx [b2,b1] (tz [(0,true),(1,true),(2,true),(4,true),(5,true),(6,true)] 16 (go 7 ?_))
  refine tx 7 rfl (dH (z:=3) j1 rfl rfl rfl rfl hj1 runUnderlying28 sizeOf58) ?_
  refine tx 8 rfl (id <|uX 1 (0+j1*3+1) rfl rfl runUnderlying58 rfl sizeOf55 (by decide) rfl) (tz [(11,true),(13,true)] 12 (go 3 ?_))
  refine tx 14 rfl (bFn rfl rfl rfl) ?_
  by_cases h20:(bFm how 1)=1
  ·refine tx 15 rfl (bO true rfl rfl rfl (eR h20)) ?_
   refine t2 3 9 rfl ?_ ?_
   ·refine (aTr rfl rfl (by decide) underlying55 sizeOf89 fun g81=>?_)
    refine ox 9 rfl rfl (way rfl (by decide) (rM [_,_,_] rfl rfl rfl isAgg55 sizeOf55 (bTd hj1 1 _ rfl) (fun _ h=>by cases h)) ?_)
    refine ox 10 rfl rfl (jU [] Tryz.t89 24 rfl rfl (by decide) rfl rfl underlying55 (by kernel_rfl) rfl rfl rfl rfl (by decide) (aFz cP 2 (fun _=>rfl) p.funcs[j1].params) (by unfold maxLen;omega) (by omega) (Nat.zero_add p.funcs[j1].params.length) (fun hn b hb=>qM (r:=(⟨(.slice (some ⟨g81,0,none⟩) 0 0),89,2,0,[]⟩:bA)) (by simp) hn hb) (fun b hb=>by first|(simp [hb];done)|(simp only [aY,Value.ownBlock,Option.toList,mem_cons,not_mem_nil,or_false] at hb;simp [hb];done)) (List.nil_append _) fun w82=>?_)
    refine ox 12 rfl rfl (bV rfl rfl (by decide) call48 rfl (bSo x _) ?_)
    rintro _ _ ⟨⟨y21,rfl,hy21⟩,rfl⟩
    refine tz [(16,true)] 5 (go 2 ?_)
    refine ox 17 rfl rfl (bDk bLv rfl (.cons rfl .nil) (r:=[(⟨y21,true⟩:aS)].flatMap cP) rfl ?_)
    refine ox 18 rfl rfl (bDm [] bDt rfl rfl (by decide) (by unfold maxLen;omega) (by omega) (@length_append _ p.funcs[j1].params [(⟨y21,true⟩:aS)]).symm (fun hn b hb=>qM (r:=(⟨w82,89,2,p.funcs[j1].params.length,p.funcs[j1].params.flatMap cP⟩:bA)) (by simp) hn hb) (fun b hb=>by first|(simp [hb];done)|(simp only [aY,Value.ownBlock,Option.toList,mem_cons,not_mem_nil,or_false] at hb;simp [hb];done)) (List.flatMap_append (f:=cP)).symm fun w83=>?_)
    refine bUv 121 rfl ?_
    refine tx 19 rfl (dH (z:=3) j1 rfl rfl rfl rfl hj1 runUnderlying28 sizeOf58) ?_
    refine tx 20 rfl (id <|uX 1 (0+j1*3+1) rfl rfl runUnderlying58 rfl sizeOf55 (by decide) rfl) ?_
    refine ox 21 rfl rfl (aO0 (r:=(p.funcs.set j1 (bSt p.funcs[j1] (p.funcs[j1].params++[(⟨y21,true⟩:aS)]))).flatMap fV) [_,_] rfl rfl rfl rfl rfl sizeOf55 rfl (bSz hj1 1 1 (by decide)) (bS1 hj1 1 _ (by decide) rfl) (by simp [aY,Value.ownBlock]) (fun hn=>qM (r:=(⟨(.slice (some ⟨gF,0,none⟩) p.funcs.length cF),58,3,p.funcs.length,p.funcs.flatMap fV⟩:bA)) (by simp) hn (by simp [aY,Value.ownBlock])) ?_)
    refine ax (go 4 ?_)
    refine aAg [_] 0 rfl rfl ?_
    refine aAg [_] 1 rfl rfl ?_
    refine aAg [_] 2 rfl rfl ?_
    refine go 1 ?_
    refine eA 136 rfl (t:=.agg (jV (⟨p.globals,p.mutexes,(p.funcs.set j1 (bSt p.funcs[j1] (p.funcs[j1].params++[(⟨y21,true⟩:aS)])))⟩:cK))) (by unfold jV;(try simp only [List.length_set]);exact fun _ _ h=>h) (go 4 ?_)
    exact ⟨.inr rfl,_,⟨bx,rw⟩,aR rfl (aO [] rfl rfl isAgg30 sizeOf30 (bK rfl rfl)),aA (.cons _ (.cons _ (.refl _))) (.refl _),⟨(⟨p.globals,p.mutexes,(p.funcs.set j1 (bSt p.funcs[j1] (p.funcs[j1].params++[(⟨y21,true⟩:aS)])))⟩:cK),rfl,⟨⟨hs.globals,hs.mutexes,bS0 hs.funcs ⟨hfs.1,bSp hfs.2.1 (by show y21.size <= _;omega),hfs.2.2⟩⟩,by unfold cK.wt;dsimp only;have h8:=bSw p.funcs j1 (bSt p.funcs[j1] (p.funcs[j1].params++[(⟨y21,true⟩:aS)]));have h9:bS.wt (bSt p.funcs[j1] (p.funcs[j1].params++[(⟨y21,true⟩:aS)]))=bS.wt p.funcs[j1]+1:=(by unfold bS.wt bSt;simp only [length_append,length_cons,length_nil];omega);unfold wtF at h8;omega,by first|exact Nat.le_refl _|(rw [List.length_set];exact Nat.le_refl _)⟩⟩,rfl⟩
   refine way rfl (by decide) (rM [_,_] rfl rfl rfl isAgg55 sizeOf55 (bTd hj1 1 _ rfl) (fun _ h=>by cases h)) ?_
   refine ox 3 rfl rfl (aTr rfl rfl (by decide) underlying55 sizeOf89 fun g84=>?_)
   refine ox 10 rfl rfl (jU [] Tryz.t89 24 rfl rfl (by decide) rfl rfl underlying55 (by kernel_rfl) rfl rfl rfl rfl (by decide) (aFz cP 2 (fun _=>rfl) p.funcs[j1].params) (by unfold maxLen;omega) (by omega) (Nat.zero_add p.funcs[j1].params.length) (fun hn b hb=>qM (r:=(⟨(.slice (some ⟨g84,0,none⟩) 0 0),89,2,0,[]⟩:bA)) (by simp) hn hb) (fun b hb=>by first|(simp [hb];done)|(simp only [aY,Value.ownBlock,Option.toList,mem_cons,not_mem_nil,or_false] at hb;simp [hb];done)) (List.nil_append _) fun w85=>?_)
   refine ox 12 rfl rfl (bV rfl rfl (by decide) call48 rfl (bSo x _) ?_)
   rintro _ _ ⟨⟨y22,rfl,hy22⟩,rfl⟩
   refine tz [(16,true)] 5 (go 2 ?_)
   refine ox 17 rfl rfl (bDk bLv rfl (.cons rfl .nil) (r:=[(⟨y22,true⟩:aS)].flatMap cP) rfl ?_)
   refine ox 18 rfl rfl (bDm [] bDt rfl rfl (by decide) (by unfold maxLen;omega) (by omega) (@length_append _ p.funcs[j1].params [(⟨y22,true⟩:aS)]).symm (fun hn b hb=>qM (r:=(⟨w85,89,2,p.funcs[j1].params.length,p.funcs[j1].params.flatMap cP⟩:bA)) (by simp) hn hb) (fun b hb=>by first|(simp [hb];done)|(simp only [aY,Value.ownBlock,Option.toList,mem_cons,not_mem_nil,or_false] at hb;simp [hb];done)) (List.flatMap_append (f:=cP)).symm fun w86=>?_)
   refine bUv 121 rfl ?_
   refine tx 19 rfl (dH (z:=3) j1 rfl rfl rfl rfl hj1 runUnderlying28 sizeOf58) ?_
   refine tx 20 rfl (id <|uX 1 (0+j1*3+1) rfl rfl runUnderlying58 rfl sizeOf55 (by decide) rfl) ?_
   refine ox 21 rfl rfl (aO0 (r:=(p.funcs.set j1 (bSt p.funcs[j1] (p.funcs[j1].params++[(⟨y22,true⟩:aS)]))).flatMap fV) [_,_] rfl rfl rfl rfl rfl sizeOf55 rfl (bSz hj1 1 1 (by decide)) (bS1 hj1 1 _ (by decide) rfl) (by simp [aY,Value.ownBlock]) (fun hn=>qM (r:=(⟨(.slice (some ⟨gF,0,none⟩) p.funcs.length cF),58,3,p.funcs.length,p.funcs.flatMap fV⟩:bA)) (by simp) hn (by simp [aY,Value.ownBlock])) ?_)
   refine ax (go 4 ?_)
   refine aAg [_] 0 rfl rfl ?_
   refine aAg [_] 1 rfl rfl ?_
   refine aAg [_] 2 rfl rfl ?_
   refine go 1 ?_
   refine eA 136 rfl (t:=.agg (jV (⟨p.globals,p.mutexes,(p.funcs.set j1 (bSt p.funcs[j1] (p.funcs[j1].params++[(⟨y22,true⟩:aS)])))⟩:cK))) (by unfold jV;(try simp only [List.length_set]);exact fun _ _ h=>h) (go 4 ?_)
   exact ⟨.inr rfl,_,⟨bx,rw⟩,aR rfl (aO [] rfl rfl isAgg30 sizeOf30 (bK rfl rfl)),aA (.cons _ (.cons _ (.refl _))) (.refl _),⟨(⟨p.globals,p.mutexes,(p.funcs.set j1 (bSt p.funcs[j1] (p.funcs[j1].params++[(⟨y22,true⟩:aS)])))⟩:cK),rfl,⟨⟨hs.globals,hs.mutexes,bS0 hs.funcs ⟨hfs.1,bSp hfs.2.1 (by show y22.size <= _;omega),hfs.2.2⟩⟩,by unfold cK.wt;dsimp only;have h8:=bSw p.funcs j1 (bSt p.funcs[j1] (p.funcs[j1].params++[(⟨y22,true⟩:aS)]));have h9:bS.wt (bSt p.funcs[j1] (p.funcs[j1].params++[(⟨y22,true⟩:aS)]))=bS.wt p.funcs[j1]+1:=(by unfold bS.wt bSt;simp only [length_append,length_cons,length_nil];omega);unfold wtF at h8;omega,by first|exact Nat.le_refl _|(rw [List.length_set];exact Nat.le_refl _)⟩⟩,rfl⟩
  refine tx 15 rfl (bO false rfl rfl rfl (eD h20)) ?_
  refine t2 3 9 rfl ?_ ?_
  ·refine (aTr rfl rfl (by decide) underlying55 sizeOf89 fun g87=>?_)
   refine ox 9 rfl rfl (way rfl (by decide) (rM [_,_,_] rfl rfl rfl isAgg55 sizeOf55 (bTd hj1 1 _ rfl) (fun _ h=>by cases h)) ?_)
   refine ox 10 rfl rfl (jU [] Tryz.t89 24 rfl rfl (by decide) rfl rfl underlying55 (by kernel_rfl) rfl rfl rfl rfl (by decide) (aFz cP 2 (fun _=>rfl) p.funcs[j1].params) (by unfold maxLen;omega) (by omega) (Nat.zero_add p.funcs[j1].params.length) (fun hn b hb=>qM (r:=(⟨(.slice (some ⟨g87,0,none⟩) 0 0),89,2,0,[]⟩:bA)) (by simp) hn hb) (fun b hb=>by first|(simp [hb];done)|(simp only [aY,Value.ownBlock,Option.toList,mem_cons,not_mem_nil,or_false] at hb;simp [hb];done)) (List.nil_append _) fun w88=>?_)
   refine ox 12 rfl rfl (bV rfl rfl (by decide) call48 rfl (bSo x _) ?_)
   rintro _ _ ⟨⟨y23,rfl,hy23⟩,rfl⟩
   refine tz [(16,true)] 5 (go 2 ?_)
   refine ox 17 rfl rfl (bDk bLv rfl (.cons rfl .nil) (r:=[(⟨y23,false⟩:aS)].flatMap cP) rfl ?_)
   refine ox 18 rfl rfl (bDm [] bDt rfl rfl (by decide) (by unfold maxLen;omega) (by omega) (@length_append _ p.funcs[j1].params [(⟨y23,false⟩:aS)]).symm (fun hn b hb=>qM (r:=(⟨w88,89,2,p.funcs[j1].params.length,p.funcs[j1].params.flatMap cP⟩:bA)) (by simp) hn hb) (fun b hb=>by first|(simp [hb];done)|(simp only [aY,Value.ownBlock,Option.toList,mem_cons,not_mem_nil,or_false] at hb;simp [hb];done)) (List.flatMap_append (f:=cP)).symm fun w89=>?_)
   refine bUv 121 rfl ?_
   refine tx 19 rfl (dH (z:=3) j1 rfl rfl rfl rfl hj1 runUnderlying28 sizeOf58) ?_
   refine tx 20 rfl (id <|uX 1 (0+j1*3+1) rfl rfl runUnderlying58 rfl sizeOf55 (by decide) rfl) ?_
   refine ox 21 rfl rfl (aO0 (r:=(p.funcs.set j1 (bSt p.funcs[j1] (p.funcs[j1].params++[(⟨y23,false⟩:aS)]))).flatMap fV) [_,_] rfl rfl rfl rfl rfl sizeOf55 rfl (bSz hj1 1 1 (by decide)) (bS1 hj1 1 _ (by decide) rfl) (by simp [aY,Value.ownBlock]) (fun hn=>qM (r:=(⟨(.slice (some ⟨gF,0,none⟩) p.funcs.length cF),58,3,p.funcs.length,p.funcs.flatMap fV⟩:bA)) (by simp) hn (by simp [aY,Value.ownBlock])) ?_)
   refine ax (go 4 ?_)
   refine aAg [_] 0 rfl rfl ?_
   refine aAg [_] 1 rfl rfl ?_
   refine aAg [_] 2 rfl rfl ?_
   refine go 1 ?_
   refine eA 136 rfl (t:=.agg (jV (⟨p.globals,p.mutexes,(p.funcs.set j1 (bSt p.funcs[j1] (p.funcs[j1].params++[(⟨y23,false⟩:aS)])))⟩:cK))) (by unfold jV;(try simp only [List.length_set]);exact fun _ _ h=>h) (go 4 ?_)
   exact ⟨.inr rfl,_,⟨bx,rw⟩,aR rfl (aO [] rfl rfl isAgg30 sizeOf30 (bK rfl rfl)),aA (.cons _ (.cons _ (.refl _))) (.refl _),⟨(⟨p.globals,p.mutexes,(p.funcs.set j1 (bSt p.funcs[j1] (p.funcs[j1].params++[(⟨y23,false⟩:aS)])))⟩:cK),rfl,⟨⟨hs.globals,hs.mutexes,bS0 hs.funcs ⟨hfs.1,bSp hfs.2.1 (by show y23.size <= _;omega),hfs.2.2⟩⟩,by unfold cK.wt;dsimp only;have h8:=bSw p.funcs j1 (bSt p.funcs[j1] (p.funcs[j1].params++[(⟨y23,false⟩:aS)]));have h9:bS.wt (bSt p.funcs[j1] (p.funcs[j1].params++[(⟨y23,false⟩:aS)]))=bS.wt p.funcs[j1]+1:=(by unfold bS.wt bSt;simp only [length_append,length_cons,length_nil];omega);unfold wtF at h8;omega,by first|exact Nat.le_refl _|(rw [List.length_set];exact Nat.le_refl _)⟩⟩,rfl⟩
  refine way rfl (by decide) (rM [_,_] rfl rfl rfl isAgg55 sizeOf55 (bTd hj1 1 _ rfl) (fun _ h=>by cases h)) ?_
  refine ox 3 rfl rfl (aTr rfl rfl (by decide) underlying55 sizeOf89 fun g90=>?_)
  refine ox 10 rfl rfl (jU [] Tryz.t89 24 rfl rfl (by decide) rfl rfl underlying55 (by kernel_rfl) rfl rfl rfl rfl (by decide) (aFz cP 2 (fun _=>rfl) p.funcs[j1].params) (by unfold maxLen;omega) (by omega) (Nat.zero_add p.funcs[j1].params.length) (fun hn b hb=>qM (r:=(⟨(.slice (some ⟨g90,0,none⟩) 0 0),89,2,0,[]⟩:bA)) (by simp) hn hb) (fun b hb=>by first|(simp [hb];done)|(simp only [aY,Value.ownBlock,Option.toList,mem_cons,not_mem_nil,or_false] at hb;simp [hb];done)) (List.nil_append _) fun w91=>?_)
  refine ox 12 rfl rfl (bV rfl rfl (by decide) call48 rfl (bSo x _) ?_)
  rintro _ _ ⟨⟨y24,rfl,hy24⟩,rfl⟩
  refine tz [(16,true)] 5 (go 2 ?_)
  refine ox 17 rfl rfl (bDk bLv rfl (.cons rfl .nil) (r:=[(⟨y24,false⟩:aS)].flatMap cP) rfl ?_)
  refine ox 18 rfl rfl (bDm [] bDt rfl rfl (by decide) (by unfold maxLen;omega) (by omega) (@length_append _ p.funcs[j1].params [(⟨y24,false⟩:aS)]).symm (fun hn b hb=>qM (r:=(⟨w91,89,2,p.funcs[j1].params.length,p.funcs[j1].params.flatMap cP⟩:bA)) (by simp) hn hb) (fun b hb=>by first|(simp [hb];done)|(simp only [aY,Value.ownBlock,Option.toList,mem_cons,not_mem_nil,or_false] at hb;simp [hb];done)) (List.flatMap_append (f:=cP)).symm fun w92=>?_)
  refine bUv 121 rfl ?_
  refine tx 19 rfl (dH (z:=3) j1 rfl rfl rfl rfl hj1 runUnderlying28 sizeOf58) ?_
  refine tx 20 rfl (id <|uX 1 (0+j1*3+1) rfl rfl runUnderlying58 rfl sizeOf55 (by decide) rfl) ?_
  refine ox 21 rfl rfl (aO0 (r:=(p.funcs.set j1 (bSt p.funcs[j1] (p.funcs[j1].params++[(⟨y24,false⟩:aS)]))).flatMap fV) [_,_] rfl rfl rfl rfl rfl sizeOf55 rfl (bSz hj1 1 1 (by decide)) (bS1 hj1 1 _ (by decide) rfl) (by simp [aY,Value.ownBlock]) (fun hn=>qM (r:=(⟨(.slice (some ⟨gF,0,none⟩) p.funcs.length cF),58,3,p.funcs.length,p.funcs.flatMap fV⟩:bA)) (by simp) hn (by simp [aY,Value.ownBlock])) ?_)
  refine ax (go 4 ?_)
  refine aAg [_] 0 rfl rfl ?_
  refine aAg [_] 1 rfl rfl ?_
  refine aAg [_] 2 rfl rfl ?_
  refine go 1 ?_
  refine eA 136 rfl (t:=.agg (jV (⟨p.globals,p.mutexes,(p.funcs.set j1 (bSt p.funcs[j1] (p.funcs[j1].params++[(⟨y24,false⟩:aS)])))⟩:cK))) (by unfold jV;(try simp only [List.length_set]);exact fun _ _ h=>h) (go 4 ?_)
  exact ⟨.inr rfl,_,⟨bx,rw⟩,aR rfl (aO [] rfl rfl isAgg30 sizeOf30 (bK rfl rfl)),aA (.cons _ (.cons _ (.refl _))) (.refl _),⟨(⟨p.globals,p.mutexes,(p.funcs.set j1 (bSt p.funcs[j1] (p.funcs[j1].params++[(⟨y24,false⟩:aS)])))⟩:cK),rfl,⟨⟨hs.globals,hs.mutexes,bS0 hs.funcs ⟨hfs.1,bSp hfs.2.1 (by show y24.size <= _;omega),hfs.2.2⟩⟩,by unfold cK.wt;dsimp only;have h8:=bSw p.funcs j1 (bSt p.funcs[j1] (p.funcs[j1].params++[(⟨y24,false⟩:aS)]));have h9:bS.wt (bSt p.funcs[j1] (p.funcs[j1].params++[(⟨y24,false⟩:aS)]))=bS.wt p.funcs[j1]+1:=(by unfold bS.wt bSt;simp only [length_append,length_cons,length_nil];omega);unfold wtF at h8;omega,by first|exact Nat.le_refl _|(rw [List.length_set];exact Nat.le_refl _)⟩⟩,rfl⟩
 refine wcp false rfl (eD h18) (go 6 ?_)
 by_cases h26:((j2:Nat):Int)=4
 ·refine wcp true rfl (eR h26) (go 4 ?_)
  refine dx [b2] (tz [(0,true),(2,true),(4,true)] 8 (go 4 ?_))
  refine t2 1 3 rfl ?_ ?_
  ·refine way rfl (by decide) (aX [_] rfl rfl rfl isAgg28 sizeOf28 rfl (fun _ h=>by cases h)) ?_
   refine ox 3 rfl rfl (way rfl (by decide) (aX [_] rfl rfl rfl isAgg28 sizeOf28 rfl (fun _ h=>by cases h)) ?_)
   refine tx 5 rfl (dH (z:=3) j1 rfl rfl rfl rfl hj1 runUnderlying28 sizeOf58) ?_
   refine ox 6 rfl rfl (way rfl (by decide) (rM [_,_] rfl rfl rfl isAgg58 sizeOf58 (bUf hj1) (fun _ h=>by cases h)) ?_)
   refine ox 7 rfl rfl (bDk zb7 rfl (.cons rfl .nil) (r:=[p.funcs[j1]].flatMap fV) rfl ?_)
   refine ox 8 rfl rfl (bDm [_,_] bWk rfl rfl (by decide) (by unfold maxLen;omega) (by omega) (@length_append _ p.funcs [p.funcs[j1]]).symm (fun hn b hb=>qM (r:=(⟨(.slice (some ⟨gF,0,none⟩) p.funcs.length cF),58,3,p.funcs.length,p.funcs.flatMap fV⟩:bA)) (by simp) hn hb) (fun b hb=>by first|(simp [hb];done)|(simp only [aY,Value.ownBlock,Option.toList,mem_cons,not_mem_nil,or_false] at hb;simp [hb];done)) (List.flatMap_append (f:=fV)).symm fun w93=>?_)
   refine tz [(9,true),(10,false)] 0 (go 3 ?_)
   refine ax (go 4 ?_)
   refine aAg [_] 0 rfl rfl ?_
   refine aAg [_] 1 rfl rfl ?_
   refine aAg [_] 2 rfl rfl ?_
   refine go 1 ?_
   refine eA 136 rfl (t:=.agg (jV (⟨p.globals,p.mutexes,(p.funcs++[p.funcs[j1]])⟩:cK))) (by unfold jV;(try simp only [List.length_set]);exact fun _ _ h=>h) (go 4 ?_)
   exact ⟨.inr rfl,_,⟨bx,rw⟩,aR rfl (aO [] rfl rfl isAgg30 sizeOf30 (bK rfl rfl)),aA (.cons _ (.cons _ (.refl _))) (.refl _),⟨(⟨p.globals,p.mutexes,(p.funcs++[p.funcs[j1]])⟩:cK),rfl,⟨⟨hs.globals,hs.mutexes,bSp hs.funcs hfs⟩,by unfold cK.wt;dsimp only;have h8:=bTv p.funcs p.funcs[j1];unfold wtF at h8;omega,by rw [length_append];omega⟩⟩,rfl⟩
  refine way rfl (by decide) (aX [_] rfl rfl rfl isAgg28 sizeOf28 rfl (fun _ h=>by cases h)) ?_
  refine tx 5 rfl (dH (z:=3) j1 rfl rfl rfl rfl hj1 runUnderlying28 sizeOf58) ?_
  refine t2 1 6 rfl ?_ ?_
  ·refine way rfl (by decide) (aX [_] rfl rfl rfl isAgg28 sizeOf28 rfl (fun _ h=>by cases h)) ?_
   refine ox 6 rfl rfl (way rfl (by decide) (rM [_,_] rfl rfl rfl isAgg58 sizeOf58 (bUf hj1) (fun _ h=>by cases h)) ?_)
   refine ox 7 rfl rfl (bDk zb7 rfl (.cons rfl .nil) (r:=[p.funcs[j1]].flatMap fV) rfl ?_)
   refine ox 8 rfl rfl (bDm [_,_] bWk rfl rfl (by decide) (by unfold maxLen;omega) (by omega) (@length_append _ p.funcs [p.funcs[j1]]).symm (fun hn b hb=>qM (r:=(⟨(.slice (some ⟨gF,0,none⟩) p.funcs.length cF),58,3,p.funcs.length,p.funcs.flatMap fV⟩:bA)) (by simp) hn hb) (fun b hb=>by first|(simp [hb];done)|(simp only [aY,Value.ownBlock,Option.toList,mem_cons,not_mem_nil,or_false] at hb;simp [hb];done)) (List.flatMap_append (f:=fV)).symm fun w94=>?_)
   refine tz [(9,true),(10,false)] 0 (go 3 ?_)
   refine ax (go 4 ?_)
   refine aAg [_] 0 rfl rfl ?_
   refine aAg [_] 1 rfl rfl ?_
   refine aAg [_] 2 rfl rfl ?_
   refine go 1 ?_
   refine eA 136 rfl (t:=.agg (jV (⟨p.globals,p.mutexes,(p.funcs++[p.funcs[j1]])⟩:cK))) (by unfold jV;(try simp only [List.length_set]);exact fun _ _ h=>h) (go 4 ?_)
   exact ⟨.inr rfl,_,⟨bx,rw⟩,aR rfl (aO [] rfl rfl isAgg30 sizeOf30 (bK rfl rfl)),aA (.cons _ (.cons _ (.refl _))) (.refl _),⟨(⟨p.globals,p.mutexes,(p.funcs++[p.funcs[j1]])⟩:cK),rfl,⟨⟨hs.globals,hs.mutexes,bSp hs.funcs hfs⟩,by unfold cK.wt;dsimp only;have h8:=bTv p.funcs p.funcs[j1];unfold wtF at h8;omega,by rw [length_append];omega⟩⟩,rfl⟩
  refine way rfl (by decide) (rM [_,_] rfl rfl rfl isAgg58 sizeOf58 (bUf hj1) (fun _ h=>by cases h)) ?_
  refine t2 1 7 rfl ?_ ?_
  ·refine way rfl (by decide) (aX [_] rfl rfl rfl isAgg28 sizeOf28 rfl (fun _ h=>by cases h)) ?_
   refine ox 7 rfl rfl (bDk zb7 rfl (.cons rfl .nil) (r:=[p.funcs[j1]].flatMap fV) rfl ?_)
   refine ox 8 rfl rfl (bDm [_,_] bWk rfl rfl (by decide) (by unfold maxLen;omega) (by omega) (@length_append _ p.funcs [p.funcs[j1]]).symm (fun hn b hb=>qM (r:=(⟨(.slice (some ⟨gF,0,none⟩) p.funcs.length cF),58,3,p.funcs.length,p.funcs.flatMap fV⟩:bA)) (by simp) hn hb) (fun b hb=>by first|(simp [hb];done)|(simp only [aY,Value.ownBlock,Option.toList,mem_cons,not_mem_nil,or_false] at hb;simp [hb];done)) (List.flatMap_append (f:=fV)).symm fun w95=>?_)
   refine tz [(9,true),(10,false)] 0 (go 3 ?_)
   refine ax (go 4 ?_)
   refine aAg [_] 0 rfl rfl ?_
   refine aAg [_] 1 rfl rfl ?_
   refine aAg [_] 2 rfl rfl ?_
   refine go 1 ?_
   refine eA 136 rfl (t:=.agg (jV (⟨p.globals,p.mutexes,(p.funcs++[p.funcs[j1]])⟩:cK))) (by unfold jV;(try simp only [List.length_set]);exact fun _ _ h=>h) (go 4 ?_)
   exact ⟨.inr rfl,_,⟨bx,rw⟩,aR rfl (aO [] rfl rfl isAgg30 sizeOf30 (bK rfl rfl)),aA (.cons _ (.cons _ (.refl _))) (.refl _),⟨(⟨p.globals,p.mutexes,(p.funcs++[p.funcs[j1]])⟩:cK),rfl,⟨⟨hs.globals,hs.mutexes,bSp hs.funcs hfs⟩,by unfold cK.wt;dsimp only;have h8:=bTv p.funcs p.funcs[j1];unfold wtF at h8;omega,by rw [length_append];omega⟩⟩,rfl⟩
  refine (bDk zb7 rfl (.cons rfl .nil) (r:=[p.funcs[j1]].flatMap fV) rfl ?_)
  refine ox 1 rfl rfl (way rfl (by decide) (aX [_] rfl rfl rfl isAgg28 sizeOf28 rfl (fun _ h=>by cases h)) ?_)
  refine ox 8 rfl rfl (bDm [_,_] bWk rfl rfl (by decide) (by unfold maxLen;omega) (by omega) (@length_append _ p.funcs [p.funcs[j1]]).symm (fun hn b hb=>qM (r:=(⟨(.slice (some ⟨gF,0,none⟩) p.funcs.length cF),58,3,p.funcs.length,p.funcs.flatMap fV⟩:bA)) (by simp) hn hb) (fun b hb=>by first|(simp [hb];done)|(simp only [aY,Value.ownBlock,Option.toList,mem_cons,not_mem_nil,or_false] at hb;simp [hb];done)) (List.flatMap_append (f:=fV)).symm fun w96=>?_)
  refine tz [(9,true),(10,false)] 0 (go 3 ?_)
  refine ax (go 4 ?_)
  refine aAg [_] 0 rfl rfl ?_
  refine aAg [_] 1 rfl rfl ?_
  refine aAg [_] 2 rfl rfl ?_
  refine go 1 ?_
  refine eA 136 rfl (t:=.agg (jV (⟨p.globals,p.mutexes,(p.funcs++[p.funcs[j1]])⟩:cK))) (by unfold jV;(try simp only [List.length_set]);exact fun _ _ h=>h) (go 4 ?_)
  exact ⟨.inr rfl,_,⟨bx,rw⟩,aR rfl (aO [] rfl rfl isAgg30 sizeOf30 (bK rfl rfl)),aA (.cons _ (.cons _ (.refl _))) (.refl _),⟨(⟨p.globals,p.mutexes,(p.funcs++[p.funcs[j1]])⟩:cK),rfl,⟨⟨hs.globals,hs.mutexes,bSp hs.funcs hfs⟩,by unfold cK.wt;dsimp only;have h8:=bTv p.funcs p.funcs[j1];unfold wtF at h8;omega,by rw [length_append];omega⟩⟩,rfl⟩
 refine wcp false rfl (eD h26) (go 9 ?_)
 refine wyz rfl (dH (z:=3) j1 rfl rfl rfl rfl hj1 runUnderlying28 sizeOf58) ?_
 refine wyz rfl (id <|uX 2 (0+j1*3+2) rfl rfl runUnderlying58 rfl sizeOf56 (by decide) rfl) ?_
 refine wyz rfl (rM [_,_] rfl rfl rfl isAgg56 sizeOf56 (bTd hj1 2 _ rfl) (fun _ h=>by cases h)) ?_
 have hcw:=bNe p.funcs[j1].body
 refine wc0 rfl call27 rfl (bPd (bLh p.funcs[j1].body) p.funcs[j1].body (Nat.le_refl _) (by omega) _) ?_
 rintro _ _ ⟨rfl,rfl⟩
 refine wyz rfl (aNq _ rfl rfl rfl rfl) (go 3 ?_)
 refine dx [b2,b1] (tz [(0,true),(1,true),(2,true),(3,true),(4,true),(5,true)] 16 (go 7 ?_))
 refine tx 6 rfl (dH (z:=3) j1 rfl rfl rfl rfl hj1 runUnderlying28 sizeOf58) ?_
 refine tx 7 rfl (id <|uX 2 (0+j1*3+2) rfl rfl runUnderlying58 rfl sizeOf56 (by decide) rfl) (tz [(9,true)] 13 (go 2 ?_))
 refine tx 10 rfl (bTi rfl rfl rfl) (tz [(11,true),(13,true),(14,true)] 9 (go 4 ?_))
 refine t2 8 12 rfl ?_ ?_
 ·refine way rfl (by decide) (rM [_,_] rfl rfl rfl isAgg56 sizeOf56 (bTd hj1 2 _ rfl) (fun _ h=>by cases h)) ?_
  obtain ⟨j4,hj4,hlj4⟩:=bEj ((a.fdiv 16)) ((max 1 ((bLh p.funcs[j1].body:Nat):Int))) (by omega)
  refine ox 12 rfl rfl (bV rfl rfl (by decide) call12 rfl (bEl ((a.fdiv 16)) ((max 1 ((bLh p.funcs[j1].body:Nat):Int))) j4 (by omega) (by omega) hj4 _) ?_)
  rintro _ _ ⟨rfl,rfl⟩
  refine ox 15 rfl rfl (bV rfl rfl (by decide) call28 rfl (bUh (wtS p.funcs[j1].body) p.funcs[j1].body ((j4:Nat):Int) how x (by omega) (Nat.le_refl _) hfs.2.2 (by omega) (by omega) _) ?_)
  rintro _ _ ⟨⟨t1,m1,rfl,hE1⟩,rfl⟩
  refine tz [(16,true),(17,true),(18,true)] 3 (go 4 ?_)
  refine tx 19 rfl (dH (z:=3) j1 rfl rfl rfl rfl hj1 runUnderlying28 sizeOf58) ?_
  refine tx 20 rfl (id <|uX 2 (0+j1*3+2) rfl rfl runUnderlying58 rfl sizeOf56 (by decide) rfl) ?_
  refine ox 21 rfl rfl (aO0 (r:=(p.funcs.set j1 (bTb p.funcs[j1] t1)).flatMap fV) [_,_] rfl rfl rfl rfl rfl sizeOf56 rfl (bSz hj1 2 1 (by decide)) (bS1 hj1 2 _ (by decide) rfl) (by simp [aY,Value.ownBlock]) (fun hn=>qM (r:=(⟨(.slice (some ⟨gF,0,none⟩) p.funcs.length cF),58,3,p.funcs.length,p.funcs.flatMap fV⟩:bA)) (by simp) hn (by simp [aY,Value.ownBlock])) ?_)
  refine ax (go 4 ?_)
  refine aAg [_] 0 rfl rfl ?_
  refine aAg [_] 1 rfl rfl ?_
  refine aAg [_] 2 rfl rfl ?_
  refine go 1 ?_
  refine eA 136 rfl (t:=.agg (jV (⟨p.globals,p.mutexes,(p.funcs.set j1 (bTb p.funcs[j1] t1))⟩:cK))) (by unfold jV;(try simp only [List.length_set]);exact fun _ _ h=>h) (go 4 ?_)
  exact ⟨.inr rfl,_,⟨bx,rw⟩,aR rfl (aO [] rfl rfl isAgg30 sizeOf30 (bK rfl rfl)),aA (.cons _ (.cons _ (.refl _))) (.refl _),⟨(⟨p.globals,p.mutexes,(p.funcs.set j1 (bTb p.funcs[j1] t1))⟩:cK),rfl,⟨⟨hs.globals,hs.mutexes,bS0 hs.funcs ⟨hfs.1,hfs.2.1,hE1.sane⟩⟩,by unfold cK.wt;dsimp only;have h8:=bSw p.funcs j1 (bTb p.funcs[j1] t1);have h9:bS.wt (bTb p.funcs[j1] t1)=1+p.funcs[j1].params.length+wtS t1:=rfl;have:=hE1.wt;unfold wtF at h8;omega,by first|exact Nat.le_refl _|(rw [List.length_set];exact Nat.le_refl _)⟩⟩,rfl⟩
 obtain ⟨j4,hj4,hlj4⟩:=bEj ((a.fdiv 16)) ((max 1 ((bLh p.funcs[j1].body:Nat):Int))) (by omega)
 refine (bV rfl rfl (by decide) call12 rfl (bEl ((a.fdiv 16)) ((max 1 ((bLh p.funcs[j1].body:Nat):Int))) j4 (by omega) (by omega) hj4 _) ?_)
 rintro _ _ ⟨rfl,rfl⟩
 refine ox 8 rfl rfl (way rfl (by decide) (rM [_,_] rfl rfl rfl isAgg56 sizeOf56 (bTd hj1 2 _ rfl) (fun _ h=>by cases h)) ?_)
 refine ox 15 rfl rfl (bV rfl rfl (by decide) call28 rfl (bUh (wtS p.funcs[j1].body) p.funcs[j1].body ((j4:Nat):Int) how x (by omega) (Nat.le_refl _) hfs.2.2 (by omega) (by omega) _) ?_)
 rintro _ _ ⟨⟨t1,m1,rfl,hE1⟩,rfl⟩
 refine tz [(16,true),(17,true),(18,true)] 3 (go 4 ?_)
 refine tx 19 rfl (dH (z:=3) j1 rfl rfl rfl rfl hj1 runUnderlying28 sizeOf58) ?_
 refine tx 20 rfl (id <|uX 2 (0+j1*3+2) rfl rfl runUnderlying58 rfl sizeOf56 (by decide) rfl) ?_
 refine ox 21 rfl rfl (aO0 (r:=(p.funcs.set j1 (bTb p.funcs[j1] t1)).flatMap fV) [_,_] rfl rfl rfl rfl rfl sizeOf56 rfl (bSz hj1 2 1 (by decide)) (bS1 hj1 2 _ (by decide) rfl) (by simp [aY,Value.ownBlock]) (fun hn=>qM (r:=(⟨(.slice (some ⟨gF,0,none⟩) p.funcs.length cF),58,3,p.funcs.length,p.funcs.flatMap fV⟩:bA)) (by simp) hn (by simp [aY,Value.ownBlock])) ?_)
 refine ax (go 4 ?_)
 refine aAg [_] 0 rfl rfl ?_
 refine aAg [_] 1 rfl rfl ?_
 refine aAg [_] 2 rfl rfl ?_
 refine go 1 ?_
 refine eA 136 rfl (t:=.agg (jV (⟨p.globals,p.mutexes,(p.funcs.set j1 (bTb p.funcs[j1] t1))⟩:cK))) (by unfold jV;(try simp only [List.length_set]);exact fun _ _ h=>h) (go 4 ?_)
 exact ⟨.inr rfl,_,⟨bx,rw⟩,aR rfl (aO [] rfl rfl isAgg30 sizeOf30 (bK rfl rfl)),aA (.cons _ (.cons _ (.refl _))) (.refl _),⟨(⟨p.globals,p.mutexes,(p.funcs.set j1 (bTb p.funcs[j1] t1))⟩:cK),rfl,⟨⟨hs.globals,hs.mutexes,bS0 hs.funcs ⟨hfs.1,hfs.2.1,hE1.sane⟩⟩,by unfold cK.wt;dsimp only;have h8:=bSw p.funcs j1 (bTb p.funcs[j1] t1);have h9:bS.wt (bTb p.funcs[j1] t1)=1+p.funcs[j1].params.length+wtS t1:=rfl;have:=hE1.wt;unfold wtF at h8;omega,by first|exact Nat.le_refl _|(rw [List.length_set];exact Nat.le_refl _)⟩⟩,rfl⟩
end
end Go.Proofs.YtojinfngbbajgaaGreatDoor
