import Derived.Test.YtbdfdjdgfanjaaaDoorV6J
import Derived.Test.YtbdfdjdgfanjaaaDoorV4J
import Derived.Test.YtbdfdjdgfanjaaaDoorV5J
import Derived.Deep.RegionHeld3
import Derived.Test.YtbdfdjdgfanjaaaDoorV3J
import Derived.Test.YtbdfdjdgfanjaaaDoorProg
set_option linter.all false
set_option synthInstance.maxHeartbeats 1000000
set_option synthInstance.maxSize 1000000
set_option maxHeartbeats 1600000
set_option maxRecDepth 100000
namespace Go.Proofs.YtbdfdjdgfanjaaaDoor
open Go.Proofs.Tryd
open List (length_append length_cons length_nil mem_append mem_cons not_mem_nil append_assoc getElem_mem take_of_length_le)
section
open Go.RowKit
section
variable {m n:Int}
theorem eR(h:m=n):bC .eql m n=some true:=by simp [bC,h]
theorem eD(h:¬m=n):bC .eql m n=some false:=by simp [bC,h]
theorem xL(h:¬m=n):bC .neq m n=some true:=by simp [bC,h]
theorem xG(h:m=n):bC .neq m n=some false:=by simp [bC,h]
theorem jZ(h:m<n):bC .lss m n=some true:=by simp [bC,h]
theorem jQ(h:¬m<n):bC .lss m n=some false:=by simp only [bC,decide_eq_false h]
theorem aPz(h:m <= n):bC .leq m n=some true:=by simp [bC,h]
theorem aPx(h:¬m <= n):bC .leq m n=some false:=by simp only [bC,decide_eq_false h]
theorem mH(h:n<m):bC .gtr m n=some true:=by simp [bC,h]
theorem mI(h:¬n<m):bC .gtr m n=some false:=by simp only [bC,decide_eq_false h]
theorem aMq(h:n <= m):bC .geq m n=some true:=by simp [bC,h]
theorem aMx(h:¬n <= m):bC .geq m n=some false:=by simp only [bC,decide_eq_false h]
end
section
variable {m n:ByteArray}
theorem aL8(h:m=n):oM .eql m n=some true:=by simp [oM,h]
theorem aLs(h:¬m=n):oM .eql m n=some false:=by simp [oM,h]
theorem aLc(h:¬m=n):oM .neq m n=some true:=by simp [oM,h]
theorem aMz(h:m=n):oM .neq m n=some false:=by simp [oM,h]
end
section
variable {P:Program}{U T:List Nat}{o:Oper}{n d:Nat}{ts:List (Nat×AT)}{s:Sto}{K:AS -> Prop}{st:AS}{Q:Exit -> AS -> Prop}
theorem fL{t t':AT}(h:Wk t t')(hy:AY P U o st t):AY P U o st t':=fun a w hs hu=>
 let ⟨v,h1,h2⟩:=hy a w hs hu
 ⟨v,h _ _ h1,h2⟩
theorem gQ{a b:Int}(h:a=b):Wk (.c (.val (.int .i64 a))) (.c (.val (.int .i64 b))):=h▸Wk.refl _
theorem jX{a b:ByteArray}(h:a=b):Wk (.c (.val (.string a))) (.c (.val (.string b))):=h▸Wk.refl _
theorem cX{a b:Bool}(h:b=a):AT.c (.val (.bool a))=.c (.val (.bool b)):=h▸rfl
theorem aPy{a b:Int}(h:b=a):AT.c (.val (.int .i64 a))=.c (.val (.int .i64 b)):=h▸rfl
theorem oW{a b:ByteArray}(h:b=a):AT.c (.val (.string a))=.c (.val (.string b)):=h▸rfl
theorem aHz(a b:List UInt8):bytes a++bytes b=bytes (a++b):=sI (by simp [bytes])
theorem kT(a:List UInt8):(bytes a).size=a.length:=by simp [bytes,ByteArray.size]
theorem aN{t yt:TypeId}{x y:Operand}{m k:ByteArray}(a b:List UInt8)(ho:o.op=.binOp .add t x y yt)(hx:evA st x=some (.c (.val (.string m))))(hy:evA st y=some (.c (.val (.string k))))(ha:m=bytes a)(hb:k=bytes b)(hl:a.length+b.length <= 9223372036854775807):AY P U o st (.c (.val (.string (bytes (a++b))))):=by
 subst ha;subst hb
 rw [←aHz]
 exact aHr ho hx hy (by rw [kT,kT];exact hl)
theorem bV{F:FuncId}{ars:Array Operand}{tys:Array TypeId}{us:List AT}{QQ:AT -> Sto -> Prop}(ho:o.op=.call {callee:=.value (.func F),args:=ars,argTypes:=tys})(hd:o.dst=some d)(hn:d<n)
  (hcf:∀args w,(callFunc F args).run P w=.ok (.enter F args) w) (has:ars.toList.map (evA ⟨n,T,s,ts⟩)=us.map some) (hc:aL P F us [] s QQ) (h:∀r s',QQ r s' -> K ⟨n,T,s',(d,r)::ts⟩):AO P U o ⟨n,T,s,ts⟩ K:=
 bD [] ho hd hn hcf has hc bDl bDl (fun _=>bDl) h
theorem oC{c:Code}(N i:Nat)(fx:Nat -> List (Nat×AT))(hs:Sub ⟨n,T,s,ts⟩ ⟨n,T,s,(i,nI 0)::fx 0⟩)
  (round:∀k,k <= N -> AWp P c ⟨n,T,s,(i,nI k)::fx k⟩ (sU (fun s'=>k<N /\ Sub s' ⟨n,T,s,(i,nI (k+1))::fx (k+1)⟩) Q)):AWp P (.loop c) ⟨n,T,s,ts⟩ Q:=by
 refine fM (fun k=>⟨n,T,s,(i,nI k)::fx k⟩) (fun k=>k <= N) (fun k=>N-k) 0 hs (Nat.zero_le _) fun k hk=>sE (round k hk) fun e s' h=>?_
 cases e with
 |normal=>exact ⟨k+1,h.1,by have:=h.1;omega,h.2⟩
 |_=>exact h
theorem lE{c:Code}(p:Nat -> Prop)(N i:Nat)(fx:Nat -> List (Nat×AT))(hp:p 0)(hs:Sub ⟨n,T,s,ts⟩ ⟨n,T,s,(i,nI 0)::fx 0⟩)
  (round:∀k,k <= N -> p k -> AWp P c ⟨n,T,s,(i,nI k)::fx k⟩ (sU (fun s'=>k<N /\ p (k+1) /\ Sub s' ⟨n,T,s,(i,nI (k+1))::fx (k+1)⟩) Q)):AWp P (.loop c) ⟨n,T,s,ts⟩ Q:=by
 refine fM (fun k=>⟨n,T,s,(i,nI k)::fx k⟩) (fun k=>k <= N /\ p k) (fun k=>N-k) 0 hs ⟨Nat.zero_le _,hp⟩ fun k hk=>sE (round k hk.1 hk.2) fun e s' h=>?_
 cases e with
 |normal=>exact ⟨k+1,⟨h.1,h.2.1⟩,by have:=h.1;omega,h.2.2⟩
 |_=>exact h
end
class vT (N:Nat) (l:List Oper) (l1 l2:outParam (List Oper)):Prop where h:l=l1++l2
instance aUv{l:List Oper}:vT 0 l [] l:=⟨rfl⟩
instance aW9{N:Nat}{o:Oper}{l l1 l2:List Oper}[h:vT N l l1 l2]:vT (N+1) (o::l) (o::l1) l2:=⟨by rw [h.h];rfl⟩
instance aV8{N:Nat}{o:Oper}{l m l1 l2:List Oper}[h:vT (N+1) (o::List.append l m) l1 l2]:vT (N+1) (List.append (o::l) m) l1 l2:=⟨h.h⟩
instance aU8{N:Nat}{m l1 l2:List Oper}[h:vT N m l1 l2]:vT N (List.append [] m) l1 l2:=⟨h.h⟩
instance aVp{j t:Nat}{o:Oper}{l m:List Oper}[h:wV (o::List.append l m) j t]:wV (List.append (o::l) m) j t:=⟨h.h⟩
instance aUd{j t:Nat}{m:List Oper}[h:wV m j t]:wV (List.append [] m) j t:=⟨h.h⟩
instance aYy{P:Program}{ops:Array Oper}{o:Oper}{l m:List Oper}{st:AS}{Q:Exit -> AS -> Prop}{N:Nat}{g:Prop}[h:Go1 (N+1) (eQ P ops (o::List.append l m) st Q) g]:Go1 (N+1) (eQ P ops (List.append (o::l) m) st Q) g:=⟨h.out⟩
instance aVr{P:Program}{ops:Array Oper}{m:List Oper}{st:AS}{Q:Exit -> AS -> Prop}{N:Nat}{g:Prop}[h:Go1 (N+1) (eQ P ops m st Q) g]:Go1 (N+1) (eQ P ops (List.append [] m) st Q) g:=⟨h.out⟩
end
section
def jP:Nat -> List ByteArray
 |0=>[⟨#[124,124]⟩]
 |1=>[⟨#[38,38]⟩]
 |2=>[⟨#[61,61]⟩,⟨#[33,61]⟩,⟨#[60]⟩,⟨#[60,61]⟩,⟨#[62]⟩,⟨#[62,61]⟩]
 |3=>[⟨#[43]⟩,⟨#[45]⟩]
 |_=>[⟨#[42]⟩,⟨#[47]⟩,⟨#[37]⟩]
def dS:Nat -> List Int
 |0=>[17]
 |1=>[16]
 |2=>[14,15,10,11,12,13]
 |3=>[8,9]
 |_=>[5,6,7]
end
section
open Go.RowKit
theorem aJx{w:World}{v:Value}{n:Nat}{cells:List Value}(h:dD w v n cells)(o:Obj):dD (w.alloc o) v n cells:=h.below ((Below.refl w.heap.size w).alloc (Nat.le_refl _) o) (Nat.le_refl _)
theorem aJt(k:Nat)(w:World)(hk:k<5):
  Calls prog 32 #[.int .i64 k] w fun e w'=>(∃v u,e=.returned (.tuple #[v,u]) /\ dD w' v (jP k).length ((jP k).map .string) /\ dD w' u (dS k).length ((dS k).map (.int .i64))) /\ Below w.heap.size w w':=by
 have hcases:k=0∨k=1∨k=2∨k=3∨k=4:=by omega
 rcases hcases with rfl|rfl|rfl|rfl|rfl
 all_goals
  go_enter func32,Tryd.ntmps32
  go_wp2_with fail
  go_ret2
  exact ⟨⟨_,_,rfl,aJx (dD.new w _ 9 _) _,dD.new_at _ _ 3 _ _ (by simp)⟩,by go_grown⟩
theorem aE2(k:Nat)(hk:k<5)(op:Int)(h:op∈dS k):aM op=k:=by
 have hcases:k=0∨k=1∨k=2∨k=3∨k=4:=by omega
 rcases hcases with rfl|rfl|rfl|rfl|rfl<;>simp only [dS,mem_cons,not_mem_nil,or_false] at h
 ·subst h;rfl
 ·subst h;rfl
 ·rcases h with rfl|rfl|rfl|rfl|rfl|rfl<;>rfl
 ·rcases h with rfl|rfl<;>rfl
 rcases h with rfl|rfl|rfl<;>rfl
theorem aDh(op:Int)(h:∀k,k<5 -> op∉dS k):(op=3∨op=4 -> aM op=5) /\ (¬(op=3∨op=4) -> aM op=6):=by
 have h0:=h 0 (by omega)
 have h1:=h 1 (by omega)
 have h2:=h 2 (by omega)
 have h3:=h 3 (by omega)
 have h4:=h 4 (by omega)
 simp only [dS,mem_cons,not_mem_nil,or_false,not_or] at h0 h1 h2 h3 h4
 unfold aM
 rw [if_neg h0,if_neg h1,if_neg (by omega),if_neg (by omega),if_neg (by omega)]
 exact ⟨fun h=>if_pos h,fun h=>if_neg h⟩
def stR(op:Int)(w:World)(v:Value)(wr:World):Prop:=∃k:Nat,v=.int .i64 k /\ k <= 5 /\ (∀j,j<k -> op∉dS j) /\ Below w.heap.size w wr
def aYr(op:Int)(k:Nat)(v:Value):Prop:=∃i:Nat,v=.int .i64 i /\ i <= (dS k).length /\ op∉(dS k).take i
theorem aDw(op:Int)(w:World):
  Calls prog 33 #[.int .i64 op] w fun e w'=>e=.returned (.int .i64 (aM op)) /\ Below w.heap.size w w':=by
 go_enter func33,Tryd.ntmps33
 go_wp2_with fail
 go_loopw [3] (fun v wr=>stR op w v wr) (fun v _=>5-(intOf v).toNat)
 case atStart=>exact ⟨0,rfl,by omega,fun j h=>absurd h (by omega),Below.refl _ _⟩
 case round=>
  obtain ⟨k,rfl,hk,hno,hb⟩:=hrel
  have HNO:=Lib.hid hno
  clear hno
  have hsz:=hb.size
  by_cases hlt:k<5
  ·have g1:(k:Int)<5:=by omega
   go_wp2_with (go_at_call 32;((with_reducible refine (aJt k _ hlt).mono ?_);rintro e w1 ⟨⟨v,u,rfl,hv,hu⟩,hb1⟩;clear hv;obtain ⟨a,c,rfl,hc,hr⟩:=hu;have HR:=Lib.hid hr;clear hr))
   go_hide hQ
   go_loop [6] (fun v=>aYr op k v) (fun v=>(dS k).length-(intOf v).toNat)
   case atStart=>exact ⟨0,rfl,by omega,by simp⟩
   case round=>
    obtain ⟨i,rfl,hi,hni⟩:=hrel
    have HNI:=Lib.hid hni
    clear hni
    have hll:(dS k).length <= 6:=by
     have hcases:k=0∨k=1∨k=2∨k=3∨k=4:=by omega
     rcases hcases with rfl|rfl|rfl|rfl|rfl<;>decide
    by_cases hil:i<(dS k).length
    ·rcases HR.out with h0|⟨b,off,rfl,hr⟩
     ·exfalso;have:=congrArg List.length h0;simp at this;rw [this] at hil;simp at hil
     have hcell:=hr i (.int .i64 (dS k)[i]) (by simp [hil])
     clear hr
     by_cases he:(dS k)[i]=op
     ·have q:=aE2 k hlt op (he▸getElem_mem hil)
      have hq:((dS k)[i] == op)=true:=by rw [he];simp
      have Q:=Lib.hid q
      clear q he
      go_wp2_with fail
      subst hQ
      go_wp2_with fail
      go_ret
      exact ⟨gG (by rw [Q.out]),hb.trans (hb1.mono hsz)⟩
     have hq:((dS k)[i] == op)=false:=by simpa using he
     have HE:=Lib.hid he
     clear he
     go_wp2_with fail
     go_round
     case rel=>exact ⟨i+1,by go_num,by omega,by rw [List.take_succ_eq_append_getElem hil];simp only [mem_append,List.mem_singleton,not_or];exact ⟨HNI.out,fun h=>HE.out h.symm⟩⟩
     case measure=>simp [intOf];omega
    have hnot:op∉dS k:=by have h:=HNI.out;rw [take_of_length_le (by omega)] at h;exact h
    have hno2:∀j,j<k+1 -> op∉dS j:=by
     intro j hj
     rcases Nat.lt_or_ge j k with h|h
     ·exact HNO.out j h
     obtain rfl:j=k:=by omega
     exact hnot
    have HN2:=Lib.hid hno2
    clear hnot hno2
    go_wp2_with fail
    subst hQ
    go_wp2_with fail
    go_roundw
    case rel=>exact ⟨k+1,by go_num,by omega,HN2.out,hb.trans (hb1.mono hsz)⟩
    case measure=>simp [intOf];omega
  have hout:=aDh op (fun j hj=>HNO.out j (by omega))
  have HO:=Lib.hid hout
  clear hout
  by_cases h3:op=3∨op=4
  ·have hs:=HO.out.1 h3
   have HS:=Lib.hid hs
   clear hs
   rcases h3 with rfl|rfl
   all_goals
    go_wp2_with fail
    go_ret
    exact ⟨gG (by rw [HS.out];rfl),hb⟩
  have hs:=HO.out.2 h3
  have HS:=Lib.hid hs
  have q3:(op == 3)=false:=by rw [beq_eq_false_iff_ne];exact fun h=>h3 (.inl h)
  have q4:(op == 4)=false:=by rw [beq_eq_false_iff_ne];exact fun h=>h3 (.inr h)
  clear hs h3
  go_wp2_with fail
  go_ret
  exact ⟨gG (by rw [HS.out];rfl),hb⟩
end
section
open Go.RowKit
theorem aHq{P:Program}{F:FuncId}{ts:List AT}{us:List Value}{u:Value}(h1:u.oneCell'=true)(hts:ts=us.map fun u=>.c (.val u))(h:∀w,Calls P F us.toArray w fun e w'=>e=.returned u /\ Below w.heap.size w w')(s:Sto):aL P F ts [] s fun r s'=>r=.c (.val u) /\ s'=s:=by
 intro vs w hm _ hl hr
 subst hts
 obtain rfl:vs=us:=by
  refine List.ext_getElem (by simpa using hl) fun i h1 h2=>?_
  have h3:=hr i (by simpa using h2) h1
  simp only [List.getElem_map] at h3
  exact h3.val
 exact (h w).mono fun e w' ⟨h2,h3⟩=>by
  obtain ⟨hk,hm'⟩:=aBl hm h3
  exact ⟨_,_,s,h2,⟨rfl,rfl⟩,.c _ _ (.val _ h1),hm',hk,fun b hb=>.inl hb⟩
end
section
open Go.RowKit
def kO(i:Nat)(c:UInt8):Bool:=fU c||(decide (i≠0) && cD c)
theorem aI8(s:ByteArray)(h:∀j (hj:j<s.size),kO j s[j]=true):bQ s=(decide (1 <= s.size) && decide (s.size <= 16) && !dA s):=by
 unfold bQ
 have hl:s.size=s.data.toList.length:=rfl
 have hall:∀j (hj:j<s.data.toList.length),kO j s.data.toList[j]=true:=fun j hj=>h j (by rw [hl];exact hj)
 rw [hl]
 cases hd:s.data.toList with
 |nil=>simp
 |cons c r=>
  rw [hd] at hall
  have h0:=hall 0 (by simp)
  have hr:r.all cT=true:=by
   rw [List.all_eq_true]
   intro x hx
   obtain ⟨i,hi,rfl⟩:=List.getElem_of_mem hx
   have:=hall (i+1) (by simpa using hi)
   simpa [kO,cT] using this
  have h1:fU c=true:=by simpa [kO] using h0
  simp only [h1,hr,Bool.true_and,length_cons]
  rw [show decide (1 <= r.length+1)=true by simp,Bool.true_and]
theorem aJz(s:ByteArray)(k:Nat)(hk:k<s.size)(h:kO k s[k]=false):bQ s=false:=by
 unfold bQ
 have hk':k<s.data.toList.length:=hk
 have h':kO k s.data.toList[k]=false:=h
 cases hd:s.data.toList with
 |nil=>rfl
 |cons c r=>
  simp only [hd] at h' hk'
  cases k with
  |zero=>
   have:fU c=false:=by simpa [kO] using h'
   simp [this]
  |succ k=>
   have hkr:k<r.length:=by simpa using hk'
   have hx:cT r[k]=false:=by simpa [kO,cT] using h'
   have:r.all cT=false:=by
    rw [List.all_eq_false]
    exact ⟨r[k],getElem_mem _,by simp [hx]⟩
   simp [this]
def nmR(s:ByteArray)(v:Value):Prop:=∃k:Nat,v=.int .i64 k /\ k <= s.size /\ ∀j (hj:j<s.size),j<k -> kO j s[j]=true
theorem aKu(s:ByteArray)(w:World)(hs:s.size <= 4611686018427387904):
  Calls prog 44 #[.string s] w fun e w'=>e=.returned (.bool (bQ s)) /\ Below w.heap.size w w':=by
 go_enter func44,Tryd.ntmps44
 go_wp2_with fail
 go_loop [3] (fun v=>nmR s v) (fun v=>s.size-(intOf v).toNat)
 case atStart=>exact ⟨0,rfl,by omega,fun j _ h=>absurd h (by omega)⟩
 case round=>
  obtain ⟨k,rfl,hk,hall⟩:=hrel
  have HA:=Lib.hid hall
  clear hall
  by_cases hlt:k<s.size
  ·cases hc:kO k s[k] with
   |true=>
    have hall2:∀j (hj:j<s.size),j<k+1 -> kO j s[j]=true:=by
     intro j hj h
     rcases Nat.lt_or_ge j k with h1|h1
     ·exact HA.out j hj h1
     obtain rfl:j=k:=by omega
     exact hc
    have HA2:=Lib.hid hall2
    have HC:=Lib.hid hc
    clear hall2 hc
    go_wp2_with (first|(go_at_call 35;((with_reducible refine (eL _ _).mono ?_);rintro e w' ⟨rfl,rfl⟩))|(go_at_call 36;((with_reducible refine (fJ _ _).mono ?_);rintro e w' ⟨rfl,rfl⟩)))
    all_goals first
     |(go_round;(case rel=>exact ⟨k+1,by go_num,by omega,HA2.out⟩);(case measure=>simp [intOf];omega))
     |(exfalso;have h:=HC.out;simp [kO] at h;simp_all;done)
     |(exfalso;have h:=HC.out;simp [kO] at h;simp_all;omega)
   |false=>
    have hb:=aJz s k hlt hc
    have HB:=Lib.hid hb
    have HC:=Lib.hid hc
    clear hb hc
    go_wp2_with (first|(go_at_call 35;((with_reducible refine (eL _ _).mono ?_);rintro e w' ⟨rfl,rfl⟩))|(go_at_call 36;((with_reducible refine (fJ _ _).mono ?_);rintro e w' ⟨rfl,rfl⟩)))
    all_goals first
     |(go_ret;exact ⟨by rw [HB.out];rfl,Below.refl _ _⟩)
     |(exfalso;have h:=HC.out;simp [kO] at h;simp_all;done)
     |(exfalso;have h:=HC.out;simp [kO] at h;simp_all;omega)
  ·have hnm:=aI8 s (fun j hj=>HA.out j hj (by omega))
   have HN:=Lib.hid hnm
   clear hnm
   go_wp2_with (go_at_call 37;((with_reducible refine (oN _ _).mono ?_);rintro e w1 ⟨rfl,hb⟩))
   all_goals
    go_ret
    refine ⟨kB ?_,by first|exact hb|exact Below.refl _ _⟩
    rw [HN.out]
    simp_all
    try omega
end
section
open Go.RowKit
theorem pG(x:ByteArray)(h:x.size <= 4611686018427387904)(s:Sto):aL prog 44 [.c (.val (.string x))] [] s fun r s'=>r=.c (.val (.bool (bQ x))) /\ s'=s:=
 aHq (us:=[.string x]) rfl rfl (fun w=>aKu x w h) s
theorem nA(op:Int)(s:Sto):aL prog 33 [.c (.val (.int .i64 op))] [] s fun r s'=>r=.c (.val (.int .i64 ((aM op:Nat):Int))) /\ s'=s:=
 aHq (us:=[.int .i64 op]) rfl rfl (fun w=>aDw op w) s
theorem aIh(e:aH)(k:Nat)(hk:k<e.args.length)(s:Sto):aL prog 30 [.agg (cU e),nI k] [] s fun t s'=>t=.c (.val (.bool (cV e.op k e.args[k].op))) /\ s'=s:=by
 obtain ⟨bx,rw⟩:=s
 refine acX 29 func30 ?_
 refine go 7 fun b1=>?_
 refine dx [b1] (tz [(0,true),(1,true),(2,true)] 9 (go 4 ?_))
 refine tx 3 rfl (bH fO cU e.args iU fP k rfl rfl rfl rfl (by omega) (by decide) runUnderlying23 sizeOf25) (tz [(4,true),(5,true),(7,true),(8,true)] 4 (go 5 ?_))
 refine ox 6 rfl rfl (bV rfl rfl (by decide) call33 rfl (nA (e.args[k].op) _) ?_)
 rintro _ _ ⟨rfl,rfl⟩
 refine ox 9 rfl rfl (bV rfl rfl (by decide) call33 rfl (nA e.op _) ?_)
 rintro _ _ ⟨rfl,rfl⟩
 refine tz [(10,true),(11,true)] 0 (go 3 ?_)
 refine ax (go 5 ?_)
 by_cases h3:((aM (e.args[k].op):Nat):Int)<((aM e.op:Nat):Int)
 ·refine wcp true rfl (jZ h3) (go 13 ?_)
  exact bHe (s':=⟨bx,rw⟩) rfl sb1 ⟨cX (by unfold cV;first|exact decide_eq_true (by omega)|exact decide_eq_false (by omega)),rfl⟩
 refine wcp false rfl (jQ h3) (go 3 ?_)
 by_cases h4:((aM (e.args[k].op):Nat):Int)=((aM e.op:Nat):Int)
 ·refine wcp true rfl (eR h4) (go 2 ?_)
  by_cases h5:((k:Nat):Int)=1
  ·refine wcp true rfl (eR h5) (go 6 ?_)
   exact bHe (s':=⟨bx,rw⟩) rfl sb1 ⟨cX (by unfold cV;first|exact decide_eq_true (by omega)|exact decide_eq_false (by omega)),rfl⟩
  refine wcp false rfl (eD h5) (go 6 ?_)
  exact bHe (s':=⟨bx,rw⟩) rfl sb1 ⟨cX (by unfold cV;first|exact decide_eq_true (by omega)|exact decide_eq_false (by omega)),rfl⟩
 refine wcp false rfl (eD h4) (go 9 ?_)
 exact bHe (s':=⟨bx,rw⟩) rfl sb1 ⟨cX (by unfold cV;first|exact decide_eq_true (by omega)|exact decide_eq_false (by omega)),rfl⟩
theorem qQ(b:Int):∀(l:List aH)(j:Nat)(x:aH),bSm b j (l++[x])=max (bSm b j l) (dI x+if cV b (j+l.length) x.op then 1 else 0)
 |[],j,x=>by simp [bSm]
 |y::l,j,x=>by
  rw [List.cons_append,bSm,qQ b l (j+1) x,bSm,Nat.max_assoc]
  have:j+1+l.length=j+(y::l).length:=by simp;omega
  rw [this]
theorem kF(b:Int)(l:List aH)(k:Nat)(h:k<l.length):bSm b 0 (l.take (k+1))=max (bSm b 0 (l.take k)) (dI l[k]+if cV b k l[k].op then 1 else 0):=by
 rw [List.take_succ_eq_append_getElem h,qQ,List.length_take,Nat.min_eq_left (by omega),Nat.zero_add]
theorem aBa(N:Nat):∀(e:aH),e.nodes <= N -> dI e+1 <= 2*e.nodes:=by
 induction N with
 |zero=>intro e h;cases e;rw [aH.nodes] at h;omega
 |succ N ih=>
  rintro ⟨op,num,name,args⟩ h
  rw [aH.nodes] at h
  have key:∀(l:List aH)(k:Nat),cZ l <= N -> bSm op k l <= 2*cZ l:=by
   intro l
   induction l with
   |nil=>intro k _;rw [bSm];omega
   |cons e es ih2=>
    intro k hl
    rw [cZ] at hl⊢
    rw [bSm]
    have h1:=ih e (by omega)
    have h2:=ih2 (k+1) (by omega)
    split<;>omega
  have:=key args 0 (by omega)
  rw [dI,aH.nodes]
  split<;>omega
theorem sF(e:aH)(k:Nat)(h:k<e.args.length):e.args[k].nodes<e.nodes:=by
 cases e with
 |mk op num name args=>have:=nM args k h;rw [aH.nodes];show args[k].nodes<_;omega
theorem uC(e:aH):e.args.length<e.nodes:=by
 cases e with
 |mk op num name args=>have:=tN args;rw [aH.nodes];show args.length<_;omega
theorem tX(e:aH):dI e=bSm e.op 0 e.args+if aM e.op=5 then 1 else 0:=by cases e;rw [dI];rfl
theorem aFv(e:aH)(hN:e.nodes <= 1000000000)(ih:∀k (h:k<e.args.length) (s:Sto),aL prog 25 [.agg (cU e.args[k])] [] s fun r s'=>r=.c (.val (.int .i64 ((dI e.args[k]:Nat):Int))) /\ s'=s)(s:Sto):aL prog 25 [.agg (cU e)] [] s fun t s'=>t=.c (.val (.int .i64 ((dI e:Nat):Int))) /\ s'=s:=by
 obtain ⟨bx,rw⟩:=s
 have hlen:=uC e
 refine acX 34 func25 ?_
 refine go 18 fun b1=>?_
 refine oC (e.args.length) 4 (fun k=>[(3,.c (.val (.int .i64 ((bSm e.op 0 (e.args.take (k)):Nat):Int)))),(1,pP b1)]) (sA rfl) fun k hk=>?_
 show AWp prog _ ⟨34,_,_,(4,nI k)::[(3,.c (.val (.int .i64 ((bSm e.op 0 (e.args.take (k)):Nat):Int)))),(1,pP b1)]⟩ _
 refine go 7 ?_
 by_cases h1:((k:Nat):Int)<((e.args.length:Nat):Int)
 ·refine wcp true rfl (jZ h1) (go 12 ?_)
  refine wyz rfl (bH fO cU e.args iU fP k rfl rfl rfl rfl (by omega) (by decide) runUnderlying23 sizeOf25) (go 1 ?_)
  refine wc0 rfl call25 rfl (ih k (by omega) _) ?_
  rintro _ _ ⟨rfl,rfl⟩
  refine go 6 ?_
  have hle:=aBa _ e.args[k] (Nat.le_refl _)
  have hnk:=sF e k (by omega)
  refine go 2 ?_
  refine wc0 rfl call30 rfl (aIh e k (by omega) _) ?_
  rintro _ _ ⟨hr4,rfl⟩
  rcases Bool.eq_false_or_eq_true (cV e.op k e.args[k].op) with h5|h5
  ·rw [h5] at hr4
   subst hr4
   refine go 5 ?_
   refine wad rfl (go 6 ?_)
   have hmx:=kF e.op e.args k (by omega)
   refine wyz rfl (aNq _ rfl rfl rfl rfl) (go 6 ?_)
   refine wad rfl (go 2 ?_)
   exact ⟨by omega,(aG rfl (gQ (by omega)) (aG rfl (gQ (by rw [kF _ _ _ (by omega),h5];simp only [if_true,Bool.false_eq_true,if_false];omega)) (sA rfl)))⟩
  rw [h5] at hr4
  subst hr4
  refine go 8 ?_
  have hmx:=kF e.op e.args k (by omega)
  refine wyz rfl (aNq _ rfl rfl rfl rfl) (go 6 ?_)
  refine wad rfl (go 2 ?_)
  exact ⟨by omega,(aG rfl (gQ (by omega)) (aG rfl (gQ (by rw [kF _ _ _ (by omega),h5];simp only [if_true,Bool.false_eq_true,if_false];omega)) (sA rfl)))⟩
 refine wcp false rfl (jQ h1) (go 11 ?_)
 have hle0:=aBa _ e (Nat.le_refl _)
 have hq:=tX e
 obtain rfl:k=e.args.length:=by omega
 rw [take_of_length_le (Nat.le_refl _)]
 refine go 2 ?_
 refine wc0 rfl call33 rfl (nA e.op _) ?_
 rintro _ _ ⟨rfl,rfl⟩
 by_cases h10:((aM e.op:Nat):Int)=5
 ·refine wcp true rfl (eR h10) (go 5 ?_)
  refine wad rfl (go 10 ?_)
  exact bHe (s':=⟨bx,rw⟩) rfl sb1 ⟨aPy (by rw [tX,if_pos (by omega)];first|rfl|simp),rfl⟩
 refine wcp false rfl (eD h10) (go 12 ?_)
 exact bHe (s':=⟨bx,rw⟩) rfl sb1 ⟨aPy (by rw [tX,if_neg (by omega)];first|rfl|simp),rfl⟩
theorem aGd:∀(N:Nat)(e:aH),e.nodes <= N -> N <= 1000000000 -> ∀s:Sto,aL prog 25 [.agg (cU e)] [] s fun r s'=>r=.c (.val (.int .i64 ((dI e:Nat):Int))) /\ s'=s
 |0,e,h,_=>by cases e;rw [aH.nodes] at h;omega
 |N+1,e,h,hN=>aFv e (by omega) fun k hk s=>aGd N e.args[k] (by have:=sF e k hk;omega) (by omega) s
theorem dZ(e:aH):eO e=((if aM e.op=6 then jG e.op e.num e.name else decide (e.num=0) && decide (e.name=aK)) && decide (e.args.length=arity e.op) && dY e.args):=by cases e;rw [eO];rfl
theorem pK:∀(l:List aH)(k:Nat)(h:k<l.length),dY (l.take (k+1))=(dY (l.take k) && eO l[k])
 |e::es,0,_=>by simp [dY]
 |e::es,k+1,h=>by
  rw [List.take_succ_cons,List.take_succ_cons,dY,dY,pK es k (by simpa using h),Bool.and_assoc]
  rfl
theorem oF:∀(l:List aH)(k:Nat)(h:k<l.length),eO l[k]=false -> dY l=false
 |e::es,0,_,hs=>by rw [dY];simp only [List.getElem_cons_zero] at hs;rw [hs];rfl
 |e::es,k+1,h,hs=>by rw [dY,oF es k (by simpa using h) (by simpa using hs),Bool.and_false]
theorem aHf(e:aH)(hsz:e.name.size <= 4611686018427387904)(hN:e.nodes <= 1000000000)(ih:∀k (h:k<e.args.length) (s:Sto),aL prog 24 [.agg (cU e.args[k])] [] s fun r s'=>r=.c (.val (.bool (eO e.args[k]))) /\ s'=s)(s:Sto):aL prog 24 [.agg (cU e)] [] s fun t s'=>t=.c (.val (.bool (eO e))) /\ s'=s:=by
 obtain ⟨bx,rw⟩:=s
 have hlen:=uC e
 refine acX 77 func24 ?_
 refine go 16 fun b1=>?_
 refine wc0 rfl call33 rfl (nA e.op _) ?_
 rintro _ _ ⟨rfl,rfl⟩
 refine go 5 ?_
 by_cases h2:((aM e.op:Nat):Int)=6
 ·refine wcp true rfl (eR h2) (go 10 ?_)
  refine dx [b1] (tz [(0,true),(1,true)] 26 (go 3 ?_))
  by_cases h4:e.op=1
  ·refine tx 2 rfl (bO true rfl rfl rfl (eR h4)) (tz [(3,true),(4,true),(5,true)] 22 (go 4 ?_))
   by_cases h5:(0:Int) <= e.num
   ·refine tx 6 rfl (bO true rfl rfl rfl (aMq h5)) (tz [(7,true),(8,true),(9,true),(10,true)] 17 (go 5 ?_))
    by_cases h6:e.name=aK
    ·refine tx 11 rfl (aZ true rfl rfl rfl (aL8 h6)) (tz [(12,true),(13,true),(14,true)] 13 (go 4 ?_))
     refine tx 15 rfl (bO false rfl rfl rfl (eD (by omega))) (tz [(16,true),(17,true),(18,true),(19,true),(20,true),(21,true),(22,true),(23,true),(24,true),(25,true),(26,true),(27,true)] 0 (go 13 ?_))
     refine ax (go 22 ?_)
     by_cases h8:((e.args.length:Nat):Int)=0
     ·refine wcp false rfl (xG h8) (go 2 ?_)
      refine wcp false rfl (by simp [bC]) (go 23 ?_)
      refine lE (fun k=>dY (e.args.take k)=true) (e.args.length) 6 (fun k=>[(1,pP b1),(3,.c (.val (.int .i64 0)))]) rfl (sA rfl) fun k hk hvk=>?_
      replace hvk:dY (e.args.take k)=true:=hvk
      try dsimp only
      refine go 5 ?_
      refine wcp false rfl (jQ (by omega)) (go 14 ?_)
      exact bHe (s':=⟨bx,rw⟩) rfl sb1 ⟨cX (by rw [dZ];rw [take_of_length_le (by omega)] at hvk;rw [hvk];unfold jG arity;(repeat' split)<;>first|omega|(simp_all;done)|(simp_all;omega)),rfl⟩
     refine wcp true rfl (xL h8) (go 24 ?_)
     exact bHe (s':=⟨bx,rw⟩) rfl sb1 ⟨cX (by rw [dZ];unfold jG arity;(repeat' split)<;>first|omega|(simp_all;done)|(simp_all;omega)),rfl⟩
    refine tx 11 rfl (aZ false rfl rfl rfl (aLs h6)) (tz [(12,true),(13,true),(14,true)] 13 (go 4 ?_))
    refine tx 15 rfl (bO false rfl rfl rfl (eD (by omega))) (tz [(16,true),(17,true),(18,true),(19,true),(20,true),(21,true),(22,true),(23,true),(24,true),(25,true),(26,true),(27,true)] 0 (go 13 ?_))
    refine ax (go 20 ?_)
    exact bHe (s':=⟨bx,rw⟩) rfl sb1 ⟨cX (by rw [dZ];unfold jG arity;(repeat' split)<;>first|omega|(simp_all;done)|(simp_all;omega)),rfl⟩
   refine tx 6 rfl (bO false rfl rfl rfl (aMx h5)) (tz [(7,true),(8,true),(9,true),(10,true),(11,true),(12,true),(13,true),(14,true)] 13 (go 9 ?_))
   refine tx 15 rfl (bO false rfl rfl rfl (eD (by omega))) (tz [(16,true),(17,true),(18,true),(19,true),(20,true),(21,true),(22,true),(23,true),(24,true),(25,true),(26,true),(27,true)] 0 (go 13 ?_))
   refine ax (go 20 ?_)
   exact bHe (s':=⟨bx,rw⟩) rfl sb1 ⟨cX (by rw [dZ];unfold jG arity;(repeat' split)<;>first|omega|(simp_all;done)|(simp_all;omega)),rfl⟩
  refine tx 2 rfl (bO false rfl rfl rfl (eD h4)) (tz [(3,true),(4,true),(5,true),(6,true),(7,true),(8,true),(9,true),(10,true),(11,true),(12,true),(13,true),(14,true)] 13 (go 13 ?_))
  by_cases h14:e.op=2
  ·refine tx 15 rfl (bO true rfl rfl rfl (eR h14)) (tz [(16,true),(17,true),(18,true)] 9 (go 4 ?_))
   by_cases h15:e.num=0
   ·refine tx 19 rfl (bO true rfl rfl rfl (eR h15)) (tz [(20,true),(21,true),(22,true),(23,true)] 4 (go 5 ?_))
    refine ox 24 rfl rfl (bV rfl rfl (by decide) call44 rfl (pG e.name (by first|assumption|exact hsz) _) ?_)
    rintro _ _ ⟨hr16,rfl⟩
    rcases Bool.eq_false_or_eq_true (bQ e.name) with h17|h17
    ·rw [h17] at hr16
     subst hr16
     refine tz [(25,true),(26,true),(27,true)] 0 (go 4 ?_)
     refine ax (go 22 ?_)
     by_cases h19:((e.args.length:Nat):Int)=0
     ·refine wcp false rfl (xG h19) (go 2 ?_)
      refine wcp false rfl (by simp [bC]) (go 23 ?_)
      refine lE (fun k=>dY (e.args.take k)=true) (e.args.length) 6 (fun k=>[(1,pP b1),(3,.c (.val (.int .i64 0)))]) rfl (sA rfl) fun k hk hvk=>?_
      replace hvk:dY (e.args.take k)=true:=hvk
      try dsimp only
      refine go 5 ?_
      refine wcp false rfl (jQ (by omega)) (go 14 ?_)
      exact bHe (s':=⟨bx,rw⟩) rfl sb1 ⟨cX (by rw [dZ];rw [take_of_length_le (by omega)] at hvk;rw [hvk];unfold jG arity;(repeat' split)<;>first|omega|(simp_all;done)|(simp_all;omega)),rfl⟩
     refine wcp true rfl (xL h19) (go 24 ?_)
     exact bHe (s':=⟨bx,rw⟩) rfl sb1 ⟨cX (by rw [dZ];unfold jG arity;(repeat' split)<;>first|omega|(simp_all;done)|(simp_all;omega)),rfl⟩
    rw [h17] at hr16
    subst hr16
    refine tz [(25,true),(26,true),(27,true)] 0 (go 4 ?_)
    refine ax (go 20 ?_)
    exact bHe (s':=⟨bx,rw⟩) rfl sb1 ⟨cX (by rw [dZ];unfold jG arity;(repeat' split)<;>first|omega|(simp_all;done)|(simp_all;omega)),rfl⟩
   refine tx 19 rfl (bO false rfl rfl rfl (eD h15)) (tz [(20,true),(21,true),(22,true),(23,true),(24,true),(25,true),(26,true),(27,true)] 0 (go 9 ?_))
   refine ax (go 20 ?_)
   exact bHe (s':=⟨bx,rw⟩) rfl sb1 ⟨cX (by rw [dZ];unfold jG arity;(repeat' split)<;>first|omega|(simp_all;done)|(simp_all;omega)),rfl⟩
  refine tx 15 rfl (bO false rfl rfl rfl (eD h14)) (tz [(16,true),(17,true),(18,true),(19,true),(20,true),(21,true),(22,true),(23,true),(24,true),(25,true),(26,true),(27,true)] 0 (go 13 ?_))
  refine ax (go 20 ?_)
  exact bHe (s':=⟨bx,rw⟩) rfl sb1 ⟨cX (by rw [dZ];unfold jG arity;(repeat' split)<;>first|omega|(simp_all;done)|(simp_all;omega)),rfl⟩
 refine wcp false rfl (eD h2) (go 6 ?_)
 by_cases h27:((aM e.op:Nat):Int)=5
 ·refine wcp true rfl (eR h27) (go 16 ?_)
  by_cases h29:((e.args.length:Nat):Int)=1
  ·refine wcp false rfl (xG h29) (go 2 ?_)
   refine wcp true rfl rfl (go 3 ?_)
   by_cases h30:e.num=0
   ·refine wcp false rfl (xG h30) (go 3 ?_)
    by_cases h31:e.name=aK
    ·refine wyz rfl (aZ false rfl rfl rfl (aMz h31)) (go 15 ?_)
     refine lE (fun k=>dY (e.args.take k)=true) (e.args.length) 6 (fun k=>[(1,pP b1),(3,.c (.val (.int .i64 1)))]) rfl (sA rfl) fun k hk hvk=>?_
     replace hvk:dY (e.args.take k)=true:=hvk
     try dsimp only
     refine go 5 ?_
     by_cases h33:((k:Nat):Int)<1
     ·refine wcp true rfl (jZ h33) (go 12 ?_)
      refine wyz rfl (bH fO cU e.args iU fP k rfl rfl rfl rfl (by omega) (by decide) runUnderlying23 sizeOf25) (go 1 ?_)
      refine wc0 rfl call24 rfl (ih k (by omega) _) ?_
      rintro _ _ ⟨hr35,rfl⟩
      rcases Bool.eq_false_or_eq_true (eO e.args[k]) with h36|h36
      ·rw [h36] at hr35
       subst hr35
       refine go 9 ?_
       refine wad rfl (go 2 ?_)
       exact ⟨by omega,(by rw [pK _ _ (by omega),hvk,h36];rfl),(aG rfl (gQ (by omega)) (sA rfl))⟩
      rw [h36] at hr35
      subst hr35
      refine go 15 ?_
      exact bHe (s':=⟨bx,rw⟩) rfl sb1 ⟨cX (by rw [dZ,oF _ _ _ h36,Bool.and_false]),rfl⟩
     refine wcp false rfl (jQ h33) (go 14 ?_)
     exact bHe (s':=⟨bx,rw⟩) rfl sb1 ⟨cX (by rw [dZ];rw [take_of_length_le (by omega)] at hvk;rw [hvk];unfold jG arity;(repeat' split)<;>first|omega|(simp_all;done)|(simp_all;omega)),rfl⟩
    refine wyz rfl (aZ true rfl rfl rfl (aLc h31)) (go 13 ?_)
    exact bHe (s':=⟨bx,rw⟩) rfl sb1 ⟨cX (by rw [dZ];unfold jG arity;(repeat' split)<;>first|omega|(simp_all;done)|(simp_all;omega)),rfl⟩
   refine wcp true rfl (xL h30) (go 17 ?_)
   exact bHe (s':=⟨bx,rw⟩) rfl sb1 ⟨cX (by rw [dZ];unfold jG arity;(repeat' split)<;>first|omega|(simp_all;done)|(simp_all;omega)),rfl⟩
  refine wcp true rfl (xL h29) (go 24 ?_)
  exact bHe (s':=⟨bx,rw⟩) rfl sb1 ⟨cX (by rw [dZ];unfold jG arity;(repeat' split)<;>first|omega|(simp_all;done)|(simp_all;omega)),rfl⟩
 refine wcp false rfl (eD h27) (go 14 ?_)
 by_cases h44:((e.args.length:Nat):Int)=2
 ·refine wcp false rfl (xG h44) (go 2 ?_)
  refine wcp true rfl rfl (go 3 ?_)
  by_cases h45:e.num=0
  ·refine wcp false rfl (xG h45) (go 3 ?_)
   by_cases h46:e.name=aK
   ·refine wyz rfl (aZ false rfl rfl rfl (aMz h46)) (go 15 ?_)
    refine lE (fun k=>dY (e.args.take k)=true) (e.args.length) 6 (fun k=>[(1,pP b1),(3,.c (.val (.int .i64 2)))]) rfl (sA rfl) fun k hk hvk=>?_
    replace hvk:dY (e.args.take k)=true:=hvk
    try dsimp only
    refine go 5 ?_
    by_cases h48:((k:Nat):Int)<2
    ·refine wcp true rfl (jZ h48) (go 12 ?_)
     refine wyz rfl (bH fO cU e.args iU fP k rfl rfl rfl rfl (by omega) (by decide) runUnderlying23 sizeOf25) (go 1 ?_)
     refine wc0 rfl call24 rfl (ih k (by omega) _) ?_
     rintro _ _ ⟨hr50,rfl⟩
     rcases Bool.eq_false_or_eq_true (eO e.args[k]) with h51|h51
     ·rw [h51] at hr50
      subst hr50
      refine go 9 ?_
      refine wad rfl (go 2 ?_)
      exact ⟨by omega,(by rw [pK _ _ (by omega),hvk,h51];rfl),(aG rfl (gQ (by omega)) (sA rfl))⟩
     rw [h51] at hr50
     subst hr50
     refine go 15 ?_
     exact bHe (s':=⟨bx,rw⟩) rfl sb1 ⟨cX (by rw [dZ,oF _ _ _ h51,Bool.and_false]),rfl⟩
    refine wcp false rfl (jQ h48) (go 14 ?_)
    exact bHe (s':=⟨bx,rw⟩) rfl sb1 ⟨cX (by rw [dZ];rw [take_of_length_le (by omega)] at hvk;rw [hvk];unfold jG arity;(repeat' split)<;>first|omega|(simp_all;done)|(simp_all;omega)),rfl⟩
   refine wyz rfl (aZ true rfl rfl rfl (aLc h46)) (go 13 ?_)
   exact bHe (s':=⟨bx,rw⟩) rfl sb1 ⟨cX (by rw [dZ];unfold jG arity;(repeat' split)<;>first|omega|(simp_all;done)|(simp_all;omega)),rfl⟩
  refine wcp true rfl (xL h45) (go 17 ?_)
  exact bHe (s':=⟨bx,rw⟩) rfl sb1 ⟨cX (by rw [dZ];unfold jG arity;(repeat' split)<;>first|omega|(simp_all;done)|(simp_all;omega)),rfl⟩
 refine wcp true rfl (xL h44) (go 24 ?_)
 exact bHe (s':=⟨bx,rw⟩) rfl sb1 ⟨cX (by rw [dZ];unfold jG arity;(repeat' split)<;>first|omega|(simp_all;done)|(simp_all;omega)),rfl⟩
end
section
open Go.RowKit
theorem aGf{e:aH}(h:e.sane)(k:Nat)(hk:k<e.args.length):e.args[k].sane:=by
 cases e with
 |mk op num name args=>rw [aH.sane] at h;exact mV _ h.2.2 _ (getElem_mem hk)
theorem aJn{e:aH}(h:e.sane):e.name.size <= 4611686018427387904:=by cases e;rw [aH.sane] at h;exact h.2.1
theorem aIc:∀(N:Nat)(e:aH),e.nodes <= N -> N <= 1000000000 -> e.sane -> ∀s:Sto,aL prog 24 [.agg (cU e)] [] s fun r s'=>r=.c (.val (.bool (eO e))) /\ s'=s
 |0,e,h,_,_=>by cases e;rw [aH.nodes] at h;omega
 |N+1,e,h,hN,hs=>aHf e (aJn hs) (by omega) fun k hk s=>aIc N e.args[k] (by have:=sF e k hk;omega) (by omega) (aGf hs k hk) s
theorem qT(e:aH)(hN:e.nodes <= 1000000000)(hs:e.sane)(s:Sto):aL prog 13 [.agg (cU e)] [] s fun t s'=>t=.c (.val (.bool (dM e))) /\ s'=s:=by
 obtain ⟨bx,rw⟩:=s
 refine acX 10 func13 ?_
 refine go 9 fun b1=>?_
 refine wc0 rfl call24 rfl (aIc _ e (Nat.le_refl _) hN hs _) ?_
 rintro _ _ ⟨hr1,rfl⟩
 rcases Bool.eq_false_or_eq_true (eO e) with h2|h2
 ·rw [h2] at hr1
  subst hr1
  refine go 2 ?_
  refine wc0 rfl call25 rfl (aGd _ e (Nat.le_refl _) hN _) ?_
  rintro _ _ ⟨rfl,rfl⟩
  by_cases h4:((dI e:Nat):Int) <= 24
  ·refine wcp true rfl (aPz h4) (go 5 ?_)
   exact bHe (s':=⟨bx,rw⟩) rfl sb1 ⟨cX (by unfold dM;first|(rw [h2];simp;omega)|(rw [h2];rfl)),rfl⟩
  refine wcp false rfl (aPx h4) (go 5 ?_)
  exact bHe (s':=⟨bx,rw⟩) rfl sb1 ⟨cX (by unfold dM;first|(rw [h2];simp;omega)|(rw [h2];rfl)),rfl⟩
 rw [h2] at hr1
 subst hr1
 refine go 9 ?_
 exact bHe (s':=⟨bx,rw⟩) rfl sb1 ⟨cX (by unfold dM;first|(rw [h2];simp;omega)|(rw [h2];rfl)),rfl⟩
theorem kU(e:aH):aP e=iX e.op e.num e.name (dP e.op 0 e.args):=by cases e;rw [aP];rfl
theorem pL(b:Int):∀(l:List aH)(j k:Nat)(h:k<l.length),(dP b j l)[k]?=some (if cV b (j+k) l[k].op then [40]++aP l[k]++[41] else aP l[k])
 |e::es,j,0,h=>by rw [dP];rfl
 |e::es,j,k+1,h=>by
  rw [dP,List.getElem?_cons_succ,pL b es (j+1) k (by simpa using h)]
  rw [show j+1+k=j+(k+1) by omega];rfl
section
variable {P:Program}{U:List Nat}{o:Oper}{st:AS}
theorem cz{t yt:TypeId}{x y:Operand}{v w:ByteArray}(a b:List UInt8)(ho:o.op=.binOp .add t x y yt)(hx:evA st x=some (.c (.val (.string v))))(hy:evA st y=some (.c (.val (.string w))))(hv:v=bytes a)(hw:w=bytes b)
  (hl:a.length+b.length<=9223372036854775807:=by first|omega|((try simp only [List.length_append,List.length_cons,List.length_nil,List.length_replicate]);omega)|grind):AY P U o st (.c (.val (.string (bytes (a++b))))):=aN a b ho hx hy hv hw hl
end
end
end Go.Proofs.YtbdfdjdgfanjaaaDoor
