import Derived.Test.YtlmpchoaebhhmaaGreatDoorL11J
import Derived.Test.YtlmpchoaebhhmaaGreatDoorL9J
import Derived.Deep.RegionHeld3
import Derived.Test.YtlmpchoaebhhmaaGreatDoorL6J
import Derived.Test.YtlmpchoaebhhmaaGreatDoorL1J
import Derived.Test.YtlmpchoaebhhmaaGreatDoorL5J
import Derived.Test.YtlmpchoaebhhmaaGreatDoorL7J
set_option linter.all false
set_option synthInstance.maxHeartbeats 1000000
set_option synthInstance.maxSize 1000000
set_option maxHeartbeats 1600000
set_option maxRecDepth 100000
namespace Go.Proofs.YtlmpchoaebhhmaaGreatDoor
open Go.Proofs.Tryz
open List (length_append length_cons length_nil mem_append mem_cons not_mem_nil append_assoc getElem_mem take_of_length_le)
section
open Go.RowKit
section
variable {m n:Int}
theorem eR(h:m=n):bC .eql m n=some true:=by simp [bC,h]
theorem eD(h:¬m=n):bC .eql m n=some false:=by simp [bC,h]
theorem xL(h:¬m=n):bC .neq m n=some true:=by simp [bC,h]
theorem xG(h:m=n):bC .neq m n=some false:=by simp [bC,h]
theorem jZ(h:m<n):bC .lss m n=some true:=by simp [bC,h]
theorem jQ(h:¬m<n):bC .lss m n=some false:=by simp only [bC,decide_eq_false h]
theorem aPz(h:m <= n):bC .leq m n=some true:=by simp [bC,h]
theorem aPx(h:¬m <= n):bC .leq m n=some false:=by simp only [bC,decide_eq_false h]
theorem mH(h:n<m):bC .gtr m n=some true:=by simp [bC,h]
theorem mI(h:¬n<m):bC .gtr m n=some false:=by simp only [bC,decide_eq_false h]
theorem aMq(h:n <= m):bC .geq m n=some true:=by simp [bC,h]
theorem aMx(h:¬n <= m):bC .geq m n=some false:=by simp only [bC,decide_eq_false h]
end
section
variable {m n:ByteArray}
theorem aL8(h:m=n):oM .eql m n=some true:=by simp [oM,h]
theorem aLs(h:¬m=n):oM .eql m n=some false:=by simp [oM,h]
theorem aLc(h:¬m=n):oM .neq m n=some true:=by simp [oM,h]
theorem aMz(h:m=n):oM .neq m n=some false:=by simp [oM,h]
end
section
variable {P:Program}{U T:List Nat}{o:Oper}{n d:Nat}{ts:List (Nat×AT)}{s:Sto}{K:AS -> Prop}{st:AS}{Q:Exit -> AS -> Prop}
theorem fL{t t':AT}(h:Wk t t')(hy:AY P U o st t):AY P U o st t':=fun a w hs hu=>
 let ⟨v,h1,h2⟩:=hy a w hs hu
 ⟨v,h _ _ h1,h2⟩
theorem bZ{a b:Bool}(h:a=b):Wk (.c (.val (.bool a))) (.c (.val (.bool b))):=h▸Wk.refl _
theorem gQ{a b:Int}(h:a=b):Wk (.c (.val (.int .i64 a))) (.c (.val (.int .i64 b))):=h▸Wk.refl _
theorem jX{a b:ByteArray}(h:a=b):Wk (.c (.val (.string a))) (.c (.val (.string b))):=h▸Wk.refl _
theorem aKs{x:Bool}(h:x=true):(!x)=false:=by rw [h];rfl
theorem aKt{x:Bool}(h:x=false):(!x)=true:=by rw [h];rfl
theorem cX{a b:Bool}(h:b=a):AT.c (.val (.bool a))=.c (.val (.bool b)):=h▸rfl
theorem aPy{a b:Int}(h:b=a):AT.c (.val (.int .i64 a))=.c (.val (.int .i64 b)):=h▸rfl
theorem oW{a b:ByteArray}(h:b=a):AT.c (.val (.string a))=.c (.val (.string b)):=h▸rfl
theorem aHz(a b:List UInt8):bytes a++bytes b=bytes (a++b):=sI (by simp [bytes])
theorem kT(a:List UInt8):(bytes a).size=a.length:=by simp [bytes,ByteArray.size]
theorem aN{t yt:TypeId}{x y:Operand}{m k:ByteArray}(a b:List UInt8)(ho:o.op=.binOp .add t x y yt)(hx:evA st x=some (.c (.val (.string m))))(hy:evA st y=some (.c (.val (.string k))))(ha:m=bytes a)(hb:k=bytes b)(hl:a.length+b.length <= 9223372036854775807):AY P U o st (.c (.val (.string (bytes (a++b))))):=by
 subst ha;subst hb
 rw [←aHz]
 exact aHr ho hx hy (by rw [kT,kT];exact hl)
theorem back(s:ByteArray):s=bytes s.data.toList:=by simp [bytes]
theorem bV{F:FuncId}{ars:Array Operand}{tys:Array TypeId}{us:List AT}{QQ:AT -> Sto -> Prop}(ho:o.op=.call {callee:=.value (.func F),args:=ars,argTypes:=tys})(hd:o.dst=some d)(hn:d<n)
  (hcf:∀args w,(callFunc F args).run P w=.ok (.enter F args) w) (has:ars.toList.map (evA ⟨n,T,s,ts⟩)=us.map some) (hc:aL P F us [] s QQ) (h:∀r s',QQ r s' -> K ⟨n,T,s',(d,r)::ts⟩):AO P U o ⟨n,T,s,ts⟩ K:=
 bD [] ho hd hn hcf has hc bDl bDl (fun _=>bDl) h
theorem oC{c:Code}(N i:Nat)(fx:Nat -> List (Nat×AT))(hs:Sub ⟨n,T,s,ts⟩ ⟨n,T,s,(i,nI 0)::fx 0⟩)
  (round:∀k,k <= N -> AWp P c ⟨n,T,s,(i,nI k)::fx k⟩ (sU (fun s'=>k<N /\ Sub s' ⟨n,T,s,(i,nI (k+1))::fx (k+1)⟩) Q)):AWp P (.loop c) ⟨n,T,s,ts⟩ Q:=by
 refine fM (fun k=>⟨n,T,s,(i,nI k)::fx k⟩) (fun k=>k <= N) (fun k=>N-k) 0 hs (Nat.zero_le _) fun k hk=>sE (round k hk) fun e s' h=>?_
 cases e with
 |normal=>exact ⟨k+1,h.1,by have:=h.1;omega,h.2⟩
 |_=>exact h
theorem lE{c:Code}(p:Nat -> Prop)(N i:Nat)(fx:Nat -> List (Nat×AT))(hp:p 0)(hs:Sub ⟨n,T,s,ts⟩ ⟨n,T,s,(i,nI 0)::fx 0⟩)
  (round:∀k,k <= N -> p k -> AWp P c ⟨n,T,s,(i,nI k)::fx k⟩ (sU (fun s'=>k<N /\ p (k+1) /\ Sub s' ⟨n,T,s,(i,nI (k+1))::fx (k+1)⟩) Q)):AWp P (.loop c) ⟨n,T,s,ts⟩ Q:=by
 refine fM (fun k=>⟨n,T,s,(i,nI k)::fx k⟩) (fun k=>k <= N /\ p k) (fun k=>N-k) 0 hs ⟨Nat.zero_le _,hp⟩ fun k hk=>sE (round k hk.1 hk.2) fun e s' h=>?_
 cases e with
 |normal=>exact ⟨k+1,⟨h.1,h.2.1⟩,by have:=h.1;omega,h.2.2⟩
 |_=>exact h
theorem aO2{c:Code}{bx bx0:List Box}{rw rw0:List bA}(p:Nat -> Prop)(N i j:Nat)(E:TypeId)(z:Nat)(cnt:Nat -> Nat)(cs:Nat -> List AC)(T0:List Nat)(fx:Nat -> List (Nat×AT))(hp:p 0)
  (hs:Sub ⟨n,T,⟨bx0,rw0⟩,ts⟩ ⟨n,aY (.slice none 0 0)++T0,⟨bx,⟨.slice none 0 0,E,z,cnt 0,cs 0⟩::rw⟩,(i,nI 0)::(j,.c (.val (.slice none 0 0)))::fx 0⟩)
  (round:∀k v,k <= N -> p k -> AWp P c ⟨n,aY v++T0,⟨bx,⟨v,E,z,cnt k,cs k⟩::rw⟩,(i,nI k)::(j,.c (.val v))::fx k⟩
   (sU (fun s'=>k<N /\ p (k+1) /\ ∃v',Sub s' ⟨n,aY v'++T0,⟨bx,⟨v',E,z,cnt (k+1),cs (k+1)⟩::rw⟩,(i,nI (k+1))::(j,.c (.val v'))::fx (k+1)⟩) Q)):AWp P (.loop c) ⟨n,T,⟨bx0,rw0⟩,ts⟩ Q:=by
 refine fM (fun g:Nat×Value=>⟨n,aY g.2++T0,⟨bx,⟨g.2,E,z,cnt g.1,cs g.1⟩::rw⟩,(i,nI g.1)::(j,.c (.val g.2))::fx g.1⟩) (fun g=>g.1 <= N /\ p g.1) (fun g=>N-g.1) (0,.slice none 0 0) hs ⟨Nat.zero_le _,hp⟩ fun g hg=>sE (round g.1 g.2 hg.1 hg.2) fun e s' h=>?_
 cases e with
 |normal=>
  obtain ⟨h1,h2,v',h3⟩:=h
  exact ⟨(g.1+1,v'),⟨h1,h2⟩,by show N-(g.1+1)<N-g.1;omega,h3⟩
 |_=>exact h
end
theorem Oper.wp_mono2{P:Program}{Q Q':Exit -> Act -> World -> Prop}{o:Oper}{a:Act}{w:World}{K K':Act -> World -> Prop}(h:∀a w,K a w -> K' a w)(hq:∀e a w,e≠.normal -> Q e a w -> Q' e a w)(hl:LetsOut Q -> LetsOut Q')
  (hh:o.wp P a w K Q):o.wp P a w K' Q':=by
 unfold Oper.wp at *
 generalize (execOp a.eval o).run P w=r at *
 cases r with
 |ok n w'=>
  cases n<;>simp only [Oper.upon] at hh⊢<;>
   first
    |exact h _ _ hh
    |exact Calls.mono hh (fun e w'' he=>by cases e<;>first|exact h _ _ he|exact hq _ _ _ (by simp) he|exact hl he)
    |exact Rows.mono hh (fun _ _ he=>h _ _ he)
 |halt x w'=>cases x<;>simp only [Oper.upon] at hh⊢<;>first|exact hq _ _ _ (by simp) hh|exact hh
theorem tM{P:Program}{ops:Array Oper}{Q Q1:Exit -> Act -> World -> Prop}{l2:List Oper}(hn:∀a w,Q1 .normal a w -> wpList P ops Q l2 a w)(hq:∀e a w,e≠.normal -> Q1 e a w -> Q e a w):∀(l1:List Oper)(a:Act)(w:World),wpList P ops Q1 l1 a w -> wpList P ops Q (l1++l2) a w
 |[],a,w,h=>hn a w h
 |o::l1,a,w,h=>by
  rw [List.cons_append]
  unfold wpList at h⊢
  split at h
  ·rename_i hw
   rw [if_pos hw]
   rcases h with h|⟨h1,a2,w2,h2⟩
   ·refine .inl ?_
    have hK:∀a w,wpList P ops Q1 l1 a w -> wpList P ops Q (l1++l2) a w:=fun a w=>tM hn hq l1 a w
    have hL:LetsOut Q1 -> LetsOut Q:=fun ⟨a,w,h⟩=>⟨a,w,hq _ a w (by simp) h⟩
    exact Oper.wp_mono2 hK hq hL h
   exact .inr ⟨h1,a2,w2,hq _ _ _ (by simp) h2⟩
  rename_i hw
  rw [if_neg hw]
  exact tM hn hq l1 _ _ h
class vT (N:Nat) (l:List Oper) (l1 l2:outParam (List Oper)):Prop where h:l=l1++l2
instance aUv{l:List Oper}:vT 0 l [] l:=⟨rfl⟩
instance aW9{N:Nat}{o:Oper}{l l1 l2:List Oper}[h:vT N l l1 l2]:vT (N+1) (o::l) (o::l1) l2:=⟨by rw [h.h];rfl⟩
instance aV8{N:Nat}{o:Oper}{l m l1 l2:List Oper}[h:vT (N+1) (o::List.append l m) l1 l2]:vT (N+1) (List.append (o::l) m) l1 l2:=⟨h.h⟩
instance aU8{N:Nat}{m l1 l2:List Oper}[h:vT N m l1 l2]:vT N (List.append [] m) l1 l2:=⟨h.h⟩
instance aVp{j t:Nat}{o:Oper}{l m:List Oper}[h:wV (o::List.append l m) j t]:wV (List.append (o::l) m) j t:=⟨h.h⟩
instance aUd{j t:Nat}{m:List Oper}[h:wV m j t]:wV (List.append [] m) j t:=⟨h.h⟩
instance aYy{P:Program}{ops:Array Oper}{o:Oper}{l m:List Oper}{st:AS}{Q:Exit -> AS -> Prop}{N:Nat}{g:Prop}[h:Go1 (N+1) (eQ P ops (o::List.append l m) st Q) g]:Go1 (N+1) (eQ P ops (List.append (o::l) m) st Q) g:=⟨h.out⟩
instance aVr{P:Program}{ops:Array Oper}{m:List Oper}{st:AS}{Q:Exit -> AS -> Prop}{N:Nat}{g:Prop}[h:Go1 (N+1) (eQ P ops m st Q) g]:Go1 (N+1) (eQ P ops (List.append [] m) st Q) g:=⟨h.out⟩
theorem aLj{P:Program}{ops:Array Oper}{l l1 l2:List Oper}{st:AS}{Q:Exit -> AS -> Prop}(N:Nat)(st':AS)[hs:vT N l l1 l2](h1:eQ P ops l1 st (fun e s=>e=.normal /\ Sub s st'))(h2:eQ P ops l2 st' Q):eQ P ops l st Q:=by
 rw [hs.h]
 intro a w hS QQ hQ
 refine tM (Q1:=fun e a' w'=>match e with|.normal=>∃s,Sub s st' /\ Sim s a' w' /\ Ext st w s w'|_=>False) ?_ ?_ l1 a w (h1 a w hS _ ?_)
 ·rintro a' w' ⟨s,hs1,hs2,hs3⟩
  exact h2 a' w' (hs1 a' w' hs2).1 QQ fun e a2 w2 s2 q k1 k2=>hQ e a2 w2 s2 q k1 ((hs3.trans (hs1.ext hs2)).trans k2)
 ·intro e a' w' he h
  cases e with
  |normal=>exact absurd rfl he
  |_=>exact h.elim
 rintro e a' w' s ⟨rfl,h⟩ k1 k2
 exact ⟨s,h,k1,k2⟩
theorem iE{P:Program}{ops:Array Oper}{l l1 l2:List Oper}{n:Nat}{T:List Nat}{s:Sto}{ts:List (Nat×AT)}{Q:Exit -> AS -> Prop}(N:Nat)(ts':List (Nat×AT))[hs:vT N l l1 l2](h1:eQ P ops l1 ⟨n,T,s,ts⟩ (fun e s'=>e=.normal /\ Sub s' ⟨n,T,s,ts'⟩))(h2:eQ P ops l2 ⟨n,T,s,ts'⟩ Q):eQ P ops l ⟨n,T,s,ts⟩ Q:=aLj N _ h1 h2
theorem xX{P:Program}{x y:Code}{n:Nat}{T:List Nat}{s:Sto}{ts:List (Nat×AT)}{Q:Exit -> AS -> Prop}(ts':List (Nat×AT))(h1:AWp P x ⟨n,T,s,ts⟩ (fun e s'=>e=.normal /\ Sub s' ⟨n,T,s,ts'⟩))(h2:AWp P y ⟨n,T,s,ts'⟩ Q):AWp P (.seq x y) ⟨n,T,s,ts⟩ Q:=
 aHp (sE h1 fun e s ⟨he,hs⟩=>by subst he;exact rX (zU hs h2))
end
section
open Go.RowKit
def kO(i:Nat)(c:UInt8):Bool:=fU c||(decide (i≠0) && cD c)
theorem aI8(s:ByteArray)(h:∀j (hj:j<s.size),kO j s[j]=true):bQ s=(decide (1 <= s.size) && decide (s.size <= 16) && !dA s):=by
 unfold bQ
 have hl:s.size=s.data.toList.length:=rfl
 have hall:∀j (hj:j<s.data.toList.length),kO j s.data.toList[j]=true:=fun j hj=>h j (by rw [hl];exact hj)
 rw [hl]
 cases hd:s.data.toList with
 |nil=>simp
 |cons c r=>
  rw [hd] at hall
  have h0:=hall 0 (by simp)
  have hr:r.all cT=true:=by
   rw [List.all_eq_true]
   intro x hx
   obtain ⟨i,hi,rfl⟩:=List.getElem_of_mem hx
   have:=hall (i+1) (by simpa using hi)
   simpa [kO,cT] using this
  have h1:fU c=true:=by simpa [kO] using h0
  simp only [h1,hr,Bool.true_and,length_cons]
  rw [show decide (1 <= r.length+1)=true by simp,Bool.true_and]
theorem aJz(s:ByteArray)(k:Nat)(hk:k<s.size)(h:kO k s[k]=false):bQ s=false:=by
 unfold bQ
 have hk':k<s.data.toList.length:=hk
 have h':kO k s.data.toList[k]=false:=h
 cases hd:s.data.toList with
 |nil=>rfl
 |cons c r=>
  simp only [hd] at h' hk'
  cases k with
  |zero=>
   have:fU c=false:=by simpa [kO] using h'
   simp [this]
  |succ k=>
   have hkr:k<r.length:=by simpa using hk'
   have hx:cT r[k]=false:=by simpa [kO,cT] using h'
   have:r.all cT=false:=by
    rw [List.all_eq_false]
    exact ⟨r[k],getElem_mem _,by simp [hx]⟩
   simp [this]
def nmR(s:ByteArray)(v:Value):Prop:=∃k:Nat,v=.int .i64 k /\ k <= s.size /\ ∀j (hj:j<s.size),j<k -> kO j s[j]=true
theorem aKu(s:ByteArray)(w:World)(hs:s.size <= 4611686018427387904):
  Calls prog 44 #[.string s] w fun e w'=>e=.returned (.bool (bQ s)) /\ Below w.heap.size w w':=by
 go_enter func44,Tryz.ntmps44
 go_wp2_with fail
 go_loop [3] (fun v=>nmR s v) (fun v=>s.size-(intOf v).toNat)
 case atStart=>exact ⟨0,rfl,by omega,fun j _ h=>absurd h (by omega)⟩
 case round=>
  obtain ⟨k,rfl,hk,hall⟩:=hrel
  have HA:=Lib.hid hall
  clear hall
  by_cases hlt:k<s.size
  ·cases hc:kO k s[k] with
   |true=>
    have hall2:∀j (hj:j<s.size),j<k+1 -> kO j s[j]=true:=by
     intro j hj h
     rcases Nat.lt_or_ge j k with h1|h1
     ·exact HA.out j hj h1
     obtain rfl:j=k:=by omega
     exact hc
    have HA2:=Lib.hid hall2
    have HC:=Lib.hid hc
    clear hall2 hc
    go_wp2_with (first|(go_at_call 51;((with_reducible refine (eL _ _).mono ?_);rintro e w' ⟨rfl,rfl⟩))|(go_at_call 52;((with_reducible refine (fJ _ _).mono ?_);rintro e w' ⟨rfl,rfl⟩)))
    all_goals first
     |(go_round;(case rel=>exact ⟨k+1,by go_num,by omega,HA2.out⟩);(case measure=>simp [intOf];omega))
     |(exfalso;have h:=HC.out;simp [kO] at h;simp_all;done)
     |(exfalso;have h:=HC.out;simp [kO] at h;simp_all;omega)
   |false=>
    have hb:=aJz s k hlt hc
    have HB:=Lib.hid hb
    have HC:=Lib.hid hc
    clear hb hc
    go_wp2_with (first|(go_at_call 51;((with_reducible refine (eL _ _).mono ?_);rintro e w' ⟨rfl,rfl⟩))|(go_at_call 52;((with_reducible refine (fJ _ _).mono ?_);rintro e w' ⟨rfl,rfl⟩)))
    all_goals first
     |(go_ret;exact ⟨by rw [HB.out];rfl,Below.refl _ _⟩)
     |(exfalso;have h:=HC.out;simp [kO] at h;simp_all;done)
     |(exfalso;have h:=HC.out;simp [kO] at h;simp_all;omega)
  ·have hnm:=aI8 s (fun j hj=>HA.out j hj (by omega))
   have HN:=Lib.hid hnm
   clear hnm
   go_wp2_with (go_at_call 53;((with_reducible refine (oN _ _).mono ?_);rintro e w1 ⟨rfl,hb⟩))
   all_goals
    go_ret
    refine ⟨kB ?_,by first|exact hb|exact Below.refl _ _⟩
    rw [HN.out]
    simp_all
    try omega
end
section
mutual
def aH.nodes:aH -> Nat
 |.mk _ _ _ args=>1+cZ args
def cZ:List aH -> Nat
 |[]=>0
 |e::es=>1+e.nodes+cZ es
end
theorem nM:∀(l:List aH)(k:Nat)(h:k<l.length),l[k].nodes<cZ l
 |[],k,h=>by simp at h
 |e::es,0,h=>by rw [cZ];simp;omega
 |e::es,k+1,h=>by have:=nM es k (by simpa using h);rw [cZ];simp;omega
theorem tN:∀(l:List aH),l.length <= cZ l
 |[]=>by simp
 |e::es=>by have:=tN es;rw [cZ];simp;omega
end
section
open Go.RowKit
theorem pG(x:ByteArray)(h:x.size <= 4611686018427387904)(s:Sto):aL prog 44 [.c (.val (.string x))] [] s fun r s'=>r=.c (.val (.bool (bQ x))) /\ s'=s:=
 aHq (us:=[.string x]) rfl rfl (fun w=>aKu x w h) s
theorem nA(op:Int)(s:Sto):aL prog 154 [.c (.val (.int .i64 op))] [] s fun r s'=>r=.c (.val (.int .i64 ((aM op:Nat):Int))) /\ s'=s:=
 aHq (us:=[.int .i64 op]) rfl rfl (fun w=>aDw op w) s
theorem aIh(e:aH)(k:Nat)(hk:k<e.args.length)(s:Sto):aL prog 155 [.agg (cU e),nI k] [] s fun t s'=>t=.c (.val (.bool (cV e.op k e.args[k].op))) /\ s'=s:=by
 obtain ⟨bx,rw⟩:=s
 refine acB func155 rfl ?_
 show AWp prog _ ⟨29,_,⟨bx,rw⟩,[(0,.agg (cU e)),(1,nI k)]⟩ _
 refine go 7 fun b1=>?_
 refine aB [b1] (by kernel_rfl) ?_
 refine tks [(0,true),(1,true),(2,true)] 9 (by kernel_rfl) ?_
 refine go 4 ?_
 refine tr 3 (by kernel_rfl) rfl (bH fO cU e.args iU fP k rfl rfl rfl rfl (by omega) (by decide) runUnderlying87 sizeOf89) ?_
 refine tks [(4,true),(5,true),(7,true),(8,true)] 4 (by kernel_rfl) ?_
 refine go 5 ?_
 refine one 6 (by kernel_rfl) rfl rfl (bV rfl rfl (by decide) call154 rfl (nA (e.args[k].op) _) ?_)
 rintro _ _ ⟨rfl,rfl⟩
 refine one 9 (by kernel_rfl) rfl rfl (bV rfl rfl (by decide) call154 rfl (nA e.op _) ?_)
 rintro _ _ ⟨rfl,rfl⟩
 refine tks [(10,true),(11,true)] 0 (by kernel_rfl) ?_
 refine go 3 ?_
 refine aE (by kernel_rfl) ?_
 refine go 5 ?_
 by_cases h3:((aM (e.args[k].op):Nat):Int)<((aM e.op:Nat):Int)
 ·refine wcp true rfl (jZ h3) ?_
  refine go 13 ?_
  exact bHe (s':=⟨bx,rw⟩) rfl sb1 ⟨cX (by unfold cV;first|exact decide_eq_true (by omega)|exact decide_eq_false (by omega)),rfl⟩
 refine wcp false rfl (jQ h3) ?_
 refine go 3 ?_
 by_cases h4:((aM (e.args[k].op):Nat):Int)=((aM e.op:Nat):Int)
 ·refine wcp true rfl (eR h4) ?_
  refine go 2 ?_
  by_cases h5:((k:Nat):Int)=1
  ·refine wcp true rfl (eR h5) ?_
   refine go 6 ?_
   exact bHe (s':=⟨bx,rw⟩) rfl sb1 ⟨cX (by unfold cV;first|exact decide_eq_true (by omega)|exact decide_eq_false (by omega)),rfl⟩
  refine wcp false rfl (eD h5) ?_
  refine go 6 ?_
  exact bHe (s':=⟨bx,rw⟩) rfl sb1 ⟨cX (by unfold cV;first|exact decide_eq_true (by omega)|exact decide_eq_false (by omega)),rfl⟩
 refine wcp false rfl (eD h4) ?_
 refine go 9 ?_
 exact bHe (s':=⟨bx,rw⟩) rfl sb1 ⟨cX (by unfold cV;first|exact decide_eq_true (by omega)|exact decide_eq_false (by omega)),rfl⟩
theorem qQ(b:Int):∀(l:List aH)(j:Nat)(x:aH),cF b j (l++[x])=max (cF b j l) (dI x+if cV b (j+l.length) x.op then 1 else 0)
 |[],j,x=>by simp [cF]
 |y::l,j,x=>by
  rw [List.cons_append,cF,qQ b l (j+1) x,cF,Nat.max_assoc]
  have:j+1+l.length=j+(y::l).length:=by simp;omega
  rw [this]
theorem kF(b:Int)(l:List aH)(k:Nat)(h:k<l.length):cF b 0 (l.take (k+1))=max (cF b 0 (l.take k)) (dI l[k]+if cV b k l[k].op then 1 else 0):=by
 rw [List.take_succ_eq_append_getElem h,qQ,List.length_take,Nat.min_eq_left (by omega),Nat.zero_add]
theorem aBa(N:Nat):∀(e:aH),e.nodes <= N -> dI e+1 <= 2*e.nodes:=by
 induction N with
 |zero=>intro e h;cases e;rw [aH.nodes] at h;omega
 |succ N ih=>
  rintro ⟨op,num,name,args⟩ h
  rw [aH.nodes] at h
  have key:∀(l:List aH)(k:Nat),cZ l <= N -> cF op k l <= 2*cZ l:=by
   intro l
   induction l with
   |nil=>intro k _;rw [cF];omega
   |cons e es ih2=>
    intro k hl
    rw [cZ] at hl⊢
    rw [cF]
    have h1:=ih e (by omega)
    have h2:=ih2 (k+1) (by omega)
    split<;>omega
  have:=key args 0 (by omega)
  rw [dI,aH.nodes]
  split<;>omega
theorem sF(e:aH)(k:Nat)(h:k<e.args.length):e.args[k].nodes<e.nodes:=by
 cases e with
 |mk op num name args=>have:=nM args k h;rw [aH.nodes];show args[k].nodes<_;omega
theorem uC(e:aH):e.args.length<e.nodes:=by
 cases e with
 |mk op num name args=>have:=tN args;rw [aH.nodes];show args.length<_;omega
theorem tX(e:aH):dI e=cF e.op 0 e.args+if aM e.op=5 then 1 else 0:=by cases e;rw [dI];rfl
theorem aFv(e:aH)(hN:e.nodes <= 1000000000)(ih:∀k (h:k<e.args.length) (s:Sto),aL prog 116 [.agg (cU e.args[k])] [] s fun r s'=>r=.c (.val (.int .i64 ((dI e.args[k]:Nat):Int))) /\ s'=s)(s:Sto):aL prog 116 [.agg (cU e)] [] s fun t s'=>t=.c (.val (.int .i64 ((dI e:Nat):Int))) /\ s'=s:=by
 obtain ⟨bx,rw⟩:=s
 have hlen:=uC e
 refine acB func116 rfl ?_
 show AWp prog _ ⟨34,_,⟨bx,rw⟩,[(0,.agg (cU e))]⟩ _
 refine go 18 fun b1=>?_
 refine oC (e.args.length) 4 (fun k=>[(3,.c (.val (.int .i64 ((cF e.op 0 (e.args.take (k)):Nat):Int)))),(1,pP b1)]) (sA rfl) fun k hk=>?_
 show AWp prog _ ⟨34,_,_,(4,nI k)::[(3,.c (.val (.int .i64 ((cF e.op 0 (e.args.take (k)):Nat):Int)))),(1,pP b1)]⟩ _
 refine go 7 ?_
 by_cases h1:((k:Nat):Int)<((e.args.length:Nat):Int)
 ·refine wcp true rfl (jZ h1) ?_
  refine go 12 ?_
  refine wyz rfl (bH fO cU e.args iU fP k rfl rfl rfl rfl (by omega) (by decide) runUnderlying87 sizeOf89) ?_
  refine go 1 ?_
  refine wc0 rfl call116 rfl (ih k (by omega) _) ?_
  rintro _ _ ⟨rfl,rfl⟩
  refine go 6 ?_
  have hle:=aBa _ e.args[k] (Nat.le_refl _)
  have hnk:=sF e k (by omega)
  refine go 2 ?_
  refine wc0 rfl call155 rfl (aIh e k (by omega) _) ?_
  rintro _ _ ⟨hr4,rfl⟩
  rcases Bool.eq_false_or_eq_true (cV e.op k e.args[k].op) with h5|h5
  ·rw [h5] at hr4
   subst hr4
   refine go 5 ?_
   refine wad rfl ?_
   refine go 6 ?_
   have hmx:=kF e.op e.args k (by omega)
   refine wyz rfl (aNq _ rfl rfl rfl rfl) ?_
   refine go 6 ?_
   refine wad rfl ?_
   refine go 2 ?_
   exact ⟨by omega,(aG rfl (gQ (by omega)) (aG rfl (gQ (by rw [kF _ _ _ (by omega),h5];simp only [if_true,Bool.false_eq_true,if_false];omega)) (sA rfl)))⟩
  rw [h5] at hr4
  subst hr4
  refine go 8 ?_
  have hmx:=kF e.op e.args k (by omega)
  refine wyz rfl (aNq _ rfl rfl rfl rfl) ?_
  refine go 6 ?_
  refine wad rfl ?_
  refine go 2 ?_
  exact ⟨by omega,(aG rfl (gQ (by omega)) (aG rfl (gQ (by rw [kF _ _ _ (by omega),h5];simp only [if_true,Bool.false_eq_true,if_false];omega)) (sA rfl)))⟩
 refine wcp false rfl (jQ h1) ?_
 refine go 11 ?_
 have hle0:=aBa _ e (Nat.le_refl _)
 have hq:=tX e
 obtain rfl:k=e.args.length:=by omega
 rw [take_of_length_le (Nat.le_refl _)]
 refine go 2 ?_
 refine wc0 rfl call154 rfl (nA e.op _) ?_
 rintro _ _ ⟨rfl,rfl⟩
 by_cases h10:((aM e.op:Nat):Int)=5
 ·refine wcp true rfl (eR h10) ?_
  refine go 5 ?_
  refine wad rfl ?_
  refine go 10 ?_
  exact bHe (s':=⟨bx,rw⟩) rfl sb1 ⟨aPy (by rw [tX,if_pos (by omega)];first|rfl|simp),rfl⟩
 refine wcp false rfl (eD h10) ?_
 refine go 12 ?_
 exact bHe (s':=⟨bx,rw⟩) rfl sb1 ⟨aPy (by rw [tX,if_neg (by omega)];first|rfl|simp),rfl⟩
theorem aGd:∀(N:Nat)(e:aH),e.nodes <= N -> N <= 1000000000 -> ∀s:Sto,aL prog 116 [.agg (cU e)] [] s fun r s'=>r=.c (.val (.int .i64 ((dI e:Nat):Int))) /\ s'=s
 |0,e,h,_=>by cases e;rw [aH.nodes] at h;omega
 |N+1,e,h,hN=>aFv e (by omega) fun k hk s=>aGd N e.args[k] (by have:=sF e k hk;omega) (by omega) s
theorem dZ(e:aH):eO e=((if aM e.op=6 then jG e.op e.num e.name else decide (e.num=0) && decide (e.name=aK)) && decide (e.args.length=arity e.op) && dY e.args):=by cases e;rw [eO];rfl
theorem pK:∀(l:List aH)(k:Nat)(h:k<l.length),dY (l.take (k+1))=(dY (l.take k) && eO l[k])
 |e::es,0,_=>by simp [dY]
 |e::es,k+1,h=>by
  rw [List.take_succ_cons,List.take_succ_cons,dY,dY,pK es k (by simpa using h),Bool.and_assoc]
  rfl
theorem oF:∀(l:List aH)(k:Nat)(h:k<l.length),eO l[k]=false -> dY l=false
 |e::es,0,_,hs=>by rw [dY];simp only [List.getElem_cons_zero] at hs;rw [hs];rfl
 |e::es,k+1,h,hs=>by rw [dY,oF es k (by simpa using h) (by simpa using hs),Bool.and_false]
theorem aHf(e:aH)(hsz:e.name.size <= 4611686018427387904)(hN:e.nodes <= 1000000000)(ih:∀k (h:k<e.args.length) (s:Sto),aL prog 115 [.agg (cU e.args[k])] [] s fun r s'=>r=.c (.val (.bool (eO e.args[k]))) /\ s'=s)(s:Sto):aL prog 115 [.agg (cU e)] [] s fun t s'=>t=.c (.val (.bool (eO e))) /\ s'=s:=by
 obtain ⟨bx,rw⟩:=s
 have hlen:=uC e
 refine acB func115 rfl ?_
 show AWp prog _ ⟨77,_,⟨bx,rw⟩,[(0,.agg (cU e))]⟩ _
 refine go 16 fun b1=>?_
 refine wc0 rfl call154 rfl (nA e.op _) ?_
 rintro _ _ ⟨rfl,rfl⟩
 refine go 5 ?_
 by_cases h2:((aM e.op:Nat):Int)=6
 ·refine wcp true rfl (eR h2) ?_
  refine go 10 ?_
  refine aB [b1] (by kernel_rfl) ?_
  refine tks [(0,true),(1,true)] 26 (by kernel_rfl) ?_
  refine go 3 ?_
  by_cases h4:e.op=1
  ·refine tr 2 (by kernel_rfl) rfl (bO true rfl rfl rfl (eR h4)) ?_
   refine tks [(3,true),(4,true),(5,true)] 22 (by kernel_rfl) ?_
   refine go 4 ?_
   by_cases h5:(0:Int) <= e.num
   ·refine tr 6 (by kernel_rfl) rfl (bO true rfl rfl rfl (aMq h5)) ?_
    refine tks [(7,true),(8,true),(9,true),(10,true)] 17 (by kernel_rfl) ?_
    refine go 5 ?_
    by_cases h6:e.name=aK
    ·refine tr 11 (by kernel_rfl) rfl (aZ true rfl rfl rfl (aL8 h6)) ?_
     refine tks [(12,true),(13,true),(14,true)] 13 (by kernel_rfl) ?_
     refine go 4 ?_
     refine tr 15 (by kernel_rfl) rfl (bO false rfl rfl rfl (eD (by omega))) ?_
     refine tks [(16,true),(17,true),(18,true),(19,true),(20,true),(21,true),(22,true),(23,true),(24,true),(25,true),(26,true),(27,true)] 0 (by kernel_rfl) ?_
     refine go 13 ?_
     refine aE (by kernel_rfl) ?_
     refine go 22 ?_
     by_cases h8:((e.args.length:Nat):Int)=0
     ·refine wcp false rfl (xG h8) ?_
      refine go 2 ?_
      refine wcp false rfl (by simp [bC]) ?_
      refine go 23 ?_
      refine lE (fun k=>dY (e.args.take k)=true) (e.args.length) 6 (fun k=>[(1,pP b1),(3,.c (.val (.int .i64 0)))]) rfl (sA rfl) fun k hk hvk=>?_
      replace hvk:dY (e.args.take k)=true:=hvk
      show AWp prog _ ⟨77,_,_,(6,nI k)::[(1,pP b1),(3,.c (.val (.int .i64 0)))]⟩ _
      refine go 5 ?_
      refine wcp false rfl (jQ (by omega)) ?_
      refine go 14 ?_
      exact bHe (s':=⟨bx,rw⟩) rfl sb1 ⟨cX (by rw [dZ];rw [take_of_length_le (by omega)] at hvk;rw [hvk];unfold jG arity;(repeat' split)<;>first|omega|(simp_all;done)|(simp_all;omega)),rfl⟩
     refine wcp true rfl (xL h8) ?_
     refine go 24 ?_
     exact bHe (s':=⟨bx,rw⟩) rfl sb1 ⟨cX (by rw [dZ];unfold jG arity;(repeat' split)<;>first|omega|(simp_all;done)|(simp_all;omega)),rfl⟩
    refine tr 11 (by kernel_rfl) rfl (aZ false rfl rfl rfl (aLs h6)) ?_
    refine tks [(12,true),(13,true),(14,true)] 13 (by kernel_rfl) ?_
    refine go 4 ?_
    refine tr 15 (by kernel_rfl) rfl (bO false rfl rfl rfl (eD (by omega))) ?_
    refine tks [(16,true),(17,true),(18,true),(19,true),(20,true),(21,true),(22,true),(23,true),(24,true),(25,true),(26,true),(27,true)] 0 (by kernel_rfl) ?_
    refine go 13 ?_
    refine aE (by kernel_rfl) ?_
    refine go 20 ?_
    exact bHe (s':=⟨bx,rw⟩) rfl sb1 ⟨cX (by rw [dZ];unfold jG arity;(repeat' split)<;>first|omega|(simp_all;done)|(simp_all;omega)),rfl⟩
   refine tr 6 (by kernel_rfl) rfl (bO false rfl rfl rfl (aMx h5)) ?_
   refine tks [(7,true),(8,true),(9,true),(10,true),(11,true),(12,true),(13,true),(14,true)] 13 (by kernel_rfl) ?_
   refine go 9 ?_
   refine tr 15 (by kernel_rfl) rfl (bO false rfl rfl rfl (eD (by omega))) ?_
   refine tks [(16,true),(17,true),(18,true),(19,true),(20,true),(21,true),(22,true),(23,true),(24,true),(25,true),(26,true),(27,true)] 0 (by kernel_rfl) ?_
   refine go 13 ?_
   refine aE (by kernel_rfl) ?_
   refine go 20 ?_
   exact bHe (s':=⟨bx,rw⟩) rfl sb1 ⟨cX (by rw [dZ];unfold jG arity;(repeat' split)<;>first|omega|(simp_all;done)|(simp_all;omega)),rfl⟩
  refine tr 2 (by kernel_rfl) rfl (bO false rfl rfl rfl (eD h4)) ?_
  refine tks [(3,true),(4,true),(5,true),(6,true),(7,true),(8,true),(9,true),(10,true),(11,true),(12,true),(13,true),(14,true)] 13 (by kernel_rfl) ?_
  refine go 13 ?_
  by_cases h14:e.op=2
  ·refine tr 15 (by kernel_rfl) rfl (bO true rfl rfl rfl (eR h14)) ?_
   refine tks [(16,true),(17,true),(18,true)] 9 (by kernel_rfl) ?_
   refine go 4 ?_
   by_cases h15:e.num=0
   ·refine tr 19 (by kernel_rfl) rfl (bO true rfl rfl rfl (eR h15)) ?_
    refine tks [(20,true),(21,true),(22,true),(23,true)] 4 (by kernel_rfl) ?_
    refine go 5 ?_
    refine one 24 (by kernel_rfl) rfl rfl (bV rfl rfl (by decide) call44 rfl (pG e.name (by first|assumption|exact hsz) _) ?_)
    rintro _ _ ⟨hr16,rfl⟩
    rcases Bool.eq_false_or_eq_true (bQ e.name) with h17|h17
    ·rw [h17] at hr16
     subst hr16
     refine tks [(25,true),(26,true),(27,true)] 0 (by kernel_rfl) ?_
     refine go 4 ?_
     refine aE (by kernel_rfl) ?_
     refine go 22 ?_
     by_cases h19:((e.args.length:Nat):Int)=0
     ·refine wcp false rfl (xG h19) ?_
      refine go 2 ?_
      refine wcp false rfl (by simp [bC]) ?_
      refine go 23 ?_
      refine lE (fun k=>dY (e.args.take k)=true) (e.args.length) 6 (fun k=>[(1,pP b1),(3,.c (.val (.int .i64 0)))]) rfl (sA rfl) fun k hk hvk=>?_
      replace hvk:dY (e.args.take k)=true:=hvk
      show AWp prog _ ⟨77,_,_,(6,nI k)::[(1,pP b1),(3,.c (.val (.int .i64 0)))]⟩ _
      refine go 5 ?_
      refine wcp false rfl (jQ (by omega)) ?_
      refine go 14 ?_
      exact bHe (s':=⟨bx,rw⟩) rfl sb1 ⟨cX (by rw [dZ];rw [take_of_length_le (by omega)] at hvk;rw [hvk];unfold jG arity;(repeat' split)<;>first|omega|(simp_all;done)|(simp_all;omega)),rfl⟩
     refine wcp true rfl (xL h19) ?_
     refine go 24 ?_
     exact bHe (s':=⟨bx,rw⟩) rfl sb1 ⟨cX (by rw [dZ];unfold jG arity;(repeat' split)<;>first|omega|(simp_all;done)|(simp_all;omega)),rfl⟩
    rw [h17] at hr16
    subst hr16
    refine tks [(25,true),(26,true),(27,true)] 0 (by kernel_rfl) ?_
    refine go 4 ?_
    refine aE (by kernel_rfl) ?_
    refine go 20 ?_
    exact bHe (s':=⟨bx,rw⟩) rfl sb1 ⟨cX (by rw [dZ];unfold jG arity;(repeat' split)<;>first|omega|(simp_all;done)|(simp_all;omega)),rfl⟩
   refine tr 19 (by kernel_rfl) rfl (bO false rfl rfl rfl (eD h15)) ?_
   refine tks [(20,true),(21,true),(22,true),(23,true),(24,true),(25,true),(26,true),(27,true)] 0 (by kernel_rfl) ?_
   refine go 9 ?_
   refine aE (by kernel_rfl) ?_
   refine go 20 ?_
   exact bHe (s':=⟨bx,rw⟩) rfl sb1 ⟨cX (by rw [dZ];unfold jG arity;(repeat' split)<;>first|omega|(simp_all;done)|(simp_all;omega)),rfl⟩
  refine tr 15 (by kernel_rfl) rfl (bO false rfl rfl rfl (eD h14)) ?_
  refine tks [(16,true),(17,true),(18,true),(19,true),(20,true),(21,true),(22,true),(23,true),(24,true),(25,true),(26,true),(27,true)] 0 (by kernel_rfl) ?_
  refine go 13 ?_
  refine aE (by kernel_rfl) ?_
  refine go 20 ?_
  exact bHe (s':=⟨bx,rw⟩) rfl sb1 ⟨cX (by rw [dZ];unfold jG arity;(repeat' split)<;>first|omega|(simp_all;done)|(simp_all;omega)),rfl⟩
 refine wcp false rfl (eD h2) ?_
 refine go 6 ?_
 by_cases h27:((aM e.op:Nat):Int)=5
 ·refine wcp true rfl (eR h27) ?_
  refine go 16 ?_
  by_cases h29:((e.args.length:Nat):Int)=1
  ·refine wcp false rfl (xG h29) ?_
   refine go 2 ?_
   refine wcp true rfl rfl ?_
   refine go 3 ?_
   by_cases h30:e.num=0
   ·refine wcp false rfl (xG h30) ?_
    refine go 3 ?_
    by_cases h31:e.name=aK
    ·refine wyz rfl (aZ false rfl rfl rfl (aMz h31)) ?_
     refine go 15 ?_
     refine lE (fun k=>dY (e.args.take k)=true) (e.args.length) 6 (fun k=>[(1,pP b1),(3,.c (.val (.int .i64 1)))]) rfl (sA rfl) fun k hk hvk=>?_
     replace hvk:dY (e.args.take k)=true:=hvk
     show AWp prog _ ⟨77,_,_,(6,nI k)::[(1,pP b1),(3,.c (.val (.int .i64 1)))]⟩ _
     refine go 5 ?_
     by_cases h33:((k:Nat):Int)<1
     ·refine wcp true rfl (jZ h33) ?_
      refine go 12 ?_
      refine wyz rfl (bH fO cU e.args iU fP k rfl rfl rfl rfl (by omega) (by decide) runUnderlying87 sizeOf89) ?_
      refine go 1 ?_
      refine wc0 rfl call115 rfl (ih k (by omega) _) ?_
      rintro _ _ ⟨hr35,rfl⟩
      rcases Bool.eq_false_or_eq_true (eO e.args[k]) with h36|h36
      ·rw [h36] at hr35
       subst hr35
       refine go 9 ?_
       refine wad rfl ?_
       refine go 2 ?_
       exact ⟨by omega,(by rw [pK _ _ (by omega),hvk,h36];rfl),(aG rfl (gQ (by omega)) (sA rfl))⟩
      rw [h36] at hr35
      subst hr35
      refine go 15 ?_
      exact bHe (s':=⟨bx,rw⟩) rfl sb1 ⟨cX (by rw [dZ,oF _ _ _ h36,Bool.and_false]),rfl⟩
     refine wcp false rfl (jQ h33) ?_
     refine go 14 ?_
     exact bHe (s':=⟨bx,rw⟩) rfl sb1 ⟨cX (by rw [dZ];rw [take_of_length_le (by omega)] at hvk;rw [hvk];unfold jG arity;(repeat' split)<;>first|omega|(simp_all;done)|(simp_all;omega)),rfl⟩
    refine wyz rfl (aZ true rfl rfl rfl (aLc h31)) ?_
    refine go 13 ?_
    exact bHe (s':=⟨bx,rw⟩) rfl sb1 ⟨cX (by rw [dZ];unfold jG arity;(repeat' split)<;>first|omega|(simp_all;done)|(simp_all;omega)),rfl⟩
   refine wcp true rfl (xL h30) ?_
   refine go 17 ?_
   exact bHe (s':=⟨bx,rw⟩) rfl sb1 ⟨cX (by rw [dZ];unfold jG arity;(repeat' split)<;>first|omega|(simp_all;done)|(simp_all;omega)),rfl⟩
  refine wcp true rfl (xL h29) ?_
  refine go 24 ?_
  exact bHe (s':=⟨bx,rw⟩) rfl sb1 ⟨cX (by rw [dZ];unfold jG arity;(repeat' split)<;>first|omega|(simp_all;done)|(simp_all;omega)),rfl⟩
 refine wcp false rfl (eD h27) ?_
 refine go 14 ?_
 by_cases h44:((e.args.length:Nat):Int)=2
 ·refine wcp false rfl (xG h44) ?_
  refine go 2 ?_
  refine wcp true rfl rfl ?_
  refine go 3 ?_
  by_cases h45:e.num=0
  ·refine wcp false rfl (xG h45) ?_
   refine go 3 ?_
   by_cases h46:e.name=aK
   ·refine wyz rfl (aZ false rfl rfl rfl (aMz h46)) ?_
    refine go 15 ?_
    refine lE (fun k=>dY (e.args.take k)=true) (e.args.length) 6 (fun k=>[(1,pP b1),(3,.c (.val (.int .i64 2)))]) rfl (sA rfl) fun k hk hvk=>?_
    replace hvk:dY (e.args.take k)=true:=hvk
    show AWp prog _ ⟨77,_,_,(6,nI k)::[(1,pP b1),(3,.c (.val (.int .i64 2)))]⟩ _
    refine go 5 ?_
    by_cases h48:((k:Nat):Int)<2
    ·refine wcp true rfl (jZ h48) ?_
     refine go 12 ?_
     refine wyz rfl (bH fO cU e.args iU fP k rfl rfl rfl rfl (by omega) (by decide) runUnderlying87 sizeOf89) ?_
     refine go 1 ?_
     refine wc0 rfl call115 rfl (ih k (by omega) _) ?_
     rintro _ _ ⟨hr50,rfl⟩
     rcases Bool.eq_false_or_eq_true (eO e.args[k]) with h51|h51
     ·rw [h51] at hr50
      subst hr50
      refine go 9 ?_
      refine wad rfl ?_
      refine go 2 ?_
      exact ⟨by omega,(by rw [pK _ _ (by omega),hvk,h51];rfl),(aG rfl (gQ (by omega)) (sA rfl))⟩
     rw [h51] at hr50
     subst hr50
     refine go 15 ?_
     exact bHe (s':=⟨bx,rw⟩) rfl sb1 ⟨cX (by rw [dZ,oF _ _ _ h51,Bool.and_false]),rfl⟩
    refine wcp false rfl (jQ h48) ?_
    refine go 14 ?_
    exact bHe (s':=⟨bx,rw⟩) rfl sb1 ⟨cX (by rw [dZ];rw [take_of_length_le (by omega)] at hvk;rw [hvk];unfold jG arity;(repeat' split)<;>first|omega|(simp_all;done)|(simp_all;omega)),rfl⟩
   refine wyz rfl (aZ true rfl rfl rfl (aLc h46)) ?_
   refine go 13 ?_
   exact bHe (s':=⟨bx,rw⟩) rfl sb1 ⟨cX (by rw [dZ];unfold jG arity;(repeat' split)<;>first|omega|(simp_all;done)|(simp_all;omega)),rfl⟩
  refine wcp true rfl (xL h45) ?_
  refine go 17 ?_
  exact bHe (s':=⟨bx,rw⟩) rfl sb1 ⟨cX (by rw [dZ];unfold jG arity;(repeat' split)<;>first|omega|(simp_all;done)|(simp_all;omega)),rfl⟩
 refine wcp true rfl (xL h44) ?_
 refine go 24 ?_
 exact bHe (s':=⟨bx,rw⟩) rfl sb1 ⟨cX (by rw [dZ];unfold jG arity;(repeat' split)<;>first|omega|(simp_all;done)|(simp_all;omega)),rfl⟩
end
section
def cY.small(N:Nat)(r:cY):Prop:=r.index.length <= 1 /\ ∀x,x∈r.index -> x.nodes <= N
def eN.small(N:Nat)(a:eN):Prop:=a.ref.small N /\ a.expr.nodes <= N
mutual
def aJ.small(N:Nat):aJ -> Prop
 |.mk _ _ e r a t f=>e.nodes <= N /\ r.small N /\ a.length <= N /\ (∀x,x∈a -> x.small N) /\ t.length <= N /\ smalls N t /\ f.length <= N /\ smalls N f
def smalls(N:Nat):List aJ -> Prop
 |[]=>True
 |s::r=>s.small N /\ smalls N r
end
theorem nR{N:Nat}:∀{l:List aJ},smalls N l↔∀s,s∈l -> s.small N
 |[]=>by rw [smalls];simp
 |s::r=>by rw [smalls,nR (l:=r)];simp
def bS.small(N:Nat)(f:bS):Prop:=f.params.length <= N /\ f.body.length <= N /\ smalls N f.body
def cK.small(N:Nat)(p:cK):Prop:=p.globals.length <= N /\ p.mutexes.length <= N /\ p.funcs.length <= N /\ ∀f,f∈p.funcs -> f.small N
theorem zT{N:Nat}(h:1 <= N):aH.zero.nodes <= N:=by simpa [aH.zero,aH.nodes,cZ] using h
theorem xO{N:Nat}:cY.zero.small N:=⟨by simp [cY.zero],by simp [cY.zero]⟩
theorem cN{α β:Type}{r:bN α}{f:α -> Nat -> bN β}{y:β}{k2:Nat}(h:r.bind f=.ok y k2):∃x k1,r=.ok x k1 /\ f x k1=.ok y k2:=by
 cases r with
 |ok x k=>exact ⟨x,k,rfl,h⟩
 |err a e=>cases h
section
variable {l:List Tok}{N:Nat}(hel:rP l)(h1:1 <= N)(hlN:l.length <= N)(hf:∀k x k',k<l.length -> lJ l k=.ok x k' -> x.nodes <= N)
include hel hf
theorem tR{k k':Nat}{x:cY}(hk:k<l.length)(h:xV l k=.ok x k'):x.small N:=by
 obtain ⟨n,k1,h1,h2⟩:=cN h
 have hk1:=gZ hel hk
 rw [h1] at hk1
 unfold jT at h2
 split at h2
 ·rename_i hs
  obtain ⟨e,k2,h3,h4⟩:=cN h2
  obtain ⟨_,k3,_,h5⟩:=cN h4
  cases h5
  exact ⟨by simp,fun y hy=>by simp at hy;subst hy;exact hf _ _ _ (eF hel hk1.2 hs) h3⟩
 cases h2;exact ⟨by simp,by simp⟩
include h1
theorem aHe{k k':Nat}{x:eN}(hk:k<l.length)(h:rC l k=.ok x k'):x.small N:=by
 unfold rC at h
 split at h
 ·rename_i hs
  obtain ⟨r,k1,h1',h2⟩:=cN h
  cases h2
  exact ⟨tR hel hf (dK hel hk hs) h1',zT h1⟩
 obtain ⟨e,k1,h1',h2⟩:=cN h
 cases h2
 exact ⟨xO,hf _ _ _ hk h1'⟩
omit h1 hf in
theorem wY{α:Type}{el:Nat -> Nat -> bN α}{Q:α -> Prop}(he:∀n k,k<l.length -> (el n k).In l k)(hq:∀n k x k',k<l.length -> el n k=.ok x k' -> Q x):∀(n:Nat)(acc:List α)(k k':Nat)(out:List α),k<l.length -> acc.length <= k -> (∀x,x∈acc -> Q x) -> lI l el n acc k=.ok out k' -> out.length <= l.length /\ ∀x,x∈out -> Q x
 |0,acc,k,k',out,_,_,_,h=>by unfold lI at h;cases h
 |n+1,acc,k,k',out,hk,ha,hQ,h=>by
  unfold lI at h
  obtain ⟨x,k1,h1,h2⟩:=cN h
  have hk1:=he acc.length k hk
  rw [h1] at hk1
  have hQ':∀y,y∈acc++[x] -> Q y:=by
   intro y hy
   rcases mem_append.1 hy with hy|hy
   ·exact hQ y hy
   simp at hy;subst hy;exact hq _ _ _ _ hk h1
  have hl1:(acc++[x]).length=acc.length+1:=by simp
  have:=hk1.1
  have:=hk1.2
  split at h2
  ·rename_i hs
   exact wY he hq n _ (k1+1) k' out (eF hel hk1.2 hs) (by omega) hQ' h2
  obtain ⟨_,k3,_,h5⟩:=cN h2
  cases h5
  exact ⟨by omega,hQ'⟩
omit h1 hf in
theorem tD{α:Type}{el:Nat -> Nat -> bN α}{Q:α -> Prop}(he:∀n k,k<l.length -> (el n k).In l k)(hq:∀n k x k',k<l.length -> el n k=.ok x k' -> Q x){k k':Nat}{out:List α}(hk:k<l.length)(h:jC l el k=.ok out k'):out.length <= l.length /\ ∀x,x∈out -> Q x:=by
 obtain ⟨_,k1,h1,h2⟩:=cN h
 have hk1:=gM hel [40] hk
 rw [h1] at hk1
 split at h2
 ·cases h2;exact ⟨by simp,by simp⟩
 exact wY hel he hq _ _ _ _ _ hk1.2 (by simp) (by simp) h2
include hlN
theorem xP{k k':Nat}{x:List eN}(hk:k<l.length)(h:rA l k=.ok x k'):x.length <= N /\ ∀a,a∈x -> a.small N:=by
 have:=tD hel (Q:=fun a=>a.small N) (fun _ _ hk=>aDl hel hk) (fun n k x k' hk h=>aHe hel h1 hf hk h) hk h
 exact ⟨by omega,this.2⟩
omit hlN h1 hf hel in
theorem mY{s x:aJ}{k k':Nat}(h:oO l s k=.ok x k'):x=s:=by
 obtain ⟨_,k3,_,h5⟩:=cN h
 cases h5;rfl
omit hlN hel hf in
theorem kL{kd:Int}{n:ByteArray}{e:aH}{r:cY}{a:List eN}(he:e.nodes <= N)(hr:r.small N)(ha:a.length <= N /\ ∀x,x∈a -> x.small N):(aJ.mk kd n e r a [] []).small N:=by
 rw [aJ.small]
 exact ⟨he,hr,ha.1,ha.2,by simp,by rw [smalls];trivial,by simp,by rw [smalls];trivial⟩
omit hlN hel hf in
theorem aQa:([]:List eN).length <= N /\ ∀x,x∈([]:List eN) -> x.small N:=⟨by simp,by simp⟩
theorem aF4{blk:Nat -> bN (List aJ)}(hb:∀k,k<l.length -> (blk k).In l k)(hbs:∀k x k',k<l.length -> blk k=.ok x k' -> x.length <= N /\ smalls N x){k k':Nat}{x:aJ}(hk:k<l.length)(h:fB l blk k=.ok x k'):x.small N:=by
 have hz:=zT h1
 have hrz:=xO (N:=N)
 have hna:=aQa h1 (N:=N)
 unfold fB at h
 split at h
 ·rename_i hw
  have hk:=dK hel hk hw
  obtain ⟨n,k1,g1,g⟩:=cN h
  have i1:=gZ hel hk
  rw [g1] at i1
  obtain ⟨_,k2,g2,g⟩:=cN g
  have i2:=gM hel [61] i1.2
  rw [g2] at i2
  obtain ⟨e,k3,g3,g⟩:=cN g
  rw [mY g]
  exact kL h1 (hf _ _ _ i2.2 g3) hrz hna
 split at h
 ·rename_i hw
  have hk:=dK hel hk hw
  obtain ⟨n,k1,g1,g⟩:=cN h
  have i1:=gZ hel hk
  rw [g1] at i1
  obtain ⟨a,k2,g2,g⟩:=cN g
  rw [mY g]
  exact kL h1 hz hrz (xP hel h1 hlN hf i1.2 g2)
 split at h
 ·rename_i hw
  have hk:=dK hel hk hw
  obtain ⟨r,k1,g1,g⟩:=cN h
  rw [mY g]
  exact kL h1 hz (tR hel hf hk g1) hna
 split at h
 ·rename_i hw
  have hk:=dK hel hk hw
  obtain ⟨r,k1,g1,g⟩:=cN h
  rw [mY g]
  exact kL h1 hz (tR hel hf hk g1) hna
 split at h
 ·rename_i hw
  have hk:=dK hel hk hw
  obtain ⟨e,k1,g1,g⟩:=cN h
  have i1:=kY hel hk
  rw [g1] at i1
  obtain ⟨t,k2,g2,g⟩:=cN g
  have i2:=hb _ i1.2
  rw [g2] at i2
  have s2:=hbs _ _ _ i1.2 g2
  unfold tA at g
  split at g
  ·rename_i hw2
   obtain ⟨f,k3,g3,g⟩:=cN g
   cases g
   have s3:=hbs _ _ _ (dK hel i2.2 hw2) g3
   rw [aJ.small]
   exact ⟨hf _ _ _ hk g1,hrz,hna.1,hna.2,s2.1,s2.2,s3.1,s3.2⟩
  cases g
  rw [aJ.small]
  exact ⟨hf _ _ _ hk g1,hrz,hna.1,hna.2,s2.1,s2.2,by simp,by rw [smalls];trivial⟩
 split at h
 ·rename_i hw
  have hk:=dK hel hk hw
  obtain ⟨e,k1,g1,g⟩:=cN h
  have i1:=kY hel hk
  rw [g1] at i1
  obtain ⟨t,k2,g2,g⟩:=cN g
  have s2:=hbs _ _ _ i1.2 g2
  cases g
  rw [aJ.small]
  exact ⟨hf _ _ _ hk g1,hrz,hna.1,hna.2,s2.1,s2.2,by simp,by rw [smalls];trivial⟩
 split at h
 ·rename_i hw
  rw [mY h]
  exact kL h1 hz hrz hna
 obtain ⟨n,k1,g1,g⟩:=cN h
 have i1:=gZ hel hk
 rw [g1] at i1
 unfold iB at g
 split at g
 ·rename_i hs
  obtain ⟨e,k2,g2,g⟩:=cN g
  rw [mY g]
  exact kL h1 (hf _ _ _ (eF hel i1.2 hs) g2) hrz hna
 obtain ⟨a,k2,g2,g⟩:=cN g
 rw [mY g]
 exact kL h1 hz hrz (xP hel h1 hlN hf i1.2 g2)
omit h1 hlN hf in
theorem vE{st:Nat -> bN aJ}(hs:∀k,k<l.length -> (st k).In l k)(hss:∀k x k',k<l.length -> st k=.ok x k' -> x.small N):∀(n:Nat)(acc:List aJ)(k k':Nat)(out:List aJ),k<l.length -> acc.length <= k -> (∀x,x∈acc -> x.small N) -> eS l st n acc k=.ok out k' -> out.length <= l.length /\ ∀x,x∈out -> x.small N
 |0,acc,k,k',out,_,_,_,h=>by unfold eS at h;cases h
 |n+1,acc,k,k',out,hk,ha,hQ,h=>by
  unfold eS at h
  split at h
  ·cases h;exact ⟨by omega,hQ⟩
  obtain ⟨x,k1,h1,h2⟩:=cN h
  have hk1:=hs k hk
  rw [h1] at hk1
  have:=hk1.1
  exact vE hs hss n _ k1 k' out hk1.2 (by simp;omega) (fun y hy=>by
   rcases mem_append.1 hy with hy|hy
   ·exact hQ y hy
   simp at hy;subst hy;exact hss _ _ _ hk h1) h2
theorem uT:∀(d k:Nat)(x:List aJ)(k':Nat),k<l.length -> eX l d k=.ok x k' -> x.length <= N /\ smalls N x
 |0,k,x,k',_,h=>by unfold eX at h;split at h<;>cases h
 |d+1,k,x,k',hk,h=>by
  unfold eX at h
  obtain ⟨_,k1,g1,g⟩:=cN h
  have i1:=gM hel [123] hk
  rw [g1] at i1
  have:=vE hel (N:=N) (fun k hk=>zE hel (fun k hk=>pB hel d k hk) hk) (fun k x k' hk h=>aF4 hel h1 hlN hf (fun k hk=>pB hel d k hk) (fun k x k' hk h=>uT d k x k' hk h) hk h) _ _ _ _ _ i1.2 (by simp) (by simp) g
  exact ⟨by omega,nR.2 this.2⟩
theorem aF3{k k':Nat}{x:bS}(hk:k<l.length)(h:sW l k=.ok x k'):x.small N:=by
 obtain ⟨n,k1,g1,g⟩:=cN h
 have i1:=gZ hel hk
 rw [g1] at i1
 obtain ⟨p,k2,g2,g⟩:=cN g
 have i2:=tK hel (el:=fQ l) (fun n k hk=>sJ hel (n:=n) hk) i1.2
 rw [g2] at i2
 have s2:=tD hel (el:=fQ l) (Q:=fun _=>True) (fun n k hk=>sJ hel (n:=n) hk) (fun _ _ _ _ _ _=>trivial) i1.2 g2
 obtain ⟨b,k3,g3,g⟩:=cN g
 cases g
 have s3:=uT hel h1 hlN hf _ _ _ _ i2.2 g3
 exact ⟨by show p.length <= N;omega,s3.1,s3.2⟩
theorem aFo{x y:cK}{k k':Nat}(hk:k<l.length)(hx:x.small N)(hx2:x.globals.length+x.mutexes.length+x.funcs.length <= k)(h:gR l x k=.ok y k'):y.small N /\ y.globals.length+y.mutexes.length+y.funcs.length <= k+1:=by
 obtain ⟨x1,x2,x3,x4⟩:=hx
 unfold gR at h
 split at h
 ·split at h
  ·cases h
  obtain ⟨g,k1,g1,gg⟩:=cN h
  cases gg
  exact ⟨⟨by show (x.globals++[g]).length <= N;simp;omega,x2,x3,x4⟩,by show (x.globals++[g]).length+_+_ <= _;simp;omega⟩
 split at h
 ·split at h
  ·cases h
  obtain ⟨g,k1,g1,gg⟩:=cN h
  cases gg
  exact ⟨⟨x1,by show (x.mutexes++[g]).length <= N;simp;omega,x3,x4⟩,by show _+(x.mutexes++[g]).length+_ <= _;simp;omega⟩
 split at h
 ·split at h
  ·cases h
  obtain ⟨g,k1,g1,gg⟩:=cN h
  cases gg
  exact ⟨⟨x1,by show (x.mutexes++[g]).length <= N;simp;omega,x3,x4⟩,by show _+(x.mutexes++[g]).length+_ <= _;simp;omega⟩
 split at h
 ·rename_i hw
  split at h
  ·cases h
  obtain ⟨g,k1,g1,gg⟩:=cN h
  cases gg
  refine ⟨⟨x1,x2,by show (x.funcs++[g]).length <= N;simp;omega,fun f hf'=>?_⟩,by show _+_+(x.funcs++[g]).length <= _;simp;omega⟩
  rcases mem_append.1 hf' with hf'|hf'
  ·exact x4 f hf'
  simp at hf';subst hf';exact aF3 hel h1 hlN hf (dK hel hk hw) g1
 cases h
theorem wS:∀(n:Nat)(x:cK)(k:Nat)(y:cK)(k':Nat),k<l.length -> x.small N -> x.globals.length+x.mutexes.length+x.funcs.length <= k -> lK l n x k=.ok y k' -> y.small N
 |0,_,k,_,_,_,_,_,h=>by unfold lK at h;cases h
 |n+1,x,k,y,k',hk,hx,hx2,h=>by
  unfold lK at h
  split at h
  ·cases h;exact hx
  obtain ⟨z,k1,g1,g⟩:=cN h
  have i1:=aAj hel (x:=x) hk
  rw [g1] at i1
  have s1:=aFo hel h1 hlN hf hk hx hx2 g1
  have:=i1.1
  exact wS n z k1 y k' i1.2 s1.1 (by omega) g
theorem yV{y:cK}{k':Nat}(h:fH l=.ok y k'):y.small N:=
 wS hel h1 hlN hf _ _ _ _ _ (by obtain ⟨h0,_⟩:=hel;exact h0) ⟨by simp,by simp,by simp,by simp⟩ (by simp) h
end
end
end Go.Proofs.YtlmpchoaebhhmaaGreatDoor
