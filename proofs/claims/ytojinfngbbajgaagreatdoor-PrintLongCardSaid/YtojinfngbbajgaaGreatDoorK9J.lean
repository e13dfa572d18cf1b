import Derived.Test.YtojinfngbbajgaaGreatDoorK8J
import Derived.Test.YtojinfngbbajgaaGreatDoorK7J
import Derived.Test.YtojinfngbbajgaaGreatDoorK1J
import Derived.Deep.QuietTactic
import Derived.BigQuiet
import Derived.StillTailTactics
import Derived.Lib.Hide
import Derived.Lib.LaidTab
import Derived.Shelf.Strconv.Itoa3
import Derived.Test.YtojinfngbbajgaaGreatDoorK5J
import Derived.Test.YtojinfngbbajgaaGreatDoorK6J
set_option linter.all false
set_option synthInstance.maxHeartbeats 1000000
set_option synthInstance.maxSize 1000000
set_option maxHeartbeats 1600000
set_option maxRecDepth 100000
namespace Go.Proofs.YtojinfngbbajgaaGreatDoor
open Go.Proofs.Tryz
open List (length_append length_cons length_nil mem_append mem_cons not_mem_nil append_assoc getElem_mem take_of_length_le)
section
open Go.RowKit
section
variable {m n:Int}
theorem eR(h:m=n):bC .eql m n=some true:=by simp [bC,h]
theorem eD(h:¬m=n):bC .eql m n=some false:=by simp [bC,h]
theorem xL(h:¬m=n):bC .neq m n=some true:=by simp [bC,h]
theorem xG(h:m=n):bC .neq m n=some false:=by simp [bC,h]
theorem jZ(h:m<n):bC .lss m n=some true:=by simp [bC,h]
theorem jQ(h:¬m<n):bC .lss m n=some false:=by simp only [bC,decide_eq_false h]
theorem aPz(h:m <= n):bC .leq m n=some true:=by simp [bC,h]
theorem aPx(h:¬m <= n):bC .leq m n=some false:=by simp only [bC,decide_eq_false h]
theorem mH(h:n<m):bC .gtr m n=some true:=by simp [bC,h]
theorem mI(h:¬n<m):bC .gtr m n=some false:=by simp only [bC,decide_eq_false h]
theorem aMq(h:n <= m):bC .geq m n=some true:=by simp [bC,h]
theorem aMx(h:¬n <= m):bC .geq m n=some false:=by simp only [bC,decide_eq_false h]
end
section
variable {m n:ByteArray}
theorem aL8(h:m=n):oM .eql m n=some true:=by simp [oM,h]
theorem aLs(h:¬m=n):oM .eql m n=some false:=by simp [oM,h]
theorem aLc(h:¬m=n):oM .neq m n=some true:=by simp [oM,h]
theorem aMz(h:m=n):oM .neq m n=some false:=by simp [oM,h]
end
section
variable {P:Program}{U T:List Nat}{o:Oper}{n d:Nat}{ts:List (Nat×AT)}{s:Sto}{K:AS -> Prop}{st:AS}{Q:Exit -> AS -> Prop}
theorem fL{t t':AT}(h:Wk t t')(hy:AY P U o st t):AY P U o st t':=fun a w hs hu=>
 let ⟨v,h1,h2⟩:=hy a w hs hu
 ⟨v,h _ _ h1,h2⟩
theorem bZ{a b:Bool}(h:a=b):Wk (.c (.val (.bool a))) (.c (.val (.bool b))):=h▸Wk.refl _
theorem gQ{a b:Int}(h:a=b):Wk (.c (.val (.int .i64 a))) (.c (.val (.int .i64 b))):=h▸Wk.refl _
theorem jX{a b:ByteArray}(h:a=b):Wk (.c (.val (.string a))) (.c (.val (.string b))):=h▸Wk.refl _
theorem aKs{x:Bool}(h:x=true):(!x)=false:=by rw [h];rfl
theorem aKt{x:Bool}(h:x=false):(!x)=true:=by rw [h];rfl
theorem cX{a b:Bool}(h:b=a):AT.c (.val (.bool a))=.c (.val (.bool b)):=h▸rfl
theorem aPy{a b:Int}(h:b=a):AT.c (.val (.int .i64 a))=.c (.val (.int .i64 b)):=h▸rfl
theorem oW{a b:ByteArray}(h:b=a):AT.c (.val (.string a))=.c (.val (.string b)):=h▸rfl
theorem aHz(a b:List UInt8):bytes a++bytes b=bytes (a++b):=sI (by simp [bytes])
theorem kT(a:List UInt8):(bytes a).size=a.length:=by simp [bytes,ByteArray.size]
theorem aN{t yt:TypeId}{x y:Operand}{m k:ByteArray}(a b:List UInt8)(ho:o.op=.binOp .add t x y yt)(hx:evA st x=some (.c (.val (.string m))))(hy:evA st y=some (.c (.val (.string k))))(ha:m=bytes a)(hb:k=bytes b)(hl:a.length+b.length <= 9223372036854775807):AY P U o st (.c (.val (.string (bytes (a++b))))):=by
 subst ha;subst hb
 rw [←aHz]
 exact aHr ho hx hy (by rw [kT,kT];exact hl)
theorem back(s:ByteArray):s=bytes s.data.toList:=by simp [bytes]
theorem bV{F:FuncId}{ars:Array Operand}{tys:Array TypeId}{us:List AT}{QQ:AT -> Sto -> Prop}(ho:o.op=.call {callee:=.value (.func F),args:=ars,argTypes:=tys})(hd:o.dst=some d)(hn:d<n)
  (hcf:∀args w,(callFunc F args).run P w=.ok (.enter F args) w) (has:ars.toList.map (evA ⟨n,T,s,ts⟩)=us.map some) (hc:aL P F us [] s QQ) (h:∀r s',QQ r s' -> K ⟨n,T,s',(d,r)::ts⟩):AO P U o ⟨n,T,s,ts⟩ K:=
 bD [] ho hd hn hcf has hc bDl bDl (fun _=>bDl) h
theorem oC{c:Code}(N i:Nat)(fx:Nat -> List (Nat×AT))(hs:Sub ⟨n,T,s,ts⟩ ⟨n,T,s,(i,nI 0)::fx 0⟩)
  (round:∀k,k <= N -> AWp P c ⟨n,T,s,(i,nI k)::fx k⟩ (sU (fun s'=>k<N /\ Sub s' ⟨n,T,s,(i,nI (k+1))::fx (k+1)⟩) Q)):AWp P (.loop c) ⟨n,T,s,ts⟩ Q:=by
 refine fM (fun k=>⟨n,T,s,(i,nI k)::fx k⟩) (fun k=>k <= N) (fun k=>N-k) 0 hs (Nat.zero_le _) fun k hk=>sE (round k hk) fun e s' h=>?_
 cases e with
 |normal=>exact ⟨k+1,h.1,by have:=h.1;omega,h.2⟩
 |_=>exact h
theorem lE{c:Code}(p:Nat -> Prop)(N i:Nat)(fx:Nat -> List (Nat×AT))(hp:p 0)(hs:Sub ⟨n,T,s,ts⟩ ⟨n,T,s,(i,nI 0)::fx 0⟩)
  (round:∀k,k <= N -> p k -> AWp P c ⟨n,T,s,(i,nI k)::fx k⟩ (sU (fun s'=>k<N /\ p (k+1) /\ Sub s' ⟨n,T,s,(i,nI (k+1))::fx (k+1)⟩) Q)):AWp P (.loop c) ⟨n,T,s,ts⟩ Q:=by
 refine fM (fun k=>⟨n,T,s,(i,nI k)::fx k⟩) (fun k=>k <= N /\ p k) (fun k=>N-k) 0 hs ⟨Nat.zero_le _,hp⟩ fun k hk=>sE (round k hk.1 hk.2) fun e s' h=>?_
 cases e with
 |normal=>exact ⟨k+1,⟨h.1,h.2.1⟩,by have:=h.1;omega,h.2.2⟩
 |_=>exact h
theorem aO2{c:Code}{bx bx0:List Box}{rw rw0:List bA}(p:Nat -> Prop)(N i j:Nat)(E:TypeId)(z:Nat)(cnt:Nat -> Nat)(cs:Nat -> List AC)(T0:List Nat)(fx:Nat -> List (Nat×AT))(hp:p 0)
  (hs:Sub ⟨n,T,⟨bx0,rw0⟩,ts⟩ ⟨n,aY (.slice none 0 0)++T0,⟨bx,⟨.slice none 0 0,E,z,cnt 0,cs 0⟩::rw⟩,(i,nI 0)::(j,.c (.val (.slice none 0 0)))::fx 0⟩)
  (round:∀k v,k <= N -> p k -> AWp P c ⟨n,aY v++T0,⟨bx,⟨v,E,z,cnt k,cs k⟩::rw⟩,(i,nI k)::(j,.c (.val v))::fx k⟩
   (sU (fun s'=>k<N /\ p (k+1) /\ ∃v',Sub s' ⟨n,aY v'++T0,⟨bx,⟨v',E,z,cnt (k+1),cs (k+1)⟩::rw⟩,(i,nI (k+1))::(j,.c (.val v'))::fx (k+1)⟩) Q)):AWp P (.loop c) ⟨n,T,⟨bx0,rw0⟩,ts⟩ Q:=by
 refine fM (fun g:Nat×Value=>⟨n,aY g.2++T0,⟨bx,⟨g.2,E,z,cnt g.1,cs g.1⟩::rw⟩,(i,nI g.1)::(j,.c (.val g.2))::fx g.1⟩) (fun g=>g.1 <= N /\ p g.1) (fun g=>N-g.1) (0,.slice none 0 0) hs ⟨Nat.zero_le _,hp⟩ fun g hg=>sE (round g.1 g.2 hg.1 hg.2) fun e s' h=>?_
 cases e with
 |normal=>
  obtain ⟨h1,h2,v',h3⟩:=h
  exact ⟨(g.1+1,v'),⟨h1,h2⟩,by show N-(g.1+1)<N-g.1;omega,h3⟩
 |_=>exact h
end
class vT (N:Nat) (l:List Oper) (l1 l2:outParam (List Oper)):Prop where h:l=l1++l2
instance aUv{l:List Oper}:vT 0 l [] l:=⟨rfl⟩
instance aW9{N:Nat}{o:Oper}{l l1 l2:List Oper}[h:vT N l l1 l2]:vT (N+1) (o::l) (o::l1) l2:=⟨by rw [h.h];rfl⟩
instance aV8{N:Nat}{o:Oper}{l m l1 l2:List Oper}[h:vT (N+1) (o::List.append l m) l1 l2]:vT (N+1) (List.append (o::l) m) l1 l2:=⟨h.h⟩
instance aU8{N:Nat}{m l1 l2:List Oper}[h:vT N m l1 l2]:vT N (List.append [] m) l1 l2:=⟨h.h⟩
instance aVp{j t:Nat}{o:Oper}{l m:List Oper}[h:wV (o::List.append l m) j t]:wV (List.append (o::l) m) j t:=⟨h.h⟩
instance aUd{j t:Nat}{m:List Oper}[h:wV m j t]:wV (List.append [] m) j t:=⟨h.h⟩
instance aYy{P:Program}{ops:Array Oper}{o:Oper}{l m:List Oper}{st:AS}{Q:Exit -> AS -> Prop}{N:Nat}{g:Prop}[h:Go1 (N+1) (eQ P ops (o::List.append l m) st Q) g]:Go1 (N+1) (eQ P ops (List.append (o::l) m) st Q) g:=⟨h.out⟩
instance aVr{P:Program}{ops:Array Oper}{m:List Oper}{st:AS}{Q:Exit -> AS -> Prop}{N:Nat}{g:Prop}[h:Go1 (N+1) (eQ P ops m st Q) g]:Go1 (N+1) (eQ P ops (List.append [] m) st Q) g:=⟨h.out⟩
theorem xX{P:Program}{x y:Code}{n:Nat}{T:List Nat}{s:Sto}{ts:List (Nat×AT)}{Q:Exit -> AS -> Prop}(ts':List (Nat×AT))(h1:AWp P x ⟨n,T,s,ts⟩ (fun e s'=>e=.normal /\ Sub s' ⟨n,T,s,ts'⟩))(h2:AWp P y ⟨n,T,s,ts'⟩ Q):AWp P (.seq x y) ⟨n,T,s,ts⟩ Q:=
 aHp (sE h1 fun e s ⟨he,hs⟩=>by subst he;exact rX (zU hs h2))
end
section
open Go.RowKit
theorem gJ{s:ByteArray}{l:List UInt8}(h:s=bytes l):(s.toList == l)=true:=by subst h;rw [ByteArray.toList_eq];simp [bytes]
theorem fI{s:ByteArray}{l:List UInt8}(h:s≠bytes l):(s.toList == l)=false:=by
 rw [beq_eq_false_iff_ne,ByteArray.toList_eq];intro e;apply h;apply sI;rw [e];simp [bytes]
theorem aDq(s:ByteArray)(w:World):Calls prog 235 #[.string s] w fun e w'=>e=.returned (.tuple #[.int .i64 (binOp s).1,.int .i64 (binOp s).2]) /\ w=w':=by
 go_enter func235,Tryz.ntmps235
 by_cases h0:s=bytes [124,124]
 ·have g0:(s.toList == [124,124])=true:=gJ h0
  have hb:binOp s=(17,1):=by rw [binOp,if_pos h0]
  rw [hb]
  clear hb h0
  go_wp2_with fail
  refine bodyPost_ret (v:=.tuple #[.int .i64 17,.int .i64 1]) (by simp [results,Tryz.results235,go_sem]) rfl ?_
  exact ⟨rfl,rfl⟩
 have g0:(s.toList == [124,124])=false:=fI h0
 by_cases h1:s=bytes [38,38]
 ·have g1:(s.toList == [38,38])=true:=gJ h1
  have hb:binOp s=(16,2):=by rw [binOp,if_neg h0,if_pos h1]
  rw [hb]
  clear hb h0 h1
  go_wp2_with fail
  refine bodyPost_ret (v:=.tuple #[.int .i64 16,.int .i64 2]) (by simp [results,Tryz.results235,go_sem]) rfl ?_
  exact ⟨rfl,rfl⟩
 have g1:(s.toList == [38,38])=false:=fI h1
 by_cases h2:s=bytes [61,61]
 ·have g2:(s.toList == [61,61])=true:=gJ h2
  have hb:binOp s=(14,3):=by rw [binOp,if_neg h0,if_neg h1,if_pos h2]
  rw [hb]
  clear hb h0 h1 h2
  go_wp2_with fail
  refine bodyPost_ret (v:=.tuple #[.int .i64 14,.int .i64 3]) (by simp [results,Tryz.results235,go_sem]) rfl ?_
  exact ⟨rfl,rfl⟩
 have g2:(s.toList == [61,61])=false:=fI h2
 by_cases h3:s=bytes [33,61]
 ·have g3:(s.toList == [33,61])=true:=gJ h3
  have hb:binOp s=(15,3):=by rw [binOp,if_neg h0,if_neg h1,if_neg h2,if_pos h3]
  rw [hb]
  clear hb h0 h1 h2 h3
  go_wp2_with fail
  refine bodyPost_ret (v:=.tuple #[.int .i64 15,.int .i64 3]) (by simp [results,Tryz.results235,go_sem]) rfl ?_
  exact ⟨rfl,rfl⟩
 have g3:(s.toList == [33,61])=false:=fI h3
 by_cases h4:s=bytes [60]
 ·have g4:(s.toList == [60])=true:=gJ h4
  have hb:binOp s=(10,3):=by rw [binOp,if_neg h0,if_neg h1,if_neg h2,if_neg h3,if_pos h4]
  rw [hb]
  clear hb h0 h1 h2 h3 h4
  go_wp2_with fail
  refine bodyPost_ret (v:=.tuple #[.int .i64 10,.int .i64 3]) (by simp [results,Tryz.results235,go_sem]) rfl ?_
  exact ⟨rfl,rfl⟩
 have g4:(s.toList == [60])=false:=fI h4
 by_cases h5:s=bytes [60,61]
 ·have g5:(s.toList == [60,61])=true:=gJ h5
  have hb:binOp s=(11,3):=by rw [binOp,if_neg h0,if_neg h1,if_neg h2,if_neg h3,if_neg h4,if_pos h5]
  rw [hb]
  clear hb h0 h1 h2 h3 h4 h5
  go_wp2_with fail
  refine bodyPost_ret (v:=.tuple #[.int .i64 11,.int .i64 3]) (by simp [results,Tryz.results235,go_sem]) rfl ?_
  exact ⟨rfl,rfl⟩
 have g5:(s.toList == [60,61])=false:=fI h5
 by_cases h6:s=bytes [62]
 ·have g6:(s.toList == [62])=true:=gJ h6
  have hb:binOp s=(12,3):=by rw [binOp,if_neg h0,if_neg h1,if_neg h2,if_neg h3,if_neg h4,if_neg h5,if_pos h6]
  rw [hb]
  clear hb h0 h1 h2 h3 h4 h5 h6
  go_wp2_with fail
  refine bodyPost_ret (v:=.tuple #[.int .i64 12,.int .i64 3]) (by simp [results,Tryz.results235,go_sem]) rfl ?_
  exact ⟨rfl,rfl⟩
 have g6:(s.toList == [62])=false:=fI h6
 by_cases h7:s=bytes [62,61]
 ·have g7:(s.toList == [62,61])=true:=gJ h7
  have hb:binOp s=(13,3):=by rw [binOp,if_neg h0,if_neg h1,if_neg h2,if_neg h3,if_neg h4,if_neg h5,if_neg h6,if_pos h7]
  rw [hb]
  clear hb h0 h1 h2 h3 h4 h5 h6 h7
  go_wp2_with fail
  refine bodyPost_ret (v:=.tuple #[.int .i64 13,.int .i64 3]) (by simp [results,Tryz.results235,go_sem]) rfl ?_
  exact ⟨rfl,rfl⟩
 have g7:(s.toList == [62,61])=false:=fI h7
 by_cases h8:s=bytes [43]
 ·have g8:(s.toList == [43])=true:=gJ h8
  have hb:binOp s=(8,4):=by rw [binOp,if_neg h0,if_neg h1,if_neg h2,if_neg h3,if_neg h4,if_neg h5,if_neg h6,if_neg h7,if_pos h8]
  rw [hb]
  clear hb h0 h1 h2 h3 h4 h5 h6 h7 h8
  go_wp2_with fail
  refine bodyPost_ret (v:=.tuple #[.int .i64 8,.int .i64 4]) (by simp [results,Tryz.results235,go_sem]) rfl ?_
  exact ⟨rfl,rfl⟩
 have g8:(s.toList == [43])=false:=fI h8
 by_cases h9:s=bytes [45]
 ·have g9:(s.toList == [45])=true:=gJ h9
  have hb:binOp s=(9,4):=by rw [binOp,if_neg h0,if_neg h1,if_neg h2,if_neg h3,if_neg h4,if_neg h5,if_neg h6,if_neg h7,if_neg h8,if_pos h9]
  rw [hb]
  clear hb h0 h1 h2 h3 h4 h5 h6 h7 h8 h9
  go_wp2_with fail
  refine bodyPost_ret (v:=.tuple #[.int .i64 9,.int .i64 4]) (by simp [results,Tryz.results235,go_sem]) rfl ?_
  exact ⟨rfl,rfl⟩
 have g9:(s.toList == [45])=false:=fI h9
 by_cases h10:s=bytes [42]
 ·have g10:(s.toList == [42])=true:=gJ h10
  have hb:binOp s=(5,5):=by rw [binOp,if_neg h0,if_neg h1,if_neg h2,if_neg h3,if_neg h4,if_neg h5,if_neg h6,if_neg h7,if_neg h8,if_neg h9,if_pos h10]
  rw [hb]
  clear hb h0 h1 h2 h3 h4 h5 h6 h7 h8 h9 h10
  go_wp2_with fail
  refine bodyPost_ret (v:=.tuple #[.int .i64 5,.int .i64 5]) (by simp [results,Tryz.results235,go_sem]) rfl ?_
  exact ⟨rfl,rfl⟩
 have g10:(s.toList == [42])=false:=fI h10
 by_cases h11:s=bytes [47]
 ·have g11:(s.toList == [47])=true:=gJ h11
  have hb:binOp s=(6,5):=by rw [binOp,if_neg h0,if_neg h1,if_neg h2,if_neg h3,if_neg h4,if_neg h5,if_neg h6,if_neg h7,if_neg h8,if_neg h9,if_neg h10,if_pos h11]
  rw [hb]
  clear hb h0 h1 h2 h3 h4 h5 h6 h7 h8 h9 h10 h11
  go_wp2_with fail
  refine bodyPost_ret (v:=.tuple #[.int .i64 6,.int .i64 5]) (by simp [results,Tryz.results235,go_sem]) rfl ?_
  exact ⟨rfl,rfl⟩
 have g11:(s.toList == [47])=false:=fI h11
 by_cases h12:s=bytes [37]
 ·have g12:(s.toList == [37])=true:=gJ h12
  have hb:binOp s=(7,5):=by rw [binOp,if_neg h0,if_neg h1,if_neg h2,if_neg h3,if_neg h4,if_neg h5,if_neg h6,if_neg h7,if_neg h8,if_neg h9,if_neg h10,if_neg h11,if_pos h12]
  rw [hb]
  clear hb h0 h1 h2 h3 h4 h5 h6 h7 h8 h9 h10 h11 h12
  go_wp2_with fail
  refine bodyPost_ret (v:=.tuple #[.int .i64 7,.int .i64 5]) (by simp [results,Tryz.results235,go_sem]) rfl ?_
  exact ⟨rfl,rfl⟩
 have g12:(s.toList == [37])=false:=fI h12
 have hb:binOp s=(0,0):=by rw [binOp,if_neg h0,if_neg h1,if_neg h2,if_neg h3,if_neg h4,if_neg h5,if_neg h6,if_neg h7,if_neg h8,if_neg h9,if_neg h10,if_neg h11,if_neg h12]
 rw [hb]
 clear hb h0 h1 h2 h3 h4 h5 h6 h7 h8 h9 h10 h11 h12
 go_wp2_with fail
 refine bodyPost_ret (v:=.tuple #[.int .i64 0,.int .i64 0]) (by simp [results,Tryz.results235,go_sem]) rfl ?_
 exact ⟨rfl,rfl⟩
end
section
open Go.RowKit
def bLb:List ByteArray:=[⟨#[]⟩,⟨#[]⟩,⟨#[]⟩,⟨#[45]⟩,⟨#[33]⟩,⟨#[42]⟩,⟨#[47]⟩,⟨#[37]⟩,⟨#[43]⟩,⟨#[45]⟩,⟨#[60]⟩,⟨#[60,61]⟩,⟨#[62]⟩,⟨#[62,61]⟩,⟨#[61,61]⟩,⟨#[33,61]⟩,⟨#[38,38]⟩,⟨#[124,124]⟩]
structure bOp (w:World):Prop where
 signs:∀j (h:j<bLb.length),w.cell? ⟨3,j,none⟩=some (.string bLb[j])
theorem bOp.keep{L:List Nat}{w w':World}(h:bOp w)(hk:cW L w w')(hn:3∉L):bOp w':=
 ⟨fun j hj=>by rw [hk.cell (gV (h.signs j hj)) hn];exact h.signs j hj⟩
theorem bOp.below{w w':World}(h:bOp w)(hb:Below w.heap.size w w'):bOp w':=h.keep (L:=[]) (cW.of_below hb) (by simp)
def bLk(op:Int):Nat:=if op=17 then 1 else if op=16 then 2 else if 10 <= op /\ op <= 15 then 3 else if op=8∨op=9 then 4 else if 5 <= op /\ op <= 7 then 5 else if op=3∨op=4 then 6 else if op=1∨op=2 then 7 else 0
theorem bQb:∀j (h:j<bLb.length),j≠1 -> j≠2 -> j≠3 -> j≠4 -> (binOp bLb[j]).2=bLk j:=by decide
theorem bOt(op:Int)(h:op<0∨18 <= op):bLk op=0:=by
 unfold bLk
 repeat rw [if_neg (by omega)]
theorem bNc(op:Int)(h:1 <= op /\ op <= 17):bLk op=aM op+1:=by
 unfold bLk aM
 split
 ·rfl
 split
 ·rfl
 split
 ·rfl
 split
 ·rfl
 split
 ·rfl
 split
 ·rfl
 rw [if_pos (by omega)]
theorem bQf(op:Int)(w:World)(he:bOp w):Calls prog 222 #[.int .i64 op] w fun e w'=>e=.returned (.int .i64 (bLk op)) /\ w=w':=by
 have HE:=Lib.hid he
 clear he
 by_cases h1:op=1
 ·subst h1
  go_enter func222,Tryz.ntmps222
  go_wp2_with fail
  go_ret
  exact ⟨rfl,rfl⟩
 by_cases h2:op=2
 ·subst h2
  go_enter func222,Tryz.ntmps222
  go_wp2_with fail
  go_ret
  exact ⟨rfl,rfl⟩
 by_cases h3:op=3
 ·subst h3
  go_enter func222,Tryz.ntmps222
  go_wp2_with fail
  go_ret
  exact ⟨rfl,rfl⟩
 by_cases h4:op=4
 ·subst h4
  go_enter func222,Tryz.ntmps222
  go_wp2_with fail
  go_ret
  exact ⟨rfl,rfl⟩
 have b1:(op == 1)=false:=by simpa using h1
 have b2:(op == 2)=false:=by simpa using h2
 have b3:(op == 3)=false:=by simpa using h3
 have b4:(op == 4)=false:=by simpa using h4
 by_cases hneg:op<0
 ·have hd:decide (op<0)=true:=by simpa using hneg
  have hs:=bOt op (.inl hneg)
  rw [hs]
  clear hs h1 h2 h3 h4
  go_enter func222,Tryz.ntmps222
  go_wp2_with fail
  go_ret
  exact ⟨rfl,rfl⟩
 have hd:decide (op<0)=false:=by simpa using hneg
 by_cases hbig:18 <= op
 ·have hd2:decide (18 <= op)=true:=by simpa using hbig
  have hs:=bOt op (.inr hbig)
  rw [hs]
  clear hs h1 h2 h3 h4
  go_enter func222,Tryz.ntmps222
  go_wp2_with fail
  go_ret
  exact ⟨rfl,rfl⟩
 obtain ⟨j,rfl⟩:∃j:Nat,op=j:=⟨op.toNat,by omega⟩
 have hj:j<bLb.length:=by simp [bLb];omega
 have hs:=bQb j hj (by omega) (by omega) (by omega) (by omega)
 have hc:=HE.out.signs j hj
 have hd2:decide ((18:Int) <= j)=false:=by simpa using hbig
 have hlt:(j:Int)<18:=by omega
 obtain ⟨s,hs2⟩:∃s,s=bLb[j]:=⟨_,rfl⟩
 rw [←hs2] at hs hc
 rw [←hs]
 clear hs h1 h2 h3 h4 hs2
 go_enter func222,Tryz.ntmps222
 go_wp2_with fail
 refine (aDq s w).mono ?_
 rintro e w' ⟨rfl,rfl⟩
 go_wp2_with fail
 go_ret
 exact ⟨rfl,rfl⟩
end
section
open Go.RowKit
structure bM9 (w:World):Prop where
 words:∀j (h:j<words.length),w.cell? ⟨0,j,none⟩=some (.string words[j])
 maxLen:∃m:Int,w.cell? ⟨1,0,none⟩=some (.int .i64 m)
 signs:bOp w
 tab : Lib.TabIs prog w "internal/strconv.uint64pow10" .u64 Lib.pow10Tab
theorem bM9.up{w w':World}(h:bM9 w)(hu:Up2 w w'):bM9 w':=by
 refine ⟨fun j hj=>hu.1 _ _ (h.words j hj),h.maxLen.imp fun m hm=>hu.1 _ _ hm,⟨fun j hj=>hu.1 _ _ (h.signs.signs j hj)⟩,?_⟩
 have h1:=h.tab
 unfold Lib.TabIs World.var? at h1⊢
 cases hg : prog.globalNamed "internal/strconv.uint64pow10" with
 |none=>rw [hg] at h1;exact absurd h1 (by simp)
 |some g=>
  rw [hg,Option.bind_some] at h1
  rw [Option.bind_some]
  cases hb:w.heap[g]? with
  |none=>rw [hb] at h1;exact absurd h1 (by simp)
  |some o=>
   rw [hb] at h1
   cases o with
   |cells cs t fz=>
    simp only [Option.some.injEq] at h1
    subst h1
    rw [hu.2 g _ t fz hb (by rw [List.size_toArray,List.length_map];decide)]
   |_=>exact absurd h1 (by simp)
abbrev bK5(t:AT):AT:=.ride t bM9
theorem bL3{w:World}{t u:AT}{p:World -> Prop}{v0 v:Value}(h0:dO w (.ride t p) v0)(h:dO w u v):dO w (.ride u p) v:=by
 cases h0 with|ride _ _ _ _ hp=>exact .ride _ _ _ h hp
theorem bMx{bl:List Nat}{w:World}{t:AT}{p:World -> Prop}{v:Value}(h:dO (bI bl w) (.ride t p) v):p w:=by
 cases h with|ride _ _ _ _ hp=>exact hp w (bRm bl w)
theorem bNx{w:World}{t:AT}{p:World -> Prop}{v:Value}(h:dO w (.ride t p) v):p w:=by
 cases h with|ride _ _ _ _ hp=>exact hp w ⟨fun _ _ h=>h,fun _ _ _ _ h _=>h⟩
theorem bOr{w:World}{t:AT}{v:Value}(h:dO w t v)(he:bM9 w):dO w (bK5 t) v:=.ride _ _ _ h fun _ hu=>he.up hu
theorem bPv{t:AT}{p:World -> Prop}:Wk (.ride t p) t:=fun w v h=>by cases h with|ride _ _ _ h _=>exact h
theorem bQv{w:World}{t u:AT}{v0 v:Value}(h0:dO w (bK5 t) v0)(h:dO w u v):∃m,dO w (aA2 u m) v:=by
 have he:=bNx h0
 obtain ⟨m,hm⟩:=he.maxLen
 refine ⟨m,.fact _ _ _ _ [.int .i64 m] _ (.fact _ _ _ _ (words.map .string) _ h ?_ ?_) ?_ ?_⟩
 ·have h9:=gU w (words.map .string) (fun u hu=>by obtain ⟨c,_,rfl⟩:=List.mem_map.1 hu;rfl)
  rw [List.map_map] at h9;exact h9
 ·intro j u hj
  have hjl:j<words.length:=by have:=(List.getElem?_eq_some_iff.1 hj).1;simpa using this
  rw [Nat.zero_add,he.words j hjl]
  rw [List.getElem?_map,List.getElem?_eq_getElem hjl] at hj
  exact hj
 ·exact gU _ [.int .i64 m] (fun u hu=>by simp at hu;subst hu;rfl)
 intro j u hj
 match j,hj with
 |0,hj=>simp at hj;subst hj;exact hm
 |j+1,hj=>simp at hj
section
variable {P:Program}{U T:List Nat}{o:Oper}{n d:Nat}{ts:List (Nat×AT)}{s:Sto}{K:AS -> Prop}{p:World -> Prop}{t0 u:AT}{us:List AT}{ops:Array Oper}{l:List Oper}{Q:Exit -> AS -> Prop}
theorem bMg{F:FuncId}{ars:Array Operand}{tys:Array TypeId}(i0:Nat)(T':List Nat){QQ:AT -> Sto -> Prop}(ho:o.op=.call {callee:=.value (.func F),args:=ars,argTypes:=tys})(hd:o.dst=some d)(hn:d<n)
  (hcf:∀args w,(callFunc F args).run P w=.ok (.enter F args) w) (hl:look ts i0=some (.ride t0 p)) (has:ars.toList.map (evA ⟨n,T,s,ts⟩)=(u::us).map some) (hc:aL P F (.ride u p::us) T' s QQ) (hT:∀b,b∈T' -> b∈T) (hTb:∀b,b∈T' -> b∈s.bl) (hU:s.bl.Nodup -> ∀b,b∈T' -> b∈U)
  (h:∀r s',QQ r s' -> K ⟨n,T,s',(d,r)::ts⟩):AO P U o ⟨n,T,s,ts⟩ K:=by
 intro a w hs KK QQ' hK
 obtain ⟨h1,h2⟩:=rU hs has
 obtain ⟨v0,-,hv0⟩:=hs.tm i0 _ hl
 refine aCf (st:=⟨n,T,s,ts⟩) (ts:=.ride u p::us) hs hd hn h1 (fun i hi hi'=>?_) ?_ hc hT hTb hU h KK QQ' hK
 ·match i,hi with
  |0,hi=>exact bL3 hv0 (h2 0 (by simp) hi')
  |i+1,hi=>exact h2 (i+1) (by simpa using hi) hi'
 ·simp only [execOp,ho,resolve,Deferred.ofValue,Act.eval,Sem.run_bind,Sem.run_pure,Result.andThen_ok,invoke]
  rw [hcf]
  congr 2
  rw [←Array.toList_inj];simp
theorem bN9{F:FuncId}{ars:Array Operand}{tys:Array TypeId}(i0:Nat)(T':List Nat){QQ:AT -> Sto -> Prop}(ho:o.op=.call {callee:=.value (.func F),args:=ars,argTypes:=tys})(hd:o.dst=some d)(hn:d<n)
  (hcf:∀args w,(callFunc F args).run P w=.ok (.enter F args) w) (hl:look ts i0=some (bK5 t0)) (has:ars.toList.map (evA ⟨n,T,s,ts⟩)=(u::us).map some) (hc:∀m,aL P F (aA2 u m::us) T' s QQ) (hT:∀b,b∈T' -> b∈T) (hTb:∀b,b∈T' -> b∈s.bl) (hU:s.bl.Nodup -> ∀b,b∈T' -> b∈U)
  (h:∀r s',QQ r s' -> K ⟨n,T,s',(d,r)::ts⟩):AO P U o ⟨n,T,s,ts⟩ K:=by
 intro a w hs KK QQ' hK
 obtain ⟨h1,h2⟩:=rU hs has
 obtain ⟨v0,-,hv0⟩:=hs.tm i0 _ hl
 obtain ⟨m,hm⟩:=bQv hv0 (h2 0 (by simp) (by rw [h1];simp))
 refine aCf (st:=⟨n,T,s,ts⟩) (ts:=aA2 u m::us) hs hd hn h1 (fun i hi hi'=>?_) ?_ (hc m) hT hTb hU h KK QQ' hK
 ·match i,hi with
  |0,hi=>exact hm
  |i+1,hi=>exact h2 (i+1) (by simpa using hi) hi'
 ·simp only [execOp,ho,resolve,Deferred.ofValue,Act.eval,Sem.run_bind,Sem.run_pure,Result.andThen_ok,invoke]
  rw [hcf]
  congr 2
  rw [←Array.toList_inj];simp
theorem bRz{F:FuncId}{x:Operand}{cap:Array Value}{ars:Array Operand}{tys:Array TypeId}(i0:Nat)(T':List Nat){QQ:AT -> Sto -> Prop}(ho:o.op=.call {callee:=.value x,args:=ars,argTypes:=tys})(hx:evA ⟨n,T,s,ts⟩ x=some (.c (.val (.func (.func F) #[] cap))))(hd:o.dst=some d)(hn:d<n)
  (hcf:∀args w,(callFunc F args).run P w=.ok (.enter F args) w) (hl:look ts i0=some (.ride t0 p)) (has:ars.toList.map (evA ⟨n,T,s,ts⟩)=(u::us).map some) (hc:aL P F (.ride u p::(us++cap.toList.map cst)) T' s QQ) (hT:∀b,b∈T' -> b∈T) (hTb:∀b,b∈T' -> b∈s.bl) (hU:s.bl.Nodup -> ∀b,b∈T' -> b∈U)
  (h:∀r s',QQ r s' -> K ⟨n,T,s',(d,r)::ts⟩):AO P U o ⟨n,T,s,ts⟩ K:=by
 intro a w hs KK QQ' hK
 obtain ⟨h1,h2⟩:=rU hs has
 obtain ⟨v0,-,hv0⟩:=hs.tm i0 _ hl
 obtain ⟨d1,d2⟩:=aA7 (bI s.bl w) cap.toList
 have h3:(ars.toList.map a.eval).length=(AT.ride u p::us).length /\ ∀i (h:i<(AT.ride u p::us).length) (h':i<(ars.toList.map a.eval).length),dO (bI s.bl w) (AT.ride u p::us)[i] (ars.toList.map a.eval)[i]:=by
  refine ⟨h1,fun i hi hi'=>?_⟩
  match i,hi with
  |0,hi=>exact bL3 hv0 (h2 0 (by simp) hi')
  |i+1,hi=>exact h2 (i+1) (by simpa using hi) hi'
 obtain ⟨g3,g4⟩:=aBo h3.1 h3.2 d1 d2
 refine aCf (st:=⟨n,T,s,ts⟩) (ts:=.ride u p::(us++cap.toList.map cst)) hs hd hn g3 g4 ?_ hc hT hTb hU h KK QQ' hK
 simp only [execOp,ho,resolve,hs.val hx,Deferred.ofValue,Sem.run_bind,Sem.run_pure,Result.andThen_ok,invoke]
 rw [hcf]
 congr 2
 rw [←Array.toList_inj];simp
theorem noT{X:List Nat}:∀b,b∈([]:List Nat) -> b∈X:=fun _ h=>by cases h
theorem wcR{F:FuncId}{ars:Array Operand}{tys:Array TypeId}{r:AT}(i0:Nat)(h0:(fC ops o ⟨n,T,s,ts⟩,o.op,o.dst,Nat.blt d n,look ts i0)=(some true,.call {callee:=.value (.func F),args:=ars,argTypes:=tys},some d,true,some (.ride t0 p)))
  (hcf:∀args w,(callFunc F args).run P w=.ok (.enter F args) w) (has:ars.toList.map (evA ⟨n,T,s,ts⟩)=(u::us).map some) (hc:aL P F (.ride u p::us) [] s fun t s'=>t=r /\ s'=s) (h:eQ P ops l ⟨n,T,s,(d,r)::ts⟩ Q):eQ P ops (o::l) ⟨n,T,s,ts⟩ Q:=by
 simp only [Prod.mk.injEq] at h0
 exact wo h0.1 (bMg i0 [] h0.2.1 h0.2.2.1 (Nat.le_of_ble_eq_true h0.2.2.2.1) hcf h0.2.2.2.2 has hc noT noT (fun _=>noT) fun r s' ⟨h1,h2⟩=>by subst h1;subst h2;exact h)
theorem bK8{F:FuncId}{ars:Array Operand}{tys:Array TypeId}{b c:Bool}(i0:Nat)(h0:(fC ops o ⟨n,T,s,ts⟩,o.op,o.dst,Nat.blt d n,look ts i0)=(some true,.call {callee:=.value (.func F),args:=ars,argTypes:=tys},some d,true,some (.ride t0 p)))
  (hcf:∀args w,(callFunc F args).run P w=.ok (.enter F args) w) (has:ars.toList.map (evA ⟨n,T,s,ts⟩)=(u::us).map some) (hc:aL P F (.ride u p::us) [] s fun t s'=>t=.c (.val (.bool b)) /\ s'=s) (hb:b=c) (h:eQ P ops l ⟨n,T,s,(d,.c (.val (.bool c)))::ts⟩ Q):eQ P ops (o::l) ⟨n,T,s,ts⟩ Q:=by
 subst hb;exact wcR i0 h0 hcf has hc h
theorem wc1{F:FuncId}{ars:Array Operand}{tys:Array TypeId}{r:AT}(h0:(fC ops o ⟨n,T,s,ts⟩,o.op,o.dst,Nat.blt d n)=(some true,.call {callee:=.value (.func F),args:=ars,argTypes:=tys},some d,true))
  (hcf:∀args w,(callFunc F args).run P w=.ok (.enter F args) w) (has:ars.toList.map (evA ⟨n,T,s,ts⟩)=us.map some) (hc:aL P F us [] s fun t s'=>t=r /\ s'=s) (h:eQ P ops l ⟨n,T,s,(d,r)::ts⟩ Q):eQ P ops (o::l) ⟨n,T,s,ts⟩ Q:=by
 simp only [Prod.mk.injEq] at h0
 exact wo h0.1 (bD [] h0.2.1 h0.2.2.1 (Nat.le_of_ble_eq_true h0.2.2.2) hcf has hc noT noT (fun _=>noT) fun r s' ⟨h1,h2⟩=>by subst h1;subst h2;exact h)
theorem bOu{F:FuncId}{ars:Array Operand}{tys:Array TypeId}{b c:Bool}(h0:(fC ops o ⟨n,T,s,ts⟩,o.op,o.dst,Nat.blt d n)=(some true,.call {callee:=.value (.func F),args:=ars,argTypes:=tys},some d,true))
  (hcf:∀args w,(callFunc F args).run P w=.ok (.enter F args) w) (has:ars.toList.map (evA ⟨n,T,s,ts⟩)=us.map some) (hc:aL P F us [] s fun t s'=>t=.c (.val (.bool b)) /\ s'=s) (hb:b=c) (h:eQ P ops l ⟨n,T,s,(d,.c (.val (.bool c)))::ts⟩ Q):eQ P ops (o::l) ⟨n,T,s,ts⟩ Q:=by
 subst hb;exact wc1 h0 hcf has hc h
theorem bRr{t e:TypeId}{y:Operand}{k:IntKind}{i:Int}{N:Nat}(i0 j:Nat)(ho:o.op=.indexAddr t (.global 3) y)(hl:look ts i0=some (bK5 t0))(hy:evA ⟨n,T,s,ts⟩ y=some (.c (.val (.int k i))))(hi:i=j)(hj:j<bLb.length)(hN:bLb.length=N)
  (hu:∀w,(underlying t).run P w=.ok (.array N e) w) (hS:∀w,(sizeOf e).run P w=.ok 1 w):AY P U o ⟨n,T,s,ts⟩ (.el [.val (.string bLb[j])]):=by
 intro a w hs _
 subst hi;subst hN
 obtain ⟨v0,-,hv0⟩:=hs.tm i0 _ hl
 have he:=(bNx hv0).signs.signs j hj
 refine ⟨.pointer (some ⟨3,j,none⟩),.el _ _ _ [.string bLb[j]] (gU _ [.string bLb[j]] (fun u hu=>by simp at hu;subst hu;rfl)) (fun i u hu=>?_) (gV he),fun w' _=>?_⟩
 ·match i,hu with
  |0,hu=>simp at hu;subst hu;exact he
  |i+1,hu=>simp at hu
 ·simp only [execOp,ho,hs.val hy,show a.eval (.global 3)=.pointer (some ⟨3,0,none⟩) from rfl,Instr.indexAt,asIntOf,Sem.run_bind,Sem.run_pure,Result.andThen_ok,hu]
  simp [go_sem,hS,hj,oU]
end
end
section
def aPn(t:Tok):Prop:=(t.kind=3 -> dA t.text=true) /\ (t.kind=4 -> dA t.text=false) /\ t.num <= 9223372036854775807
theorem aBk:∀(r:List UInt8)(n m:Nat),n <= 9223372036854775807 -> iT n r=some m -> m <= 9223372036854775807
 |[],n,m,h,he=>by unfold iT at he;cases he;exact h
 |c::r,n,m,h,he=>by
  unfold iT at he
  split at he
  ·cases he
  exact aBk r _ m (by have:=c.toNat_lt;omega) he
theorem aKj:∀x,x∈words -> fU (x.data.toList.headD 0)=true:=by decide
theorem aKh{c:UInt8}{r:List UInt8}(h:fU c=false){n:Nat}(hn:n≠0):dA (bytes ((c::r).take n))=false:=by
 cases hr:dA (bytes ((c::r).take n)) with
 |false=>rfl
 |true=>
  have h1:=aKj _ ((mK _).1 hr)
  obtain ⟨m,rfl⟩:∃m,n=m+1:=⟨n-1,by omega⟩
  simp [bytes] at h1
  rw [h] at h1;cases h1
theorem aKe{c:UInt8}{r:List UInt8}{kind len num:Nat}(p:Nat)(h:dQ (c::r)=.tok kind len num):aPn ⟨kind,bytes ((c::r).take len),num,p⟩ /\ kind≠5:=by
 cases hc:fU c with
 |true=>
  rw [kK hc] at h
  split at h
  ·cases h
  ·injection h with h1 h2 h3
   subst h2;subst h3;subst h1
   have ht:(c::r).take ((c::r).takeWhile cT).length=(c::r).takeWhile cT:=by
    have:=List.takeWhile_prefix (l:=c::r) cT
    exact (List.prefix_iff_eq_take.1 this).symm
   rw [ht]
   refine ⟨⟨fun h3=>?_,fun h4=>?_,by show 0 <= _;omega⟩,?_⟩
   ·change (if dA (bytes ((c::r).takeWhile cT))=true then 3 else 1)=3 at h3
    split at h3
    ·assumption
    omega
   ·change (if dA (bytes ((c::r).takeWhile cT))=true then 3 else 1)=4 at h4
    split at h4<;>omega
   ·split<;>omega
 |false=>
  cases hd:cD c with
  |true=>
   cases hn:iT 0 ((c::r).takeWhile cD) with
   |none=>rw [nK hc hd hn] at h;cases h
   |some n=>
    rw [lP hc hd hn] at h
    injection h with h1 h2 h3
    subst h1;subst h2;subst h3
    exact ⟨⟨fun h=>absurd h (show ¬(2=3) by decide),fun h=>absurd h (show ¬(2=4) by decide),aBk _ _ _ (by omega) hn⟩,by omega⟩
  |false=>
   rw [iN hc hd] at h
   split at h
   ·cases h
   rename_i h0
   injection h with h1 h2 h3
   subst h1;subst h2;subst h3
   exact ⟨⟨fun h=>absurd h (show ¬(4=3) by decide),fun _=>aKh hc h0,Nat.zero_le _⟩,by omega⟩
structure aX5 (l:List Tok):Prop where
 ends:rP l
 reg:∀t,t∈l -> aPn t
 few:l.length <= 4001
theorem aFf:∀(m:Nat)(s:List UInt8)(k n:Nat),s.length-k <= m -> k <= s.length -> n <= 4000 -> ∀L,kD s k n=.ok L -> (∃h:0<L.length,(L[L.length-1]'(by omega)).kind=5) /\ (∀t,t∈L -> aPn t) /\ L.length+n <= 4001
 |m,s,k,n,hm,hk,hn,L,h=>by
  by_cases he:s.length <= bF s k
  ·rw [mX he] at h
   cases h
   refine ⟨⟨by simp,rfl⟩,fun t ht=>?_,by simp;omega⟩
   simp at ht;subst ht
   exact ⟨fun h=>(by cases h),fun h=>(by cases h),by show 0 <= _;omega⟩
  have hlt:bF s k<s.length:=by omega
  cases hx:dQ (s.drop (bF s k)) with
  |err e=>rw [uY hlt hx] at h;cases h
  |tok kind len num=>
   by_cases h4:n=4000
   ·subst h4;rw [sG hlt hx] at h;cases h
   rw [nD hk hlt hx h4] at h
   have hg:=lG s k hk
   have hd:s.drop (bF s k)≠[]:=by intro hd;have:=congrArg List.length hd;rw [List.length_drop] at this;simp at this;omega
   have hl:=mS hd hx
   rw [List.length_drop] at hl
   obtain ⟨c,r,hcr⟩:=List.exists_cons_of_ne_nil hd
   rw [hcr] at hx h
   have hreg:=aKe (bF s k) hx
   cases m with
   |zero=>omega
   |succ m=>
    cases ht:kD s (bF s k+len) (n+1) with
    |err p e=>rw [ht] at h;cases h
    |ok L'=>
     rw [ht] at h
     cases h
     obtain ⟨⟨h0,h5⟩,h2,h3⟩:=aFf m s (bF s k+len) (n+1) (by omega) (by omega) (by omega) L' ht
     refine ⟨⟨by simp,?_⟩,fun t ht=>?_,by simp;omega⟩
     ·simp only [length_cons]
      rw [List.getElem_cons]
      rw [dif_neg (by omega)]
      simpa using h5
     rcases mem_cons.1 ht with rfl|ht
     ·exact hreg.1
     exact h2 t ht
theorem wD{s:List UInt8}{L:List Tok}(h:iH s=.ok L):aX5 L:=by
 unfold iH at h
 split at h
 ·cases h
 obtain ⟨h1,h2,h3⟩:=aFf s.length s 0 0 (by omega) (by omega) (by omega) L h
 exact ⟨h1,h2,by omega⟩
end
section
theorem bOa{c:UInt8}{r:List UInt8}{len num:Nat}(h:dQ (c::r)=.tok 1 len num):bQ (bytes ((c::r).take len))=true:=by
 cases hc:fU c with
 |true=>
  rw [kK hc] at h
  split at h
  ·cases h
  ·rename_i h16
   injection h with h1 h2 h3
   subst h2
   have ht:(c::r).take ((c::r).takeWhile cT).length=(c::r).takeWhile cT:=
    (List.prefix_iff_eq_take.1 (List.takeWhile_prefix (l:=c::r) cT)).symm
   rw [ht]
   have hn:cT c=true:=by simp [cT,hc]
   have hd:(bytes ((c::r).takeWhile cT)).data.toList=c::r.takeWhile cT:=by rw [List.takeWhile_cons_of_pos hn];simp [bytes]
   unfold bQ
   rw [hd]
   have hsz:(bytes ((c::r).takeWhile cT)).size=((c::r).takeWhile cT).length:=by simp [bytes,ByteArray.size]
   have hres:dA (bytes ((c::r).takeWhile cT))=false:=by
    cases hr:dA (bytes ((c::r).takeWhile cT)) with
    |false=>rfl
    |true=>rw [if_pos hr] at h1;omega
   have hall:(r.takeWhile cT).all cT=true:=List.all_eq_true.2 fun x hx=>by
    have:=List.all_takeWhile (p:=cT) (l:=r)
    exact List.all_eq_true.1 this x hx
   simp only [hc,hall,hres,hsz,decide_eq_true (show ((c::r).takeWhile cT).length <= 16 by omega),Bool.and_self,Bool.not_false]
 |false=>
  cases hd:cD c with
  |true=>
   cases hn:iT 0 ((c::r).takeWhile cD) with
   |none=>rw [nK hc hd hn] at h;cases h
   |some n=>rw [lP hc hd hn] at h;injection h with h1;omega
  |false=>
   rw [iN hc hd] at h
   split at h
   ·cases h
   injection h with h1;omega
theorem bNf:∀(m:Nat)(s:List UInt8)(k n:Nat),s.length-k <= m -> k <= s.length -> ∀L,kD s k n=.ok L -> ∀t,t∈L -> t.kind=1 -> bQ t.text=true
 |m,s,k,n,hm,hk,L,h,t,ht,h1=>by
  by_cases he:s.length <= bF s k
  ·rw [mX he] at h
   cases h
   simp at ht;subst ht;cases h1
  have hlt:bF s k<s.length:=by omega
  cases hx:dQ (s.drop (bF s k)) with
  |err e=>rw [uY hlt hx] at h;cases h
  |tok kind len num=>
   by_cases h4:n=4000
   ·subst h4;rw [sG hlt hx] at h;cases h
   rw [nD hk hlt hx h4] at h
   have hg:=lG s k hk
   have hd:s.drop (bF s k)≠[]:=by intro hd;have:=congrArg List.length hd;rw [List.length_drop] at this;simp at this;omega
   have hl:=mS hd hx
   rw [List.length_drop] at hl
   obtain ⟨c,r,hcr⟩:=List.exists_cons_of_ne_nil hd
   rw [hcr] at hx h
   cases m with
   |zero=>omega
   |succ m=>
    cases hq:kD s (bF s k+len) (n+1) with
    |err p e=>rw [hq] at h;cases h
    |ok L'=>
     rw [hq] at h
     cases h
     rcases mem_cons.1 ht with rfl|ht
     ·dsimp only at h1
      subst h1
      exact bOa hx
     exact bNf m s (bF s k+len) (n+1) (by omega) (by omega) L' hq t ht h1
theorem bO7{s:List UInt8}{L:List Tok}(h:iH s=.ok L):∀t,t∈L -> t.kind=1 -> bQ t.text=true:=by
 unfold iH at h
 split at h
 ·cases h
 exact bNf s.length s 0 0 (by omega) (by omega) L h
theorem bMf{p:UInt8 -> Bool}:∀{l:List UInt8},(∀x,x∈l -> p x=true) -> l.takeWhile p=l
 |[],_=>rfl
 |x::l,h=>by rw [List.takeWhile_cons_of_pos (h x (by simp)),bMf fun y hy=>h y (by simp [hy])]
theorem bP2{c:UInt8}(h:fU c=true):isSp c=false /\ c≠47:=by
 unfold fU at h
 rw [decide_eq_true_eq] at h
 refine ⟨by unfold isSp;rw [decide_eq_false_iff_not];omega,?_⟩
 rintro rfl
 revert h;decide
theorem bNq{s:ByteArray}(h:bQ s=true):iH s.data.toList=.ok [⟨1,s,0,0⟩,⟨5,⟨#[]⟩,0,s.size⟩]:=by
 unfold bQ at h
 have hsz:s.size=s.data.toList.length:=rfl
 have hb:bytes s.data.toList=s:=by simp [bytes]
 rw [hsz] at h⊢
 cases hd:s.data.toList with
 |nil=>rw [hd] at h;simp at h
 |cons c r=>
  rw [hd] at h hb
  simp only [Bool.and_eq_true,decide_eq_true_eq,Bool.not_eq_true'] at h
  obtain ⟨⟨⟨h1,h2⟩,h3⟩,h4⟩:=h
  have hall:(c::r).takeWhile cT=c::r:=bMf (by
   intro x hx
   rcases mem_cons.1 hx with rfl|hx
   ·simp [cT,h1]
   exact List.all_eq_true.1 h2 x hx)
  have hk:bF (c::r) 0=0:=zX _ 0 (by simp) (bP2 h1).1 (fun h=>(bP2 h1).2 h.1)
  unfold iH
  rw [if_neg (by omega),kD,hk,if_neg (by simp),List.drop_zero,kK h1,hall,if_neg (by omega)]
  dsimp only
  rw [if_neg (by omega),dif_pos ⟨by simp,by simp⟩,kD,aA5 _ _ (by simp),if_pos (Nat.le_refl _),List.take_length,hb,h4]
  rfl
theorem bL0{s:ByteArray}{L:List Tok}(h:iH s.data.toList=.ok L):(L.length=2 /\ ∃h0:0<L.length,L[0].kind=1 /\ L[0].text=s)↔bQ s=true:=by
 constructor
 ·rintro ⟨_,h0,h1,h2⟩
  rw [←h2]
  exact bO7 h _ (getElem_mem _) h1
 intro hn
 rw [bNq hn] at h
 cases h
 exact ⟨rfl,by simp,rfl,rfl⟩
theorem bOs{s:ByteArray}{p e:Nat}(h:iH s.data.toList=.err p e):bQ s=false:=by
 cases hn:bQ s with
 |false=>rfl
 |true=>rw [bNq hn] at h;cases h
end
section
open Go.RowKit
theorem xF(x n:Int)(hn:0<n):-n<x.tmod n:=by
 by_cases hx:0 <= x
 ·have:=Int.tmod_nonneg n hx;omega
 have h1:=Int.tmod_lt_of_pos (-x) hn
 rw [Int.neg_tmod] at h1;omega
theorem aD5(x n:Int)(hn:0<n):(x.tmod n+n).tmod n=x%n:=by
 have h1:=Int.tmod_lt_of_pos x hn
 have h2:=xF x n hn
 rw [Int.tmod_eq_emod_of_nonneg (by omega),Int.add_emod_right]
 rw [Int.tmod_def]
 rw [show x-n*x.tdiv n=x+n*(-(x.tdiv n)) by rw [Int.mul_neg];omega,Int.add_mul_emod_self_left]
theorem aG9(x n:Int)(w:World)(hn:0<n)(hn2:n <= 4611686018427387904):
  Calls prog 12 #[.int .i64 x,.int .i64 n] w fun e w'=>e=.returned (.int .i64 (x%n)) /\ w=w':=by
 have h1:=Int.tmod_lt_of_pos x hn
 have h2:=xF x n hn
 have h3:=aD5 x n hn
 have h4:0 <= x%n:=Int.emod_nonneg x (by omega)
 have h5:x%n<n:=Int.emod_lt_of_pos x hn
 have hw1:IntKind.i64.wrap (x.tmod n)=x.tmod n:=IntWalk.i64_in _ (by omega)
 have hw2:IntKind.i64.wrap (x.tmod n+n)=x.tmod n+n:=IntWalk.i64_in _ (by omega)
 have hw3:IntKind.i64.wrap (x%n)=x%n:=IntWalk.i64_in _ (by omega)
 go_enter func12,Tryz.ntmps12
 go_wp2
 go_ret
 exact ⟨gG (by simp [h3]),rfl⟩
end
section
open Go.RowKit
theorem aNz(x n:Int)(hn:0<n)(hn2:n <= 4611686018427387904)(s:Sto):aL prog 12 [.c (.val (.int .i64 x)),.c (.val (.int .i64 n))] [] s fun r s'=>r=.c (.val (.int .i64 (x%n))) /\ s'=s:=
 aP3 rfl rfl (us:=[.int .i64 x,.int .i64 n]) (fun w=>aG9 x n w hn hn2) s
end
section
open Go.RowKit
theorem pZ(k:Nat):cO k=(if k/10=0 then [] else cO (k/10))++[UInt8.ofNat (48+k%10)]:=by
 conv=>lhs;rw [cO]
 by_cases h:k<10
 ·rw [if_pos h,if_pos (by omega),show k%10=k by omega];rfl
 rw [if_neg h,if_neg (by omega)]
theorem aGa(m:Nat):∀n,n<10 ^ m -> 0<m -> (cO n).length <= m:=by
 induction m with
 |zero=>intro n _ h;omega
 |succ m ih=>
  intro n hn _
  rw [pZ]
  by_cases h:n/10=0
  ·rw [if_pos h];simp
  rw [if_neg h,length_append]
  have h1:n/10<10 ^ m:=by rw [Nat.pow_succ] at hn;omega
  have hm:0<m:=by
   rcases Nat.eq_zero_or_pos m with rfl|h2
   ·simp at h1;omega
   exact h2
  have:=ih (n/10) h1 hm
  simp;omega
theorem kC(n:Nat)(hn:n<18446744073709551616):(cO n).length <= 20:=
 aGa 20 n (Nat.lt_trans hn (by decide)) (by omega)
end
end Go.Proofs.YtojinfngbbajgaaGreatDoor
