import Derived.Test.YtbdfdjdgfanjaaaDoorV2J
import Derived.Test.YtbdfdjdgfanjaaaDoorProg
import Derived.Test.YtbdfdjdgfanjaaaDoorRows
import Derived.Test.YtbdfdjdgfanjaaaDoorShelfJ
import Derived.Test.YtbdfdjdgfanjaaaDoorV0J
import Derived.WalkKit
import Derived.WalkSpells
import Derived.WalkLawsBesides
import Derived.Handy
import Derived.Lib.Hide
set_option linter.all false
set_option synthInstance.maxHeartbeats 1000000
set_option synthInstance.maxSize 1000000
set_option maxHeartbeats 400000
namespace Go.Proofs.YtbdfdjdgfanjaaaDoor
open Go.Proofs.Tryd
open List (length_append length_cons length_nil mem_append mem_cons not_mem_nil append_assoc getElem_mem take_of_length_le)
section
open Go.RowKit
mutual
def fO:aH -> List AC
 |.mk op num name args=>[.val (.int .i64 op),.val (.int .i64 num),.val (.string name),.sl args.length (aE7 args)]
def aE7:List aH -> List AC
 |[]=>[]
 |e::es=>fO e++aE7 es
end
theorem aFn:∀l:List aH,aE7 l=l.flatMap fO
 |[]=>by rw [aE7];rfl
 |e::es=>by rw [aE7,aFn es,List.flatMap_cons]
def cU(x:aH):List AC:=[.val (.int .i64 x.op),.val (.int .i64 x.num),.val (.string x.name),.sl x.args.length (x.args.flatMap fO)]
theorem aDt(x:aH):fO x=[.val (.int .i64 x.op),.val (.int .i64 x.num),.val (.string x.name),.sl x.args.length (x.args.flatMap fO)]:=by
 cases x;rw [fO,aFn];rfl
theorem fP(x:aH):fO x=cU x:=aDt x
theorem iU(x:aH):(fO x).length=4:=by rw [aDt];rfl
def encR(r:cY):List AC:=[.val (.string r.name),.sl r.index.length (r.index.flatMap fO)]
def eJ(a:eN):List AC:=[.val (.bool a.mutex),.val (.string a.ref.name),.sl a.ref.index.length (a.ref.index.flatMap fO),.val (.int .i64 a.expr.op),.val (.int .i64 a.expr.num),.val (.string a.expr.name),.sl a.expr.args.length (a.expr.args.flatMap fO)]
mutual
def encS:aJ -> List AC
 |.mk k name e r args t el=>[.val (.int .i64 k),.val (.string name),.val (.int .i64 e.op),.val (.int .i64 e.num),.val (.string e.name),.sl e.args.length (e.args.flatMap fO),.val (.string r.name),.sl r.index.length (r.index.flatMap fO),.sl args.length (args.flatMap eJ),.sl t.length (aB3 t),.sl el.length (aB3 el)]
def aB3:List aJ -> List AC
 |[]=>[]
 |e::es=>encS e++aB3 es
end
theorem yQ:∀l:List aJ,aB3 l=l.flatMap encS
 |[]=>by rw [aB3];rfl
 |e::es=>by rw [aB3,yQ es,List.flatMap_cons]
theorem aDb(x:aJ):encS x=[.val (.int .i64 x.kind),.val (.string x.name),.val (.int .i64 x.expr.op),.val (.int .i64 x.expr.num),.val (.string x.expr.name),.sl x.expr.args.length (x.expr.args.flatMap fO),.val (.string x.ref.name),.sl x.ref.index.length (x.ref.index.flatMap fO),.sl x.args.length (x.args.flatMap eJ),.sl x.thn.length (x.thn.flatMap encS),.sl x.els.length (x.els.flatMap encS)]:=by
 cases x;rw [encS,yQ,yQ];rfl
def dG(x:aJ):List AC:=[.val (.int .i64 x.kind),.val (.string x.name),.val (.int .i64 x.expr.op),.val (.int .i64 x.expr.num),.val (.string x.expr.name),.sl x.expr.args.length (x.expr.args.flatMap fO),.val (.string x.ref.name),.sl x.ref.index.length (x.ref.index.flatMap fO),.sl x.args.length (x.args.flatMap eJ),.sl x.thn.length (x.thn.flatMap encS),.sl x.els.length (x.els.flatMap encS)]
theorem mE(x:aJ):(encS x).length=11:=by rw [aDb];rfl
def cP(p:aS):List AC:=[.val (.string p.name),.val (.bool p.mutex)]
def fV(f:bS):List AC:=[.val (.string f.name),.sl f.params.length (f.params.flatMap cP),.sl f.body.length (f.body.flatMap encS)]
def dB(g:aI):List AC:=[.val (.string g.name),.val (.int .i64 g.init)]
def bT(m:cL):List AC:=[.val (.string m.name),.val (.bool m.reentrant),.val (.int .i64 m.size)]
def jV(p:cK):List AC:=[.sl p.globals.length (p.globals.flatMap dB),.sl p.mutexes.length (p.mutexes.flatMap bT),.sl p.funcs.length (p.funcs.flatMap fV)]
def aW(t:Tok):List AC:=[.val (.int .i64 t.kind),.val (.string t.text),.val (.int .i64 t.num),.val (.int .i64 t.pos)]
theorem bJ(p:Tok):(aW p).length=4:=rfl
end
section
open Go.RowKit
section
variable {P:Program}{ops:Array Oper}{U Z:List Nat}{o o2:Oper}{n d:Nat}{T:List Nat}{s:Sto}{bx:List Box}{rw:List bA}{ts:List (Nat×AT)}{Q:Exit -> AS -> Prop}{K:AS -> Prop}{st:AS}
theorem cI(r:Int){E yt:TypeId}{x y:Operand}{m k:Int}(ho:o.op=.binOp .sub E x y yt)(hx:evA st x=some (.c (.val (.int .i64 m))))(hy:evA st y=some (.c (.val (.int .i64 k))))(hr:m-k=r)(h1:-9223372036854775808 <= r)(h2:r <= 9223372036854775807):AY P U o st (.c (.val (.int .i64 r))):=by
 subst hr;exact qC ho hx hy h1 h2
theorem rT{E e:TypeId}{x y:Operand}{α:Type}(f:α -> AC)(lst:List α){k:IntKind}{i:Int}(j:Nat)(ho:o.op=.indexAddr E x y)(hx:evA st x=some (.c (.sl lst.length (lst.map f))))(hy:evA st y=some (.c (.val (.int k i))))(hi:i=j)(hj:j<lst.length)
  (hu:∀w,(underlying E).run P w=.ok (.slice e) w) (hS:∀w,(sizeOf e).run P w=.ok 1 w):AY P U o st (.el (f lst[j]::(lst.drop (j+1)).map f)):=by
 have h:=wX (P:=P) (U:=U) j ho hx hy hi hj (by simpa using hj) hu hS
 have e1:(lst.map f).drop (j*1)=f lst[j]::(lst.drop (j+1)).map f:=by rw [Nat.mul_one,←List.map_drop,List.drop_eq_getElem_cons hj,List.map_cons]
 rw [e1] at h
 exact h
theorem aV{α:Type}(enc enc':α -> List AC)(x:α){z:Nat}{zc:List AC}(he:enc x=enc' x)(h1:zc.length=z)(h2:(enc' x).length=z):qO (fun k=>some (k*z,z)) zc [(0,.agg (enc' x))]=some ([x].flatMap enc):=by
 simp only [qO,jL,Nat.zero_mul,Nat.zero_add]
 rw [if_pos ⟨h2,by omega⟩,zC (by omega)]
 simp [he]
theorem aEp{α:Type}(enc enc':α -> List AC)(x y:α){z:Nat}{zc:List AC}(he:∀x,enc x=enc' x)(h1:zc.length=2*z)(h2:∀x,(enc' x).length=z):qO (fun k=>some (k*z,z)) zc [(0,.agg (enc' x)),(1,.agg (enc' y))]=some ([x,y].flatMap enc):=by
 simp only [qO,jL,Nat.zero_mul,Nat.zero_add,Nat.one_mul]
 have e1:(splice zc 0 (enc' x)).length=2*z:=by unfold splice;simp [h2];omega
 rw [if_pos ⟨h2 x,by omega⟩,if_pos ⟨h2 y,by omega⟩]
 unfold splice
 simp only [h2,List.take_zero,List.nil_append,Nat.zero_add,List.flatMap_cons,List.flatMap_nil,List.append_nil,he]
 rw [List.take_left' (h2 x),List.drop_of_length_le (by simp [h2];omega)]
 simp
end
end
section
open Go.RowKit
section
variable {P:Program}{U T:List Nat}{o:Oper}{n d:Nat}{ts:List (Nat×AT)}{bx:List Box}{rw:List bA}{K:AS -> Prop}{Q:Exit -> AS -> Prop}{ops:Array Oper}{l:List Oper}
theorem eV{E e:TypeId}{x y:Operand}{k m z:Nat}{v zv:Value}{cs ds r:List AC}(A:List bA)(i:TypeInfo)(bytes:Nat){B:List bA}(ho:o.op=.call {callee:=.builtin .append,args:=#[x,y],argTypes:=#[E,E]})(hd:o.dst=some d)(hn:d<n)
  (hx:evA ⟨n,T,⟨bx,A++⟨v,e,z,k,cs⟩::B⟩,ts⟩ x=some (.c (.val v))) (hy:evA ⟨n,T,⟨bx,A++⟨v,e,z,k,cs⟩::B⟩,ts⟩ y=some (.c (.sl m ds))) (hu:P.underlying E=some (.slice e)) (hi:P.info? e=some i) (hz:i.zero=some zv) (hsz:i.size=z) (hby:i.bytes=bytes) (hzs:zv.cells.size=z) (h0:0<z)
  (hm:ds.length=m*z) (hm0:0<m) (hlen:k+m <= maxLen) (hbytes:(k+m)*bytes <= 140737488355328) {N:Nat} (hN:k+m=N) (hU:(⟨bx,A++⟨v,e,z,k,cs⟩::B⟩:Sto).bl.Nodup -> ∀b,b∈aY v -> b∈U) (hT:∀b,b∈aY v -> b∈T) (hr:cs++ds=r)
  (h:∀v',K ⟨n,aY v'++T,⟨bx,A++⟨v',e,z,N,r⟩::B⟩,(d,.c (.val v'))::ts⟩):AO P U o ⟨n,T,⟨bx,A++⟨v,e,z,k,cs⟩::B⟩,ts⟩ K:=by
 subst hr;subst hN
 exact aBj A ho hd hn hx rfl hy hu hi hz hsz hby hzs h0 hm hm0 hlen hbytes hU hT h
theorem aCn{st:AS}{rv:ResultVar}{r r':AT}(h:Wk r r')(hr:aAc P st rv r):aAc P st rv r':=fun a w hs=>
 let ⟨v,h1,h2⟩:=hr a w hs
 ⟨v,h _ _ h1,h2⟩
end
end
section
open Go.RowKit
class Go1 (N:Nat) (g:Prop) (g':outParam Prop):Prop where out:g' -> g
theorem go(N:Nat){g g':Prop}[h:Go1 N g g'](x:g'):g:=h.out x
instance aV5{g:Prop}:Go1 0 g g:=⟨id⟩
class LtN (d n:Nat):Prop where h:d<n
instance ltN{d k:Nat}:LtN d (k+d+1):=⟨by omega⟩
class NeN (i j:Nat):Prop where h:i≠j
instance bC1{i j:Nat}[h:LtN i j]:NeN i j:=⟨by have:=h.h;omega⟩
instance bDh{i j:Nat}[h:LtN j i]:NeN i j:=⟨by have:=h.h;omega⟩
class aMy (ts:List (Nat×AT)) (i:Nat) (t:outParam AT):Prop where h:look ts i=some t
instance (priority:=1100) look_hit{ts:List (Nat×AT)}{i:Nat}{t:AT}:aMy ((i,t)::ts) i t:=⟨by simp [look]⟩
instance aRp{ts:List (Nat×AT)}{i j:Nat}{t u:AT}[h1:NeN j i][h2:aMy ts i t]:aMy ((j,u)::ts) i t:=⟨by rw [look,if_neg h1.h];exact h2.h⟩
class aG0 (u:AT) (t:outParam AT):Prop where h:u.bare=t
instance aY1{x:AC}:aG0 (.c x) (.c x):=⟨rfl⟩
instance aT8{x:List AC}:aG0 (.agg x) (.agg x):=⟨rfl⟩
instance aR4{x:List AT}:aG0 (.tup x) (.tup x):=⟨rfl⟩
instance aVc{x:List AC}:aG0 (.el x) (.el x):=⟨rfl⟩
instance aSr{x:Value}:aG0 (.raw x) (.raw x):=⟨rfl⟩
instance bHi{t:AT}{p:World -> Prop}:aG0 (.ride t p) t:=⟨rfl⟩
instance aRq{t:AT}{a b c d:Nat}{x y:List AC}:aG0 (.fact (.fact t a b x) c d y) t:=⟨rfl⟩
class wN (vs:List Value) (cs:outParam (List AC)):Prop where h:vs.all (·.oneCell')=true /\ vs.map .val=cs
instance aQb:wN [] []:=⟨rfl,rfl⟩
class aFe (v:Value):Prop where h:v.oneCell'=true
instance aYb{k:IntKind}{i:Int}:aFe (.int k i):=⟨rfl⟩
instance aY8{b:Bool}:aFe (.bool b):=⟨rfl⟩
instance aYm{b:ByteArray}:aFe (.string b):=⟨rfl⟩
instance aXm{b:Option Addr}:aFe (.pointer b):=⟨rfl⟩
instance aW0{a:Option Addr}{m k:Nat}:aFe (.slice a m k):=⟨rfl⟩
instance aX4{f:Fn}{a b:Array Value}:aFe (.func f a b):=⟨rfl⟩
instance aWg:aFe .nilFunc:=⟨rfl⟩
instance aPu{v:Value}{vs:List Value}{cs:List AC}[h1:aFe v][h2:wN vs cs]:wN (v::vs) (.val v::cs):=⟨by simp only [List.all_cons,h1.h,h2.h.1,Bool.and_self],by rw [List.map_cons,h2.h.2]⟩
class Cst (v:Value) (t:outParam AT):Prop where h:cst v=t
instance aZk{k:IntKind}{i:Int}:Cst (.int k i) (.c (.val (.int k i))):=⟨rfl⟩
instance aZl{b:Bool}:Cst (.bool b) (.c (.val (.bool b))):=⟨rfl⟩
instance bA5{b:ByteArray}:Cst (.string b) (.c (.val (.string b))):=⟨rfl⟩
instance aZ0{b:Option Addr}:Cst (.pointer b) (.c (.val (.pointer b))):=⟨rfl⟩
instance aYg{a:Option Addr}{m k:Nat}:Cst (.slice a m k) (.c (.val (.slice a m k))):=⟨rfl⟩
instance aYd:Cst .nilFunc (.c (.val .nilFunc)):=⟨rfl⟩
instance aW1{vs:List Value}{cs:List AC}[h:wN vs cs]:Cst (.agg vs.toArray) (.agg cs):=⟨by
 show (if vs.toArray.toList.all (·.oneCell') then AT.agg (vs.toArray.toList.map .val) else .raw (.agg vs.toArray))=_
 rw [List.toList_toArray,if_pos h.h.1,h.h.2]⟩
class Ev (ts:List (Nat×AT)) (x:Operand) (t:outParam AT):Prop where h:∀n T s,evA ⟨n,T,s,ts⟩ x=some t
instance aY7{ts:List (Nat×AT)}{i:Nat}{u t:AT}[h1:aMy ts i u][h2:aG0 u t]:Ev ts (.tmp i) t:=⟨fun n T s=>by show (look ts i).map AT.bare=_;rw [h1.h,Option.map_some,h2.h]⟩
instance aSm{ts:List (Nat×AT)}{v:Value}{t:AT}[h:Cst v t]:Ev ts (.const v) t:=⟨fun n T s=>by show some (cst v)=_;rw [h.h]⟩
instance aU3{ts:List (Nat×AT)}{f:FuncId}:Ev ts (.func f) (.c (.val (.func (.func f) #[] #[]))):=⟨fun n T s=>rfl⟩
class wV (l:List Oper) (j:Nat) (t:outParam Nat):Prop where h:(l[j]?).bind (·.dst)=some t
instance aWa{t:Nat}{op:Op}{ty:TypeId}{pos:String}{af:Array Edge}{g:Option (Nat×Bool)}{l:List Oper}:wV (⟨some t,op,ty,pos,af,g⟩::l) 0 t:=⟨rfl⟩
instance aT3{t j:Nat}{o:Oper}{l:List Oper}[h:wV l j t]:wV (o::l) (j+1) t:=⟨by simpa using h.h⟩
class wO (b want:Bool) (r:outParam Bool):Prop where h:(b == want)=r
instance bAo:wO true true true:=⟨rfl⟩
instance bCk:wO true false false:=⟨rfl⟩
instance bCp:wO false true false:=⟨rfl⟩
instance bBb:wO false false true:=⟨rfl⟩
class aH4 (t:AT) (want:Bool) (r:outParam Bool):Prop where h:(match t with|.c (.val v)=>some (aBh want v)|.raw v=>some (aBh want v)|_=>none)=some r
instance bC9{b want r:Bool}[h:wO b want r]:aH4 (.c (.val (.bool b))) want r:=⟨by show some (b == want)=some r;rw [h.h]⟩
instance bDg{want:Bool}:aH4 (.raw undef) want false:=⟨rfl⟩
class aBx (l:List Oper) (ts:List (Nat×AT)) (g:Option (Nat×Bool)) (r:outParam Bool):Prop where h:∀n T s (o:Oper),o.guard=g -> fC l.toArray o ⟨n,T,s,ts⟩=some r
instance aQ9{l:List Oper}{ts:List (Nat×AT)}:aBx l ts none true:=⟨fun n T s o h=>by unfold fC;rw [h]⟩
instance aP6{l:List Oper}{ts:List (Nat×AT)}{j t:Nat}{want r:Bool}{u:AT}[h1:wV l j t][h2:aMy ts t u][h3:aH4 u want r]:aBx l ts (some (j,want)) r:=⟨fun n T s o h=>by
 unfold fC;rw [h];dsimp only
 rw [h1.h];dsimp only
 rw [h2.h]
 have h4:=h3.h
 revert h4
 cases u with
 |c x=>cases x with
  |val v=>exact id
  |sl _ _=>exact id
 |raw v=>exact id
 |_=>exact id⟩
class YR (P:Program) (U:List Nat) (op:Op) (n:Nat) (T:List Nat) (s:Sto) (ts:List (Nat×AT)) (t:outParam AT):Prop where h:∀o:Oper,o.op=op -> AY P U o ⟨n,T,s,ts⟩ t
class aH9 (r:Bool) (P:Program) (U:List Nat) (op:Op) (n:Nat) (T:List Nat) (s:Sto) (ts:List (Nat×AT)) (t:outParam AT):Prop where h:(r=true -> ∀o:Oper,o.op=op -> AY P U o ⟨n,T,s,ts⟩ t) /\ (r=false -> t=.raw undef)
section
variable {P:Program}{U T:List Nat}{n:Nat}{s:Sto}{ts:List (Nat×AT)}{t u:AT}
instance stepT{op:Op}[h:YR P U op n T s ts t]:aH9 true P U op n T s ts t:=⟨fun _=>h.h,(fun h=>by cases h)⟩
instance bBy{op:Op}:aH9 false P U op n T s ts (.raw undef):=⟨(fun h=>by cases h),fun _=>rfl⟩
instance aYe{x:Operand}[h:Ev ts x t]:YR P U (.move x) n T s ts t:=⟨fun o ho=>lW ho (h.h _ _ _)⟩
instance aRz{x:Operand}[h:Ev ts x t]:YR P U (.assign x) n T s ts t:=⟨fun o ho=>aCd ho (h.h _ _ _)⟩
instance aV7{c x y:Operand}[hc:Ev ts c (.c (.val (.bool true)))][h:Ev ts x t]:YR P U (.pick c x y) n T s ts t:=⟨fun o ho=>aIk (b:=true) ho (hc.h _ _ _) (h.h _ _ _)⟩
instance aU6{c x y:Operand}[hc:Ev ts c (.c (.val (.bool false)))][h:Ev ts y t]:YR P U (.pick c x y) n T s ts t:=⟨fun o ho=>aIk (b:=false) ho (hc.h _ _ _) (h.h _ _ _)⟩
end
class mR (cs:List AC) (z:Nat):Prop where h:cs.length=z
instance aTi:mR [] 0:=⟨rfl⟩
instance aRf{c:AC}{cs:List AC}{k:Nat}[h:mR cs k]:mR (c::cs) (k+1):=⟨by rw [length_cons,h.h]⟩
instance aXr{x:aH}:mR (fO x) 4:=⟨iU x⟩
instance aUl{x:aH}:mR (cU x) 4:=⟨rfl⟩
instance aX9{x:cY}:mR (encR x) 2:=⟨rfl⟩
instance aYk{x:eN}:mR (eJ x) 7:=⟨rfl⟩
instance aYu{x:aJ}:mR (encS x) 11:=⟨mE x⟩
instance aXf{x:aJ}:mR (dG x) 11:=⟨rfl⟩
instance aYo{x:aS}:mR (cP x) 2:=⟨rfl⟩
instance aX1{x:bS}:mR (fV x) 3:=⟨rfl⟩
instance aXu{x:aI}:mR (dB x) 2:=⟨rfl⟩
instance aXw{x:cL}:mR (bT x) 3:=⟨rfl⟩
instance aWe{x:cK}:mR (jV x) 3:=⟨rfl⟩
instance aY5{x:Tok}:mR (aW x) 4:=⟨rfl⟩
class iY (cs:List AC) (ds:outParam (List AC)):Prop where h:cs=ds
instance aRg:iY [] []:=⟨rfl⟩
instance aQs{c:AC}{cs:List AC}:iY (c::cs) (c::cs):=⟨rfl⟩
instance aW6{x:aH}:iY (fO x) [.val (.int .i64 x.op),.val (.int .i64 x.num),.val (.string x.name),.sl x.args.length (x.args.flatMap fO)]:=⟨aDt x⟩
instance aS7{x:aH}:iY (cU x) [.val (.int .i64 x.op),.val (.int .i64 x.num),.val (.string x.name),.sl x.args.length (x.args.flatMap fO)]:=⟨rfl⟩
instance aXa{r:cY}:iY (encR r) [.val (.string r.name),.sl r.index.length (r.index.flatMap fO)]:=⟨rfl⟩
instance aV0{a:eN}:iY (eJ a) [.val (.bool a.mutex),.val (.string a.ref.name),.sl a.ref.index.length (a.ref.index.flatMap fO),.val (.int .i64 a.expr.op),.val (.int .i64 a.expr.num),.val (.string a.expr.name),.sl a.expr.args.length (a.expr.args.flatMap fO)]:=⟨rfl⟩
instance aUa{x:aJ}:iY (encS x) [.val (.int .i64 x.kind),.val (.string x.name),.val (.int .i64 x.expr.op),.val (.int .i64 x.expr.num),.val (.string x.expr.name),.sl x.expr.args.length (x.expr.args.flatMap fO),.val (.string x.ref.name),.sl x.ref.index.length (x.ref.index.flatMap fO),.sl x.args.length (x.args.flatMap eJ),.sl x.thn.length (x.thn.flatMap encS),.sl x.els.length (x.els.flatMap encS)]:=⟨aDb x⟩
instance aS9{x:aJ}:iY (dG x) [.val (.int .i64 x.kind),.val (.string x.name),.val (.int .i64 x.expr.op),.val (.int .i64 x.expr.num),.val (.string x.expr.name),.sl x.expr.args.length (x.expr.args.flatMap fO),.val (.string x.ref.name),.sl x.ref.index.length (x.ref.index.flatMap fO),.sl x.args.length (x.args.flatMap eJ),.sl x.thn.length (x.thn.flatMap encS),.sl x.els.length (x.els.flatMap encS)]:=⟨rfl⟩
instance aWu{p:aS}:iY (cP p) [.val (.string p.name),.val (.bool p.mutex)]:=⟨rfl⟩
instance aUg{f:bS}:iY (fV f) [.val (.string f.name),.sl f.params.length (f.params.flatMap cP),.sl f.body.length (f.body.flatMap encS)]:=⟨rfl⟩
instance aUn{g:aI}:iY (dB g) [.val (.string g.name),.val (.int .i64 g.init)]:=⟨rfl⟩
instance aVw{m:cL}:iY (bT m) [.val (.string m.name),.val (.bool m.reentrant),.val (.int .i64 m.size)]:=⟨rfl⟩
instance aSq{p:cK}:iY (jV p) [.sl p.globals.length (p.globals.flatMap dB),.sl p.mutexes.length (p.mutexes.flatMap bT),.sl p.funcs.length (p.funcs.flatMap fV)]:=⟨rfl⟩
instance aVj{t:Tok}:iY (aW t) [.val (.int .i64 t.kind),.val (.string t.text),.val (.int .i64 t.num),.val (.int .i64 t.pos)]:=⟨rfl⟩
instance aT0{vs:List Value}{cs:List AC}[h:wN vs cs]:iY (List.map AC.val (List.toArray vs).toList) cs:=⟨by rw [List.toList_toArray];exact h.h.2⟩
instance aU0{vs:List Value}{cs:List AC}{z:Nat}[h:wN vs cs][h2:mR cs z]:mR (List.map AC.val (List.toArray vs).toList) z:=⟨by rw [List.toList_toArray,h.h.2];exact h2.h⟩
class aPh (cs:List AC) (i:Nat) (c:AC) (r:outParam (List AC)):Prop where h:cs.set i c=r
instance aYc{c d:AC}{cs:List AC}:aPh (d::cs) 0 c (c::cs):=⟨rfl⟩
instance aYa{c d:AC}{cs r:List AC}{i:Nat}[h:aPh cs i c r]:aPh (d::cs) (i+1) c (d::r):=⟨by rw [List.set_cons_succ,h.h]⟩
instance aRj{cs cs' r:List AC}{i:Nat}{c:AC}[h:iY cs cs'][h2:aPh cs' i c r]:iY (cs.set i c) r:=⟨by rw [h.h,h2.h]⟩
instance aRw{cs:List AC}{i z:Nat}{c:AC}[h:mR cs z]:mR (cs.set i c) z:=⟨by rw [List.length_set,h.h]⟩
instance aRk{cs ds R:List AC}[h:iY cs ds]:iY (cs++R) (ds++R):=⟨by rw [h.h]⟩
class aCc (cs:List AC) (z:Nat) (ds:outParam (List AC)):Prop where h:cs.take z=ds /\ z <= cs.length
instance aVs{cs:List AC}:aCc cs 0 []:=⟨by simp⟩
instance aUr{c:AC}{cs ds:List AC}{z:Nat}[h:aCc cs z ds]:aCc (c::cs) (z+1) (c::ds):=⟨by simp [h.h.1,h.h.2]⟩
instance aRm{cs R ds:List AC}{z:Nat}[h:aCc cs z ds]:aCc (cs++R) z ds:=⟨by rw [List.take_append_of_le_length h.h.2,length_append];exact ⟨h.h.1,by have:=h.h.2;omega⟩⟩
class wZ (cs:List AC) (o:Nat) (ds:outParam (List AC)):Prop where h:cs.drop o=ds /\ o <= cs.length
instance aVa{cs:List AC}:wZ cs 0 cs:=⟨by simp⟩
instance aXh{c:AC}{cs ds:List AC}{o:Nat}[h:wZ cs o ds]:wZ (c::cs) (o+1) ds:=⟨by simp [h.h.1,h.h.2]⟩
instance aRh{cs ds R:List AC}{o:Nat}[h:wZ cs o ds]:wZ (cs++R) o (ds++R):=⟨by
 refine ⟨?_,by have:=h.h.2;simp;omega⟩
 rw [List.drop_append_of_le_length h.h.2,h.h.1]⟩
class PkN (ag:Bool) (z:Nat) (cs:List AC) (off:Nat) (t:outParam AT):Prop where h:pk ag z cs off=some t
instance (priority:=1200) pkN_whole{cs:List AC}{z:Nat}[h:mR cs z]:PkN true z cs 0 (.agg cs):=⟨bK h.h rfl⟩
instance (priority:=1100) pkN_head{cs R:List AC}{z:Nat}[h:mR cs z]:PkN true z (cs++R) 0 (.agg cs):=⟨aOq h.h rfl⟩
instance aWx{cs cs' c2 ds:List AC}{z off:Nat}[h1:iY cs cs'][h2:wZ cs' off c2][h3:aCc c2 z ds]:PkN true z cs off (.agg ds):=⟨by
 rw [h1.h];unfold pk
 rw [if_pos rfl,if_pos,h2.h.1,h3.h.1]
 have e1:=h3.h.2;rw [←h2.h.1,List.length_drop] at e1
 have e2:=h2.h.2;omega⟩
class aNp (cs:List AC) (c:outParam AC):Prop where h:cs[0]?=some c
instance aZw{c:AC}{cs:List AC}:aNp (c::cs) c:=⟨rfl⟩
instance aYf{c:AC}{cs R:List AC}:aNp (c::cs++R) c:=⟨rfl⟩
instance aVg{cs cs' c2:List AC}{z off:Nat}{c:AC}[h1:iY cs cs'][h2:wZ cs' off c2][h3:aNp c2 c]:PkN false z cs off (.c c):=⟨by
 rw [h1.h];unfold pk
 rw [if_neg (by simp)]
 have e3:=h3.h;rw [←h2.h.1,List.getElem?_drop] at e3
 rw [Nat.add_zero] at e3;rw [e3];rfl⟩
class aJf (cs:List AC) (off:Nat) (ds:List AC) (r:outParam (List AC)):Prop where h:splice cs off ds=r /\ off+ds.length <= cs.length
instance aTp{cs:List AC}:aJf cs 0 [] cs:=⟨by simp [splice]⟩
instance aXl{c d:AC}{cs ds r:List AC}[h:aJf cs 0 ds r]:aJf (c::cs) 0 (d::ds) (d::r):=⟨by
 have e:=h.h;refine ⟨?_,by have:=e.2;simp at this⊢;omega⟩
 have e1:=e.1;unfold splice at e1⊢;simp at e1⊢;exact e1⟩
instance aYj{c:AC}{cs ds r:List AC}{o:Nat}[h:aJf cs o ds r]:aJf (c::cs) (o+1) ds (c::r):=⟨by
 have e:=h.h;refine ⟨?_,by have:=e.2;simp at this⊢;omega⟩
 have e1:=e.1;unfold splice at e1⊢
 rw [show o+1+ds.length=(o+ds.length)+1 by omega]
 simp only [List.take_succ_cons,List.drop_succ_cons,List.cons_append,e1]⟩
class Spl (cs:List AC) (off:Nat) (ds:List AC) (z:Nat) (r:outParam (List AC)):Prop where h:splice cs off ds=r /\ off+z <= cs.length /\ ds.length=z
instance (priority:=1200) spl_all{cs ds:List AC}{z:Nat}[h1:mR cs z][h2:mR ds z]:Spl cs 0 ds z ds:=⟨zC (by rw [h1.h,h2.h]),by rw [h1.h];omega,h2.h⟩
instance aT7{cs cs' ds ds' r:List AC}{off z:Nat}[h1:iY cs cs'][h2:iY ds ds'][h3:mR ds' z][h4:aJf cs' off ds' r]:Spl cs off ds z r:=⟨by
 rw [h1.h,h2.h];have e:=h4.h;have e2:=h3.h;exact ⟨e.1,by omega,e2⟩⟩
class TY (P:Program) (t:TypeId) (ag:outParam Bool) (z:outParam Nat):Prop where h:(∀w,(isAgg t).run P w=.ok ag w) /\ ∀w,(sizeOf t).run P w=.ok z w
class eG (P:Program) (t:TypeId) (f:Nat) (off:outParam Nat) (ft:outParam TypeId):Prop where h:∃fs,(∀w,(underlying t).run P w=.ok (.struct fs) w) /\ fld fs f=some (off,ft)
class TSl (P:Program) (t:TypeId) (e:outParam TypeId):Prop where h:∀w,(underlying t).run P w=.ok (.slice e) w
class aRy (P:Program) (t:TypeId):Prop where h:∀w,(underlying t).run P w=.ok .string w
class eM (P:Program) (t:TypeId) (cs:outParam (List AC)):Prop where h:∃z,(∀w,(zeroValue t).run P w=.ok z w) /\ jL (cst z)=some cs
class hP (p o:Nat) (q:outParam Nat):Prop where h:p+o=q
instance (priority:=1100) addN_0{o:Nat}:hP 0 o o:=⟨Nat.zero_add o⟩
instance aYw{p:Nat}:hP p 0 p:=⟨rfl⟩
class lY (bx:List Box) (b:Nat) (A:outParam (List Box)) (T:outParam TypeId) (cs:outParam (List AC)) (B:outParam (List Box)):Prop where h:bx=A++⟨b,T,cs⟩::B
instance (priority:=1100) boxIn_hit{b:Nat}{T:TypeId}{cs:List AC}{B:List Box}:lY (⟨b,T,cs⟩::B) b [] T cs B:=⟨rfl⟩
instance aQq{x:Box}{bx A B:List Box}{b:Nat}{T:TypeId}{cs:List AC}[h:lY bx b A T cs B]:lY (x::bx) b (x::A) T cs B:=⟨by rw [h.h];rfl⟩
instance aRo{A0 bx B:List Box}{x:Box}{b:Nat}{T:TypeId}{cs:List AC}[h:lY (x::bx) b [] T cs B]:lY (A0++x::bx) b A0 T cs B:=⟨by rw [h.h];rfl⟩
instance (priority:=1200) boxIn_capp{x:Box}{A1 R A B:List Box}{b:Nat}{T:TypeId}{cs:List AC}[h:lY (x::(A1++R)) b A T cs B]:lY (x::A1++R) b A T cs B:=⟨h.h⟩
instance (priority:=1200) boxIn_napp{R A B:List Box}{b:Nat}{T:TypeId}{cs:List AC}[h:lY R b A T cs B]:lY ([]++R) b A T cs B:=⟨h.h⟩
instance (priority:=1200) boxIn_napp2{R A B:List Box}{b:Nat}{T:TypeId}{cs:List AC}[h:lY R b A T cs B]:lY (List.append [] R) b A T cs B:=⟨h.h⟩
class aDk (A ds:List Box) (r:outParam (List Box)):Prop where h:A++ds=r
instance (priority:=1100) appL_nil{ds:List Box}:aDk [] ds ds:=⟨rfl⟩
instance (priority:=1100) appL_cons{x:Box}{A ds r:List Box}[h:aDk A ds r]:aDk (x::A) ds (x::r):=⟨by rw [List.cons_append,h.h]⟩
instance aTs{A ds:List Box}:aDk A ds (A++ds):=⟨rfl⟩
class InL (b:Nat) (T:List Nat):Prop where h:b∈T
instance (priority:=1100) inL_hit{b:Nat}{T:List Nat}:InL b (b::T):=⟨by simp⟩
instance aS1{b x:Nat}{T:List Nat}[h:InL b T]:InL b (x::T):=⟨List.mem_cons_of_mem _ h.h⟩
instance aWn{b:Nat}{X T:List Nat}[h:InL b T]:InL b (X++T):=⟨List.mem_append_right _ h.h⟩
instance aTm{b:Nat}{X T:List Nat}[h:InL b X]:InL b (X++T):=⟨List.mem_append_left _ h.h⟩
class aLk (b:Nat) (U:List Nat):Prop where h:b∉U
instance aRn{b:Nat}:aLk b []:=⟨by simp⟩
instance aRe{b:Nat}{s:Sto}{Z:List Nat}[h:InL b Z]:aLk b (lM s Z):=⟨fun hm=>(kH.1 hm).2 h.h⟩
class BIn (bx:List Box) (b:Nat):Prop where h:b∈bx.map Box.b
instance (priority:=1100) bIn_hit{b:Nat}{T:TypeId}{cs:List AC}{B:List Box}:BIn (⟨b,T,cs⟩::B) b:=⟨by simp⟩
instance aTe{x:Box}{bx:List Box}{b:Nat}[h:BIn bx b]:BIn (x::bx) b:=⟨by rw [List.map_cons];exact List.mem_cons_of_mem _ h.h⟩
instance aWf{A bx:List Box}{b:Nat}[h:BIn bx b]:BIn (A++bx) b:=⟨by rw [List.map_append];exact List.mem_append_right _ h.h⟩
instance (priority:=1200) bIn_capp{x:Box}{A R:List Box}{b:Nat}[h:BIn (x::(A++R)) b]:BIn (x::A++R) b:=⟨h.h⟩
instance (priority:=1200) bIn_napp{R:List Box}{b:Nat}[h:BIn R b]:BIn ([]++R) b:=⟨h.h⟩
instance (priority:=1200) bIn_napp2{R:List Box}{b:Nat}[h:BIn R b]:BIn (List.append [] R) b:=⟨h.h⟩
class BNe (bx:List Box) (b z:Nat):Prop where h:(bx.map Box.b).Nodup -> b≠z
instance (priority:=1100) bNe_1{b z:Nat}{T:TypeId}{cs:List AC}{B:List Box}[h:BIn B z]:BNe (⟨b,T,cs⟩::B) b z:=⟨fun hn he=>by subst he;rw [List.map_cons,List.nodup_cons] at hn;exact hn.1 h.h⟩
instance (priority:=1100) bNe_2{b z:Nat}{T:TypeId}{cs:List AC}{B:List Box}[h:BIn B b]:BNe (⟨z,T,cs⟩::B) b z:=⟨fun hn he=>by subst he;rw [List.map_cons,List.nodup_cons] at hn;exact hn.1 h.h⟩
instance aTc{x:Box}{bx:List Box}{b z:Nat}[h:BNe bx b z]:BNe (x::bx) b z:=⟨fun hn=>h.h (by rw [List.map_cons,List.nodup_cons] at hn;exact hn.2)⟩
instance aV9{A bx:List Box}{b z:Nat}[h:BNe bx b z]:BNe (A++bx) b z:=⟨fun hn=>h.h (by rw [List.map_append] at hn;exact (List.nodup_append.1 hn).2.1)⟩
instance (priority:=1200) bNe_capp{x:Box}{A R:List Box}{b z:Nat}[h:BNe (x::(A++R)) b z]:BNe (x::A++R) b z:=⟨h.h⟩
instance (priority:=1200) bNe_napp{R:List Box}{b z:Nat}[h:BNe R b z]:BNe ([]++R) b z:=⟨h.h⟩
instance (priority:=1200) bNe_napp2{R:List Box}{b z:Nat}[h:BNe R b z]:BNe (List.append [] R) b z:=⟨h.h⟩
class aLt (bx:List Box) (b:Nat) (Z:List Nat):Prop where h:(bx.map Box.b).Nodup -> b∉Z
instance aTu{bx:List Box}{b:Nat}:aLt bx b []:=⟨fun _=>by simp⟩
instance aRi{bx:List Box}{b z:Nat}{Z:List Nat}[h1:BNe bx b z][h2:aLt bx b Z]:aLt bx b (z::Z):=⟨fun hn hm=>by rcases mem_cons.1 hm with e|e;exact h1.h hn e;exact h2.h hn e⟩
class aNc (bx:List Box) (rw:List bA) (T U:List Nat) (b:Nat):Prop where h:b∈T /\ ((⟨bx,rw⟩:Sto).bl.Nodup -> b∈U)
instance aY3{bx:List Box}{rw:List bA}{T:List Nat}{b:Nat}[h:InL b T]:aNc bx rw T T b:=⟨h.h,fun _=>h.h⟩
instance aYt{bx:List Box}{rw:List bA}{T Z:List Nat}{b:Nat}[h:InL b T][h2:BIn bx b][h3:aLt bx b Z]:aNc bx rw T (lM ⟨bx,rw⟩ Z) b:=⟨h.h,fun hn=>kH.2 ⟨List.mem_append_left _ h2.h,h3.h (List.nodup_append.1 hn).1⟩⟩
class rF (t:AT) (cs:outParam (List AC)):Prop where h:jL t=some cs
instance aSc{x:AC}:rF (.c x) [x]:=⟨rfl⟩
instance aR0{cs:List AC}:rF (.agg cs) cs:=⟨rfl⟩
section
variable {P:Program}{U T:List Nat}{n:Nat}{s:Sto}{bx A B:List Box}{rw:List bA}{ts:List (Nat×AT)}{t u:AT}{x y:Operand}
instance aZa{b r:Bool}[h:Ev ts x (.c (.val (.bool b)))][h2:wO b false r]{E:TypeId}:YR P U (.unOp .not E x) n T s ts (.c (.val (.bool r))):=⟨fun o ho=>by
 have e:r=!b:=by have:=h2.h;cases b<;>cases r<;>simp_all
 rw [e];exact lF ho (h.h _ _ _)⟩
instance aZr{b off:Nat}[h:Ev ts x (.c (.val (.pointer (some ⟨b,off,none⟩))))]:YR P U (.nilCheck x) n T s ts (.c (.val (.pointer (some ⟨b,off,none⟩)))):=⟨fun o ho=>aEd ho (h.h _ _ _)⟩
instance aTq{cs:List AC}[h:Ev ts x (.el cs)]:YR P U (.nilCheck x) n T s ts (.el cs):=⟨fun o ho=>yM ho (h.h _ _ _)⟩
instance bDi{E ft:TypeId}{f b p off q z:Nat}{ag:Bool}[h:Ev ts x (.c (.val (.pointer (some ⟨b,p,none⟩))))][hf:eG P E f off ft][hz:TY P ft ag z][h0:LtN 0 z][hq:hP p off q]:YR P U (.fieldAddr E x f) n T s ts (.c (.val (.pointer (some ⟨b,q,none⟩)))):=⟨fun o ho=>by
 obtain ⟨fs,h1,h2⟩:=hf.h
 exact uX off q ho (h.h _ _ _) h1 h2 hz.h.2 (by have:=h0.h;omega) hq.h⟩
instance aW2{E ft:TypeId}{f off z:Nat}{cs cs' ds:List AC}{ag:Bool}[h:Ev ts x (.el cs)][hf:eG P E f off ft][hz:TY P ft ag z][h0:LtN 0 z][hc:iY cs cs'][hd:wZ cs' off ds]:YR P U (.fieldAddr E x f) n T s ts (.el ds):=⟨fun o ho=>by
 obtain ⟨fs,h1,h2⟩:=hf.h
 have:=xW (P:=P) (U:=U) off ho (h.h n T s) h1 h2 hz.h.2 (by have:=h0.h;omega)
 rw [hc.h,hd.h.1] at this;exact this⟩
instance aVm{E ft:TypeId}{f off z:Nat}{cs:List AC}{ag:Bool}[h:Ev ts x (.agg cs)][hf:eG P E f off ft][hz:TY P ft ag z][hp:PkN ag z cs off t]:YR P U (.field E x f) n T s ts t:=⟨fun o ho=>by
 obtain ⟨fs,h1,h2⟩:=hf.h
 exact aNn off ho (h.h _ _ _) h1 h2 hz.h.1 hz.h.2 hp.h⟩
instance bDf{E T0:TypeId}{b off z:Nat}{cs:List AC}{ag:Bool}{A B:List Box}[h:Ev ts x (.c (.val (.pointer (some ⟨b,off,none⟩))))][hb:lY bx b A T0 cs B][hz:TY P E ag z][hp:PkN ag z cs off t][hu:aLk b U]:YR P U (.load E x) n T ⟨bx,rw⟩ ts t:=⟨fun o ho=>aX A ho (h.h _ _ _) hb.h hz.h.1 hz.h.2 hp.h (fun _=>hu.h)⟩
instance aVl{E:TypeId}{z:Nat}{cs:List AC}{ag:Bool}[h:Ev ts x (.el cs)][hz:TY P E ag z][hp:PkN ag z cs 0 t]:YR P U (.load E x) n T s ts t:=⟨fun o ho=>iP ho (h.h _ _ _) hz.h.1 hz.h.2 hp.h⟩
class aPe (l:List AT) (k:Nat) (t:outParam AT):Prop where h:l[k]?=some t
instance aX0{t:AT}{l:List AT}:aPe (t::l) 0 t:=⟨rfl⟩
instance aXz{t u:AT}{l:List AT}{k:Nat}[h:aPe l k t]:aPe (u::l) (k+1) t:=⟨by simpa using h.h⟩
instance aZq{k:Nat}{us:List AT}[h:Ev ts x (.tup us)][h2:aPe us k t]:YR P U (.extract x k) n T s ts t:=⟨fun o ho=>aHc ho (h.h _ _ _) h2.h⟩
instance aTj{E e:TypeId}{m:Nat}{cs:List AC}[h:Ev ts x (.c (.sl m cs))][hu:TSl P E e]:YR P U (.call {callee:=.builtin .len,args:=#[x],argTypes:=#[E]}) n T s ts (nI m):=⟨fun o ho=>aJl ho (h.h _ _ _) hu.h⟩
instance aUq{E e:TypeId}{m k:Nat}{p:Option Addr}[h:Ev ts x (.c (.val (.slice p m k)))][hu:TSl P E e]:YR P U (.call {callee:=.builtin .len,args:=#[x],argTypes:=#[E]}) n T s ts (nI m):=⟨fun o ho=>aHy ho (h.h _ _ _) hu.h⟩
instance aRt{E:TypeId}{b:ByteArray}[h:Ev ts x (.c (.val (.string b)))][hu:aRy P E]:YR P U (.call {callee:=.builtin .len,args:=#[x],argTypes:=#[E]}) n T s ts (nI b.size):=⟨fun o ho=>aHt ho (h.h _ _ _) hu.h⟩
end
class aIn (ts:List (Nat×AT)) (ps:List (Nat×Operand)) (us:outParam (List (Nat×AT))):Prop where h:∀n T s,EvP ⟨n,T,s,ts⟩ ps us
instance aRl{ts:List (Nat×AT)}:aIn ts [] []:=⟨fun _ _ _=>.nil⟩
instance aQd{ts:List (Nat×AT)}{i:Nat}{x:Operand}{ps:List (Nat×Operand)}{t:AT}{us:List (Nat×AT)}[h1:Ev ts x t][h2:aIn ts ps us]:aIn ts ((i,x)::ps) ((i,t)::us):=⟨fun n T s=>.cons (h1.h n T s) (h2.h n T s)⟩
class Plc (P:Program) (E:TypeId) (pl:outParam (List (Nat×Nat))) (zc:outParam (List AC)):Prop where h:∃(fs:Array Field) (i:TypeInfo) (z:Value),P.underlying E=some (.struct fs) /\ P.info? E=some i /\ i.zero=some z /\ fs.toList.mapM (fun f=>(P.info? f.type).map fun i=>(f.offset,i.size))=some pl /\ jL (cst z)=some zc
class aOf (l:List (Nat×Nat)) (k:Nat) (p:outParam (Nat×Nat)):Prop where h:l[k]?=some p
instance aX6{t:Nat×Nat}{l:List (Nat×Nat)}:aOf (t::l) 0 t:=⟨rfl⟩
instance aYh{t u:Nat×Nat}{l:List (Nat×Nat)}{k:Nat}[h:aOf l k t]:aOf (u::l) (k+1) t:=⟨by simpa using h.h⟩
class aOx (pl:List (Nat×Nat)) (zc:List AC) (us:List (Nat×AT)) (r:outParam (List AC)):Prop where h:qO (pl.toArray[·]?) zc us=some r
instance aSg{pl:List (Nat×Nat)}{zc:List AC}:aOx pl zc [] zc:=⟨rfl⟩
instance aRu{pl:List (Nat×Nat)}{zc c1 r ds:List AC}{i off z:Nat}{t:AT}{us:List (Nat×AT)}[h1:aOf pl i (off,z)][h2:rF t ds][h3:Spl zc off ds z c1][h4:aOx pl c1 us r]:aOx pl zc ((i,t)::us) r:=⟨by
 have e1:=h1.h
 have e:pl.toArray[i]?=some (off,z):=by rw [List.getElem?_toArray];exact e1
 rw [qO,e,h2.h]
 dsimp only
 rw [if_pos ⟨h3.h.2.2,h3.h.2.1⟩,h3.h.1]
 exact h4.h⟩
instance aVq{P:Program}{U T:List Nat}{n:Nat}{s:Sto}{ts:List (Nat×AT)}{E:TypeId}{ps:List (Nat×Operand)}{us:List (Nat×AT)}{pl:List (Nat×Nat)}{zc r:List AC}[h1:aIn ts ps us][h2:Plc P E pl zc][h3:aOx pl zc us r]:YR P U (.build E ps.toArray) n T s ts (.agg r):=⟨fun o ho=>by
 obtain ⟨fs,i,z,e1,e2,e3,e4,e5⟩:=h2.h
 exact aNs i pl ho (h1.h _ _ _) e1 e2 e3 e4 e5 h3.h⟩
section
variable {P:Program}{U T:List Nat}{n:Nat}{s:Sto}{ts:List (Nat×AT)}{t u:AT}{Q:Exit -> AS -> Prop}{g:Prop}{K:AS -> Prop}{st:AS}{N:Nat}
instance bBq{x y:Code}[h:Go1 N (AWp P x st (sU (fun s=>AWp P y s Q) Q)) g]:Go1 (N+1) (AWp P (.seq x y) st Q) g:=⟨fun k=>aHp (h.out k)⟩
instance aTd{id:Nat}{l:List Oper}[h:Go1 N (eQ P l.toArray l st Q) g]:Go1 (N+1) (AWp P (.region id l.toArray false) st Q) g:=⟨fun k=>aCg (h.out k)⟩
instance aUi{id:Nat}{c:Code}[h:Go1 N (AWp P c st (InB id Q)) g]:Go1 (N+1) (AWp P (.block id c) st Q) g:=⟨fun k=>aM4 (h.out k)⟩
instance aY2{id:Nat}[h:Go1 N (Q (.exit id) st) g]:Go1 (N+1) (AWp P (.exit id) st Q) g:=⟨fun k=>aOa (h.out k)⟩
instance bB3[h:Go1 N (Q .ret st) g]:Go1 (N+1) (AWp P .ret st Q) g:=⟨fun k=>aQo (h.out k)⟩
instance aYi[h:Go1 N (Q .normal st) g]:Go1 (N+1) (AWp P .skip st Q) g:=⟨fun k=>aO3 (h.out k)⟩
instance aWz{c:Operand}{x y:Code}[hc:Ev ts c (.c (.val (.bool true)))][h:Go1 N (AWp P x ⟨n,T,s,ts⟩ Q) g]:Go1 (N+1) (AWp P (.cond c x y) ⟨n,T,s,ts⟩ Q) g:=⟨fun k=>aM9 (hc.h _ _ _) rfl (h.out k)⟩
instance aVv{c:Operand}{x y:Code}[hc:Ev ts c (.c (.val (.bool false)))][h:Go1 N (AWp P y ⟨n,T,s,ts⟩ Q) g]:Go1 (N+1) (AWp P (.cond c x y) ⟨n,T,s,ts⟩ Q) g:=⟨fun k=>aMs (hc.h _ _ _) rfl (h.out k)⟩
instance aUh[h:Go1 N (K st) g]:Go1 (N+1) (sU K Q .normal st) g:=⟨fun k=>h.out k⟩
instance aU2[h:Go1 N (Q .ret st) g]:Go1 (N+1) (sU K Q .ret st) g:=⟨fun k=>h.out k⟩
instance aWq{id:Nat}[h:Go1 N (Q (.exit id) st) g]:Go1 (N+1) (sU K Q (.exit id) st) g:=⟨fun k=>h.out k⟩
instance aZy{id:Nat}[h:Go1 N (Q .normal st) g]:Go1 (N+1) (InB id Q .normal st) g:=⟨fun k=>h.out k⟩
instance aZt{id:Nat}[h:Go1 N (Q .ret st) g]:Go1 (N+1) (InB id Q .ret st) g:=⟨fun k=>h.out k⟩
instance (priority:=1100) g_inE{id:Nat}[h:Go1 N (Q .normal st) g]:Go1 (N+1) (InB id Q (.exit id) st) g:=⟨fun k=>aLr (h.out k)⟩
instance bCa{id id':Nat}[hn:NeN id' id][h:Go1 N (Q (.exit id') st) g]:Go1 (N+1) (InB id Q (.exit id') st) g:=⟨fun k=>aK1 hn.h (h.out k)⟩
instance bA6{ops:Array Oper}[h:Go1 N (Q .normal st) g]:Go1 (N+1) (eQ P ops [] st Q) g:=⟨fun k=>aD1 (h.out k)⟩
instance aYn{l0 l:List Oper}{d:Nat}{op:Op}{ty:TypeId}{pos:String}{af:Array Edge}{gd:Option (Nat×Bool)}{r:Bool}[h1:aBx l0 ts gd r][h2:aH9 r P [] op n T s ts t][h3:LtN d n][h:Go1 N (eQ P l0.toArray l ⟨n,T,s,(d,t)::ts⟩ Q) g]:Go1 (N+1) (eQ P l0.toArray (⟨some d,op,ty,pos,af,gd⟩::l) ⟨n,T,s,ts⟩ Q) g:=⟨fun k=>by
 cases r with
 |true=>exact wy (h1.h _ _ _ _ rfl) rfl h3.h (h2.h.1 rfl _ rfl) (h.out k)
 |false=>obtain rfl:=h2.h.2 rfl;exact aSb (h1.h _ _ _ _ rfl) rfl h3.h (h.out k)⟩
instance aUk{l0 l:List Oper}{d:Nat}{E:TypeId}{ty:TypeId}{pos:String}{af:Array Edge}{cs:List AC}{bx:List Box}{rw:List bA}{G:Nat -> Prop}[h1:eM P E cs][h3:LtN d n][h:∀b,Go1 N (eQ P l0.toArray l ⟨n,b::T,⟨⟨b,E,cs⟩::bx,rw⟩,(d,pP b)::ts⟩ Q) (G b)]:Go1 (N+1) (eQ P l0.toArray (⟨some d,.alloc E,ty,pos,af,none⟩::l) ⟨n,T,⟨bx,rw⟩,ts⟩ Q) (∀b,G b):=⟨fun k=>by
 obtain ⟨z,e1,e2⟩:=h1.h
 exact wo rfl (jK rfl rfl h3.h e1 e2 fun b=>(h b).out (k b))⟩
instance bB7{l0 l:List Oper}{d:Nat}{E:TypeId}{x:Operand}{ty:TypeId}{pos:String}{af:Array Edge}{cs:List AC}{bx:List Box}{rw:List bA}{G:Nat -> Prop}[h1:Ev ts x t][h2:rF t cs][h3:LtN d n][h:∀b,Go1 N (eQ P l0.toArray l ⟨n,b::T,⟨⟨b,E,cs⟩::bx,rw⟩,(d,pP b)::ts⟩ Q) (G b)]:Go1 (N+1) (eQ P l0.toArray (⟨some d,.box E x,ty,pos,af,none⟩::l) ⟨n,T,⟨bx,rw⟩,ts⟩ Q) (∀b,G b):=⟨fun k=>wo rfl (aSn rfl rfl h3.h (h1.h _ _ _) h2.h fun b=>(h b).out (k b))⟩
instance aW4{l0 l:List Oper}{E T0:TypeId}{x y:Operand}{ty:TypeId}{pos:String}{af:Array Edge}{gd:Option (Nat×Bool)}{b off z:Nat}{cs ds r:List AC}{ag:Bool}{bx A B:List Box}{rw:List bA}[h0:aBx l0 ts gd true][h1:Ev ts x (.c (.val (.pointer (some ⟨b,off,none⟩))))][h2:Ev ts y t][h3:rF t ds][h4:lY bx b A T0 cs B][h5:TY P E ag z][h6:Spl cs off ds z r]{bx2:List Box}[h7:aNc bx rw T T b][h8:aDk A (⟨b,T0,r⟩::B) bx2][h:Go1 N (eQ P l0.toArray l ⟨n,T,⟨bx2,rw⟩,ts⟩ Q) g]:Go1 (N+1) (eQ P l0.toArray (⟨none,.store E x y,ty,pos,af,gd⟩::l) ⟨n,T,⟨bx,rw⟩,ts⟩ Q) g:=⟨fun k=>
 wo (h0.h _ _ _ _ rfl) (zQ A rfl rfl (h1.h _ _ _) (h2.h _ _ _) h3.h h4.h h5.h.2 h6.h.2.2 h6.h.2.1 h6.h.1 h7.h.1 h7.h.2 (by rw [h8.h];exact h.out k))⟩
end
def vB(P:Program)(ops:Array Oper)(Z:List Nat):List (Nat×Bool) -> AS -> (AS -> Prop) -> Prop
 |[],st,K=>K st
 |(i,true)::r,st,K=>∃o d,ops.toList[i]?=some o /\ o.dst=some d /\ d<st.n /\ ((∃t,fC ops o st=some true /\ AY P (lM st.s Z) o st t /\ vB P ops Z r {st with ts:=(d,t)::st.ts} K)∨(fC ops o st=some false /\ vB P ops Z r {st with ts:=(d,.raw undef)::st.ts} K))
 |(i,false)::r,st,K=>∃o,ops.toList[i]?=some o /\ fC ops o st=some true /\ AO P (lM st.s Z) o st fun s=>vB P ops Z r s K
def aBb(ops:Array Oper):Array Bool -> List (Nat×Bool) -> Bool
 |_,[]=>true
 |L,(i,true)::r=>(Region.ready .any ops L).contains i && Region.free .any ops L i && aBb ops (L.setIfInBounds i true) r
 |L,(i,false)::r=>decide (Region.ready .any ops L=[i]) && aBb ops (L.setIfInBounds i true) r
def aDe:Array Bool -> List (Nat×Bool) -> Array Bool
 |L,[]=>L
 |L,(i,_)::r=>aDe (L.setIfInBounds i true) r
theorem vR{P:Program}{ops:Array Oper}{Z:List Nat}{Q:AS -> Prop}(hsel:Region.noSelect ops=true)(F:Nat):∀(run:List (Nat×Bool)) (listed:Array Bool) (st:AS),aBb ops listed run=true -> vB P ops Z run st (fun st'=>lD P ops Z F (aDe listed run) st' Q) -> lD P ops Z (F+run.length) listed st Q
 |[],_,_,_,h=>h
 |(i,true)::r,listed,st,hc,h=>by
  simp only [aBb,Bool.and_eq_true] at hc
  obtain ⟨o,d,h1,h2,h3,h4⟩:=h
  rcases h4 with ⟨t,h5,h6,h7⟩|⟨h5,h7⟩
  ·exact aD2 i hc.1.1 h1 hc.1.2 hsel h5 h2 h3 h6 (vR hsel F r _ _ hc.2 h7)
  ·exact aM6 i hc.1.1 h1 hc.1.2 hsel h5 h2 h3 (vR hsel F r _ _ hc.2 h7)
 |(i,false)::r,listed,st,hc,h=>by
  simp only [aBb,Bool.and_eq_true,decide_eq_true_eq] at hc
  obtain ⟨o,h1,h2,h3⟩:=h
  refine uU hc.1 rfl (nJ h1 h2 (fun a w hs KK QQ hK=>h3 a w hs KK QQ fun a' w' st' q=>hK a' w' st' (vR hsel F r _ _ hc.2 q)) pO)
theorem tks{P:Program}{ops:Array Oper}{Z:List Nat}{Q:AS -> Prop}{st:AS}{F0:Nat}{listed:Array Bool}(run:List (Nat×Bool))(F:Nat)(hc:(aBb ops listed run && Region.noSelect ops && F0 == F+run.length)=true)(h:vB P ops Z run st (fun st'=>lD P ops Z F (aDe listed run) st' Q)):lD P ops Z F0 listed st Q:=by
 simp only [Bool.and_eq_true,beq_iff_eq] at hc
 rw [hc.2]
 exact vR hc.1.2 F run listed st hc.1.1 h
class aGu (l:List Oper) (i:Nat) (d:outParam (Option Nat)) (op:outParam Op) (gd:outParam (Option (Nat×Bool))):Prop where h:∃o:Oper,l[i]?=some o /\ o.dst=d /\ o.op=op /\ o.guard=gd
instance aY4{d:Option Nat}{op:Op}{ty:TypeId}{pos:String}{af:Array Edge}{gd:Option (Nat×Bool)}{l:List Oper}:aGu (⟨d,op,ty,pos,af,gd⟩::l) 0 d op gd:=⟨_,rfl,rfl,rfl,rfl⟩
instance aYz{d:Option Nat}{op:Op}{gd:Option (Nat×Bool)}{l:List Oper}{o:Oper}{i:Nat}[h:aGu l i d op gd]:aGu (o::l) (i+1) d op gd:=⟨by simpa using h.h⟩
section
variable {P:Program}{Z T:List Nat}{n:Nat}{s:Sto}{ts:List (Nat×AT)}{t u:AT}{g:Prop}{K:AS -> Prop}{st:AS}{N:Nat}{bx A B:List Box}{rw:List bA}{l0:List Oper}{i:Nat}{run:List (Nat×Bool)}{gd:Option (Nat×Bool)}
instance aXq{ops:Array Oper}[h:Go1 N (K st) g]:Go1 (N+1) (vB P ops Z [] st K) g:=⟨fun k=>h.out k⟩
instance bCs{d:Nat}{op:Op}{r:Bool}[h0:aGu l0 i (some d) op gd][h1:aBx l0 ts gd r][h2:aH9 r P (lM s Z) op n T s ts t][h3:LtN d n][h:Go1 N (vB P l0.toArray Z run ⟨n,T,s,(d,t)::ts⟩ K) g]:Go1 (N+1) (vB P l0.toArray Z ((i,true)::run) ⟨n,T,s,ts⟩ K) g:=⟨fun k=>by
 obtain ⟨o,e1,e2,e3,e4⟩:=h0.h
 refine ⟨o,d,by simpa using e1,e2,h3.h,?_⟩
 cases r with
 |true=>exact .inl ⟨t,h1.h _ _ _ o e4,h2.h.1 rfl o e3,h.out k⟩
 |false=>obtain rfl:=h2.h.2 rfl;exact .inr ⟨h1.h _ _ _ o e4,h.out k⟩⟩
instance aSf{E T0:TypeId}{x y:Operand}{b off z:Nat}{cs ds r:List AC}{ag:Bool}[hi:aGu l0 i none (.store E x y) gd][h0:aBx l0 ts gd true][h1:Ev ts x (.c (.val (.pointer (some ⟨b,off,none⟩))))][h2:Ev ts y t][h3:rF t ds][h4:lY bx b A T0 cs B][h5:TY P E ag z][h6:Spl cs off ds z r]{bx2:List Box}[h7:aNc bx rw T (lM ⟨bx,rw⟩ Z) b][h8:aDk A (⟨b,T0,r⟩::B) bx2][h:Go1 N (vB P l0.toArray Z run ⟨n,T,⟨bx2,rw⟩,ts⟩ K) g]:Go1 (N+1) (vB P l0.toArray Z ((i,false)::run) ⟨n,T,⟨bx,rw⟩,ts⟩ K) g:=⟨fun k=>by
 obtain ⟨o,e1,e2,e3,e4⟩:=hi.h
 exact ⟨o,by simpa using e1,h0.h _ _ _ o e4,zQ A e3 e2 (h1.h _ _ _) (h2.h _ _ _) h3.h h4.h h5.h.2 h6.h.2.2 h6.h.2.1 h6.h.1 h7.h.1 h7.h.2 (by rw [h8.h];exact h.out k)⟩⟩
instance aT1{d:Nat}{E:TypeId}{cs:List AC}{G:Nat -> Prop}[hi:aGu l0 i (some d) (.alloc E) none][h1:eM P E cs][h3:LtN d n][h:∀b,Go1 N (vB P l0.toArray Z run ⟨n,b::T,⟨⟨b,E,cs⟩::bx,rw⟩,(d,pP b)::ts⟩ K) (G b)]:Go1 (N+1) (vB P l0.toArray Z ((i,false)::run) ⟨n,T,⟨bx,rw⟩,ts⟩ K) (∀b,G b):=⟨fun k=>by
 obtain ⟨o,e1,e2,e3,e4⟩:=hi.h
 obtain ⟨z,z1,z2⟩:=h1.h
 exact ⟨o,by simpa using e1,by unfold fC;rw [e4],jK e3 e2 h3.h z1 z2 fun b=>(h b).out (k b)⟩⟩
instance aYq{d:Nat}{E:TypeId}{x:Operand}{cs:List AC}{G:Nat -> Prop}[hi:aGu l0 i (some d) (.box E x) none][h1:Ev ts x t][h2:rF t cs][h3:LtN d n][h:∀b,Go1 N (vB P l0.toArray Z run ⟨n,b::T,⟨⟨b,E,cs⟩::bx,rw⟩,(d,pP b)::ts⟩ K) (G b)]:Go1 (N+1) (vB P l0.toArray Z ((i,false)::run) ⟨n,T,⟨bx,rw⟩,ts⟩ K) (∀b,G b):=⟨fun k=>by
 obtain ⟨o,e1,e2,e3,e4⟩:=hi.h
 exact ⟨o,by simpa using e1,by unfold fC;rw [e4],aSn e3 e2 h3.h (h1.h _ _ _) h2.h fun b=>(h b).out (k b)⟩⟩
end
end
section
open Go.RowKit
instance bCw:TY prog 2 false 1:=⟨isAgg2,sizeOf2⟩
instance bCx:eM prog 2 [.val (.int .i64 0)]:=⟨_,zeroValue2,rfl⟩
instance bCu:TY prog 3 false 1:=⟨isAgg3,sizeOf3⟩
instance bC3:eM prog 3 [.val (.int .i64 0)]:=⟨_,zeroValue3,rfl⟩
instance bCr:TY prog 4 false 1:=⟨isAgg4,sizeOf4⟩
instance bDa:eM prog 4 [.val (.bool false)]:=⟨_,zeroValue4,rfl⟩
instance bC0:TY prog 5 false 1:=⟨isAgg5,sizeOf5⟩
instance bCt:eM prog 5 [.val (.int .u8 0)]:=⟨_,zeroValue5,rfl⟩
instance bDc:TY prog 9 false 1:=⟨isAgg9,sizeOf9⟩
instance aXn:aRy prog 9:=⟨runUnderlying9⟩
instance bC6:eM prog 9 [.val (.string ⟨#[]⟩)]:=⟨_,zeroValue9,rfl⟩
instance bCz:TY prog 12 false 1:=⟨isAgg12,sizeOf12⟩
instance bDb:eM prog 12 [.val (.int .u64 0)]:=⟨_,zeroValue12,rfl⟩
instance bC8:TY prog 19 true 1:=⟨isAgg19,sizeOf19⟩
instance aX2:eG prog 19 0 0 17:=⟨_,runUnderlying19,rfl⟩
instance bCv:eM prog 19 [.val (.pointer none)]:=⟨_,zeroValue19,rfl⟩
instance bCy:Plc prog 19 [(0,1)] [.val (.pointer none)]:=⟨_,Tryd.t19,_,underlying19,by kernel_rfl,rfl,by kernel_rfl,rfl⟩
instance bC4:TY prog 21 false 1:=⟨isAgg21,sizeOf21⟩
instance bC7:eM prog 21 [.val (.int .i32 0)]:=⟨_,zeroValue21,rfl⟩
instance bC5:TY prog 22 false 1:=⟨isAgg22,sizeOf22⟩
instance bBu:TSl prog 22 3:=⟨runUnderlying22⟩
instance bDe:eM prog 22 [.val (.slice none 0 0)]:=⟨_,zeroValue22,rfl⟩
instance bC2:TY prog 23 false 1:=⟨isAgg23,sizeOf23⟩
instance bAd:TSl prog 23 25:=⟨runUnderlying23⟩
instance bDd:eM prog 23 [.val (.slice none 0 0)]:=⟨_,zeroValue23,rfl⟩
instance aZ8:TY prog 25 true 4:=⟨isAgg25,sizeOf25⟩
instance cPz:eG prog 25 0 0 3:=⟨_,runUnderlying25,rfl⟩
instance cPy:eG prog 25 1 1 3:=⟨_,runUnderlying25,rfl⟩
instance cPx:eG prog 25 2 2 9:=⟨_,runUnderlying25,rfl⟩
instance cP1:eG prog 25 3 3 23:=⟨_,runUnderlying25,rfl⟩
instance bB9:eM prog 25 [.val (.int .i64 0),.val (.int .i64 0),.val (.string ⟨#[]⟩),.val (.slice none 0 0)]:=⟨_,zeroValue25,rfl⟩
instance cP4:Plc prog 25 [(0,1),(1,1),(2,1),(3,1)] [.val (.int .i64 0),.val (.int .i64 0),.val (.string ⟨#[]⟩),.val (.slice none 0 0)]:=⟨_,Tryd.t25,_,underlying25,by kernel_rfl,rfl,by kernel_rfl,rfl⟩
instance bB6:TY prog 28 false 1:=⟨isAgg28,sizeOf28⟩
instance bXh:TSl prog 28 51:=⟨runUnderlying28⟩
instance bAb:eM prog 28 [.val (.slice none 0 0)]:=⟨_,zeroValue28,rfl⟩
instance aZz:TY prog 30 false 1:=⟨isAgg30,sizeOf30⟩
instance bAs:eM prog 30 [.val (.int .i64 0)]:=⟨_,zeroValue30,rfl⟩
instance bA3:TY prog 39 false 1:=⟨isAgg39,sizeOf39⟩
instance aZh:TY prog 42 true 2:=⟨isAgg42,sizeOf42⟩
instance cP2:eG prog 42 0 0 22:=⟨_,runUnderlying42,rfl⟩
instance cP0:eG prog 42 1 1 3:=⟨_,runUnderlying42,rfl⟩
instance bAn:eM prog 42 [.val (.slice none 0 0),.val (.int .i64 0)]:=⟨_,zeroValue42,rfl⟩
instance cP5:Plc prog 42 [(0,1),(1,1)] [.val (.slice none 0 0),.val (.int .i64 0)]:=⟨_,Tryd.t42,_,underlying42,by kernel_rfl,rfl,by kernel_rfl,rfl⟩
instance bAx:TY prog 44 false 1:=⟨isAgg44,sizeOf44⟩
instance bXg:TSl prog 44 9:=⟨runUnderlying44⟩
instance bAk:eM prog 44 [.val (.slice none 0 0)]:=⟨_,zeroValue44,rfl⟩
instance aZc:TY prog 46 false 1:=⟨isAgg46,sizeOf46⟩
instance bJs:TSl prog 46 5:=⟨runUnderlying46⟩
instance aZd:eM prog 46 [.val (.slice none 0 0)]:=⟨_,zeroValue46,rfl⟩
instance bBs:TY prog 51 true 4:=⟨isAgg51,sizeOf51⟩
instance cNv:eG prog 51 0 0 3:=⟨_,runUnderlying51,rfl⟩
instance cMz:eG prog 51 1 1 9:=⟨_,runUnderlying51,rfl⟩
instance cNb:eG prog 51 2 2 3:=⟨_,runUnderlying51,rfl⟩
instance cMs:eG prog 51 3 3 3:=⟨_,runUnderlying51,rfl⟩
instance aZ1:eM prog 51 [.val (.int .i64 0),.val (.string ⟨#[]⟩),.val (.int .i64 0),.val (.int .i64 0)]:=⟨_,zeroValue51,rfl⟩
instance cOj:Plc prog 51 [(0,1),(1,1),(2,1),(3,1)] [.val (.int .i64 0),.val (.string ⟨#[]⟩),.val (.int .i64 0),.val (.int .i64 0)]:=⟨_,Tryd.t51,_,underlying51,by kernel_rfl,rfl,by kernel_rfl,rfl⟩
instance bBk:TY prog 52 false 1:=⟨isAgg52,sizeOf52⟩
instance aZe:TY prog 54 true 4:=⟨isAgg54,sizeOf54⟩
instance bWp:eG prog 54 0 0 28:=⟨_,runUnderlying54,rfl⟩
instance bWs:eG prog 54 1 1 3:=⟨_,runUnderlying54,rfl⟩
instance bW0:eG prog 54 2 2 3:=⟨_,runUnderlying54,rfl⟩
instance cP3:eG prog 54 3 3 30:=⟨_,runUnderlying54,rfl⟩
instance bCd:eM prog 54 [.val (.slice none 0 0),.val (.int .i64 0),.val (.int .i64 0),.val (.int .i64 0)]:=⟨_,zeroValue54,rfl⟩
instance bXn:Plc prog 54 [(0,1),(1,1),(2,1),(3,1)] [.val (.slice none 0 0),.val (.int .i64 0),.val (.int .i64 0),.val (.int .i64 0)]:=⟨_,Tryd.t54,_,underlying54,by kernel_rfl,rfl,by kernel_rfl,rfl⟩
instance bAe:TY prog 60 true 18:=⟨isAgg60,sizeOf60⟩
instance bBh:TY prog 73 false 1:=⟨isAgg73,sizeOf73⟩
instance bJy:eM prog 73 [.val (.int .u64 0)]:=⟨_,zeroValue73,rfl⟩
instance bBo:TY prog 80 true 24:=⟨isAgg80,sizeOf80⟩
instance bAt:TY prog 88 true 20:=⟨isAgg88,sizeOf88⟩
instance bBn:TY prog 89 false 1:=⟨isAgg89,sizeOf89⟩
instance bAi:eM prog 89 [.val (.int .u32 0)]:=⟨_,zeroValue89,rfl⟩
instance bBp:TY prog 90 true 65:=⟨isAgg90,sizeOf90⟩
instance bBv:TY prog 92 false 1:=⟨isAgg92,sizeOf92⟩
instance aZs:eM prog 92 [.val (.int .u64 0)]:=⟨_,zeroValue92,rfl⟩
instance bCo:TY prog 96 true 11:=⟨isAgg96,sizeOf96⟩
instance bBr:TY prog 98 true 32:=⟨isAgg98,sizeOf98⟩
instance bAw:TY prog 99 true 64:=⟨isAgg99,sizeOf99⟩
instance bBc:TY prog 112 false 1:=⟨isAgg112,sizeOf112⟩
end
section
open Go.RowKit
theorem kB{a b:Bool}(h:a=true↔b=true):Ending.returned (.bool a)=.returned (.bool b):=by rw [Bool.eq_iff_iff.2 h]
theorem gG{k:IntKind}{a b:Int}(h:a=b):Ending.returned (.int k a)=.returned (.int k b):=by rw [h]
theorem sB(c:UInt8)(w:World):
  Calls prog 61 #[.int .u8 c.toNat] w fun e w'=>e=.returned (.bool (isSp c)) /\ w=w':=by
 unfold isSp
 generalize (c.toNat:Int)=n
 go_enter func61,Tryd.ntmps61
 go_wp2
 all_goals (go_ret;refine ⟨kB ?_,rfl⟩;simp;try omega)
theorem qG(c:UInt8)(w:World):
  Calls prog 64 #[.int .u8 c.toNat] w fun e w'=>e=.returned (.bool (fU c)) /\ w=w':=by
 unfold fU
 generalize (c.toNat:Int)=n
 go_enter func64,Tryd.ntmps64
 go_wp2
 all_goals (go_ret;refine ⟨kB ?_,rfl⟩;simp;try omega)
theorem oV(c:UInt8)(w:World):
  Calls prog 66 #[.int .u8 c.toNat] w fun e w'=>e=.returned (.bool (cD c)) /\ w=w':=by
 unfold cD
 generalize (c.toNat:Int)=n
 go_enter func66,Tryd.ntmps66
 go_wp2
 all_goals (go_ret;refine ⟨kB ?_,rfl⟩;simp;try omega)
theorem tC(c:UInt8)(w:World):
  Calls prog 77 #[.int .u8 c.toNat] w fun e w'=>e=.returned (.bool (cT c)) /\ w=w':=by
 go_enter func77,Tryd.ntmps77
 go_wp2_with (first|(go_at_call 64;refine (qG _ _).mono ?_;rintro e w' ⟨rfl,rfl⟩)|(go_at_call 66;refine (oV _ _).mono ?_;rintro e w' ⟨rfl,rfl⟩))
 all_goals (go_ret;refine ⟨kB ?_,rfl⟩;simp [cT, *])
theorem oK(s p:ByteArray)(w:World):
  Calls prog 62 #[.string s,.string p] w fun e w'=>e=.returned (.bool (Lib.hasPrefix s.data.toList p.data.toList)) /\ w=w':=
 (Tryd.strings_HasPrefix s p w).mono fun _ _ h=>⟨h.1,h.2.symm⟩
theorem oL(s:ByteArray)(c:Int)(w:World):
  Calls prog 63 #[.string s,.int .u8 c] w fun e w'=>e=.returned (.int .i64 (Lib.indexByte s.data.toList c.toNat.toUInt8)) /\ w=w':=
 (Tryd.strings_IndexByte s c w).mono fun _ _ h=>⟨h.1,h.2.symm⟩
theorem uH(s:ByteArray)(k0:Nat)(w:World)(hs:s.size <= 9223372036854775807)(hk:k0 <= s.size):
  Calls prog 55 #[.string s,.int .i64 k0] w fun e w'=>e=.returned (.int .i64 (bF s.data.toList k0)) /\ w=w':=by
 have hlen:s.data.toList.length=s.size:=rfl
 go_enter func55,Tryd.ntmps55
 go_wp2_with fail
 go_loop [1,5] (fun v _=>∃k:Nat,k <= s.size /\ v=.int .i64 k /\ bF s.data.toList k=bF s.data.toList k0) (fun v _=>s.size-(intOf v).toNat)
 case atStart=>exact ⟨k0,hk,rfl,rfl⟩
 case round=>
  obtain ⟨k,hk,rfl,hr⟩:=hrel
  have HR:=Lib.hid hr;clear hr
  have HL:=Lib.hid hlen;clear hlen
  by_cases hlt:k<s.size
  ·by_cases hsp:isSp s[k]=true
   ·go_wp2_with (first|(go_at_call 61;refine (sB _ _).mono ?_;rintro e w' ⟨rfl,rfl⟩))
    go_round
    case rel=>exact ⟨k+1,by omega,by go_num,(aGh _ _ (by rw [HL.out];exact hlt) hsp).trans HR.out⟩
    case measure=>simp [intOf];omega
   have hsp':isSp s[k]=false:=by simpa using hsp
   clear hsp
   by_cases hc:Lib.hasPrefix (s.data.toList.drop k) [47,47]=true
   ·have hcom:=aJa _ _ (by rw [HL.out];exact hlt) hc
    have HC:=Lib.hid hcom;clear hcom
    have htk:List.take (s.size-k) (List.drop k s.data.toList)=List.drop k s.data.toList:=take_of_length_le (by simp)
    by_cases hn:Lib.indexByte (s.data.toList.drop k) 10<0
    ·go_wp2_with (first|(go_at_call 61;refine (sB _ _).mono ?_;rintro e w' ⟨rfl,rfl⟩)|(go_at_call 62;refine (oK _ _ _).mono ?_;rintro e w' ⟨rfl,rfl⟩)|(go_at_call 63;refine (oL _ _ _).mono ?_;rintro e w' ⟨rfl,rfl⟩))
     go_ret
     exact ⟨gG (by rw [←HR.out,HC.out.1 hn,HL.out]),rfl⟩
    obtain ⟨j,hj⟩:∃j:Nat,Lib.indexByte (s.data.toList.drop k) 10=j:=⟨(Lib.indexByte (s.data.toList.drop k) 10).toNat,by omega⟩
    obtain ⟨h1,h2,h3⟩:=HC.out.2 j hj
    rw [HL.out] at h2
    have H1:=Lib.hid h1;clear h1
    clear hn
    go_wp2_with (first|(go_at_call 61;refine (sB _ _).mono ?_;rintro e w' ⟨rfl,rfl⟩)|(go_at_call 62;refine (oK _ _ _).mono ?_;rintro e w' ⟨rfl,rfl⟩)|(go_at_call 63;refine (oL _ _ _).mono ?_;rintro e w' ⟨rfl,rfl⟩))
    go_round
    case rel=>exact ⟨k+j,by omega,by go_num,H1.out.trans HR.out⟩
    case measure=>simp [intOf];omega
   have hc':Lib.hasPrefix (s.data.toList.drop k) [47,47]=false:=by simpa using hc
   have hstop:bF s.data.toList k=k:=by
    refine zX _ _ (by rw [HL.out];exact hlt) hsp' ?_
    rintro ⟨h1,h2⟩
    apply hc
    rw [sZ,dR _ _ (by rw [HL.out];exact hlt),h1]
    cases hd:s.data.toList.drop (k+1) with
    |nil=>simp [hd] at h2
    |cons a r=>rw [hd] at h2;simp at h2;subst h2;exact ⟨r,rfl⟩
   have HS:=Lib.hid hstop;clear hstop
   clear hc
   have htk:List.take (s.size-k) (List.drop k s.data.toList)=List.drop k s.data.toList:=take_of_length_le (by simp)
   go_wp2_with (first|(go_at_call 61;refine (sB _ _).mono ?_;rintro e w' ⟨rfl,rfl⟩)|(go_at_call 62;refine (oK _ _ _).mono ?_;rintro e w' ⟨rfl,rfl⟩))
   go_ret
   exact ⟨gG (by rw [←HR.out,HS.out]),rfl⟩
  go_wp2_with fail
  go_ret
  exact ⟨gG (by rw [←HR.out,aA5 _ _ (by rw [HL.out];omega),HL.out];omega),rfl⟩
theorem lH(p:UInt8 -> Bool)(l:List UInt8)(k:Nat)(hk:k<l.length)(h:(l.takeWhile p).length=k+((l.drop k).takeWhile p).length):
  (p l[k]=true -> (l.takeWhile p).length=(k+1)+((l.drop (k+1)).takeWhile p).length) /\ (p l[k]=false -> (l.takeWhile p).length=k):=by
 rw [dR l k hk] at h
 refine ⟨fun hp=>?_,fun hp=>?_⟩
 ·rw [List.takeWhile_cons_of_pos hp] at h;simp at h;omega
 rw [List.takeWhile_cons_of_neg (by simp [hp])] at h;simpa using h
theorem aI6(s:ByteArray)(w:World)(hs:s.size <= 9223372036854775807):
  Calls prog 76 #[.string s,.func (.func 66) #[] #[]] w fun e w'=>e=.returned (.int .i64 (s.data.toList.takeWhile cD).length) /\ w=w':=by
 have HL:=Lib.hid (show s.data.toList.length=s.size from rfl)
 go_enter func76,Tryd.ntmps76
 go_wp2_with fail
 go_loop [5] (fun v=>∃k:Nat,k <= s.size /\ v=.int .i64 k /\ (s.data.toList.takeWhile cD).length=k+((s.data.toList.drop k).takeWhile cD).length) (fun v=>s.size-(intOf v).toNat)
 case atStart=>exact ⟨0,by omega,rfl,by simp⟩
 case round=>
  obtain ⟨k,hk,rfl,hr⟩:=hrel
  by_cases hlt:k<s.size
  ·have HT:=Lib.hid (lH cD s.data.toList k (by rw [HL.out];exact hlt) hr);clear hr
   by_cases hp:cD s[k]=true
   ·go_wp2_with (first|(go_at_call 66;refine (oV _ _).mono ?_;rintro e w' ⟨rfl,rfl⟩))
    go_round
    case rel=>exact ⟨k+1,by omega,by go_num,HT.out.1 hp⟩
    case measure=>simp [intOf];omega
   have hp':cD s[k]=false:=by simpa using hp
   clear hp
   go_wp2_with (first|(go_at_call 66;refine (oV _ _).mono ?_;rintro e w' ⟨rfl,rfl⟩))
   go_ret
   exact ⟨gG (by rw [HT.out.2 hp']),rfl⟩
  have HR:=Lib.hid hr;clear hr
  go_wp2_with fail
  go_ret
  refine ⟨gG ?_,rfl⟩
  rw [HR.out,List.drop_eq_nil_of_le (by rw [HL.out];omega)];rfl
theorem aM0(s:ByteArray)(w:World)(hs:s.size <= 9223372036854775807):
  Calls prog 76 #[.string s,.func (.func 77) #[] #[]] w fun e w'=>e=.returned (.int .i64 (s.data.toList.takeWhile cT).length) /\ w=w':=by
 have HL:=Lib.hid (show s.data.toList.length=s.size from rfl)
 go_enter func76,Tryd.ntmps76
 go_wp2_with fail
 go_loop [5] (fun v=>∃k:Nat,k <= s.size /\ v=.int .i64 k /\ (s.data.toList.takeWhile cT).length=k+((s.data.toList.drop k).takeWhile cT).length) (fun v=>s.size-(intOf v).toNat)
 case atStart=>exact ⟨0,by omega,rfl,by simp⟩
 case round=>
  obtain ⟨k,hk,rfl,hr⟩:=hrel
  by_cases hlt:k<s.size
  ·have HT:=Lib.hid (lH cT s.data.toList k (by rw [HL.out];exact hlt) hr);clear hr
   by_cases hp:cT s[k]=true
   ·go_wp2_with (first|(go_at_call 77;refine (tC _ _).mono ?_;rintro e w' ⟨rfl,rfl⟩))
    go_round
    case rel=>exact ⟨k+1,by omega,by go_num,HT.out.1 hp⟩
    case measure=>simp [intOf];omega
   have hp':cT s[k]=false:=by simpa using hp
   clear hp
   go_wp2_with (first|(go_at_call 77;refine (tC _ _).mono ?_;rintro e w' ⟨rfl,rfl⟩))
   go_ret
   exact ⟨gG (by rw [HT.out.2 hp']),rfl⟩
  have HR:=Lib.hid hr;clear hr
  go_wp2_with fail
  go_ret
  refine ⟨gG ?_,rfl⟩
  rw [HR.out,List.drop_eq_nil_of_le (by rw [HL.out];omega)];rfl
end
section
open Go.RowKit
structure Env (w:World):Prop where
 words:∀j,j<words.length -> w.cell? ⟨2,0+j,none⟩=some (.string (words.getD j ByteArray.empty))
 maxLen:∃m:Int,w.cell? ⟨5,0,none⟩=some (.int .i64 m)
 size:Nat.max 2 5+1 <= w.heap.size
theorem Env.below{B:Nat}{w w':World}(h:Env w)(hb:Below B w w')(hB:Nat.max 2 5+1 <= B):Env w':=by
 refine ⟨fun j hj=>?_,?_,Nat.le_trans h.size hb.size⟩
 ·rw [hb.cell (p:=⟨2,0+j,none⟩) (Nat.lt_of_lt_of_le (by decide:2<Nat.max 2 5+1) hB)];exact h.words j hj
 rw [hb.cell (p:=⟨5,0,none⟩) (Nat.lt_of_lt_of_le (by decide:5<Nat.max 2 5+1) hB)];exact h.maxLen
theorem Env.alloc{w:World}(h:Env w)(o:Obj):Env (w.alloc o):=h.below ((Below.refl w.heap.size w).alloc (Nat.le_refl _) o) h.size
theorem Env.drew{w:World}(h:Env w):Env w.drew:=h.below ((Below.refl w.heap.size w).drew) h.size
theorem Env.setCell{w:World}(h:Env w){a:Addr}(ha:Nat.max 2 5+1 <= a.block)(u:Value):Env (w.setCell a u):=h.below ((Below.refl (Nat.max 2 5+1) w).setCell ha u) (Nat.le_refl _)
theorem yL(s:ByteArray)(w:World)(he:Env w):
  Calls prog 83 #[.slice (some ⟨2,0,none⟩) 11 11,.string s] w fun e w'=>e=.returned (.bool (dA s)) /\ w=w':=by
 refine (Tryd.slices_Contains_string 2 0 11 11 words s w (by decide) (by decide) he.words).mono fun e w' h=>⟨?_,h.2.symm⟩
 rw [h.1]
 refine kB ?_
 rw [Lib.containsS_iff,mK];rfl
theorem aC5(s:ByteArray)(w:World)(he:Env w):
  Calls prog 78 #[.string s] w fun e w'=>e=.returned (.bool (dA s)) /\ w=w':=by
 go_enter func78,Tryd.ntmps78
 go_wp2_with (first|(go_at_call 83;refine (yL _ _ he).mono ?_;rintro e w' ⟨rfl,rfl⟩))
 go_ret
 exact ⟨rfl,rfl⟩
theorem nZ(s:ByteArray)(p:UInt8 -> Bool):s.extract 0 (s.data.toList.takeWhile p).length=bytes (s.data.toList.takeWhile p):=by
 have:=ByteArray.extract_mk s.data.toList 0 (s.data.toList.takeWhile p).length
 rw [show (ByteArray.mk s.data.toList.toArray)=s from by simp] at this
 rw [this,bytes,List.drop_zero,Nat.sub_zero]
 congr 2
 conv=>rhs;rw [List.takeWhile_eq_take_findIdx_not]
 rw [List.takeWhile_eq_take_findIdx_not,List.length_take,List.take_eq_take_iff];omega
theorem aMr(s:ByteArray)(w:World)(hs:s.size <= 9223372036854775807)(he:Env w):
  Calls prog 65 #[.string s] w fun e w'=>e=.returned (.tuple #[.agg #[.int .i64 ((if dA (bytes (s.data.toList.takeWhile cT)) then 3 else 1:Nat):Int),.string (bytes (s.data.toList.takeWhile cT)),.int .i64 0,.int .i64 0],.int .i64 ((if 16<(s.data.toList.takeWhile cT).length then 3 else 0:Nat):Int)]) /\ Below w.heap.size w w':=by
 have hle:(s.data.toList.takeWhile cT).length <= s.size:=(List.takeWhile_sublist _).length_le
 have hx:=nZ s cT
 have hsz:(bytes (s.data.toList.takeWhile cT)).size=(s.data.toList.takeWhile cT).length:=by simp [bytes,ByteArray.size]
 go_enter func65,Tryd.ntmps65
 go_wp2_with (first|(go_at_call 76;refine (aM0 _ _ hs).mono ?_;rintro e w' ⟨rfl,rfl⟩)|(go_at_call 78;refine (aC5 _ _ ((he.alloc _).alloc _)).mono ?_;rintro e w' ⟨rfl,rfl⟩))
 all_goals (go_returns;refine ⟨?_,by go_grown⟩)
 all_goals first|rfl|(rw [if_pos (by omega)];rfl)|(rw [if_neg (by omega)];rfl)
theorem aJc(t:ByteArray)(k n:Nat)(hk:k<t.size)(h:iT 0 t.data.toList=iT n (t.data.toList.drop k)):
  ((9223372036854775807-(t[k].toNat-48))/10<n -> iT 0 t.data.toList=none) /\ (¬(9223372036854775807-(t[k].toNat-48))/10<n -> iT 0 t.data.toList=iT (10*n+(t[k].toNat-48)) (t.data.toList.drop (k+1))):=by
 rw [dR _ k (by exact hk),iT] at h
 refine ⟨fun hn=>?_,fun hn=>?_⟩
 ·rw [h];exact if_pos hn
 rw [h];exact if_neg hn
def aXp(t:ByteArray)(e:Ending):Prop:=∃n:Nat,(n:Int) <= 9223372036854775807 /\ ((iT 0 t.data.toList=none /\ e=.returned (.tuple #[.agg #[.int .i64 2,.string t,.int .i64 n,.int .i64 0],.int .i64 2]))∨(iT 0 t.data.toList=some n /\ e=.returned (.tuple #[.agg #[.int .i64 2,.string t,.int .i64 n,.int .i64 0],.int .i64 0])))
theorem aHi(s:ByteArray)(w:World)(hs:s.size <= 9223372036854775807):
  Calls prog 67 #[.string s] w fun e w'=>aXp (bytes (s.data.toList.takeWhile cD)) e /\ Below w.heap.size w w':=by
 have hle:(s.data.toList.takeWhile cD).length <= s.size:=(List.takeWhile_sublist _).length_le
 have hx:=nZ s cD
 have hsz:(bytes (s.data.toList.takeWhile cD)).size=(s.data.toList.takeWhile cD).length:=by simp [bytes,ByteArray.size]
 have hall:∀c∈(bytes (s.data.toList.takeWhile cD)).data.toList,cD c=true:=by
  intro c hc;simp only [bytes] at hc;exact (List.all_eq_true.1 (List.all_takeWhile (p:=cD) (l:=s.data.toList))) c hc
 generalize hm:(s.data.toList.takeWhile cD).length=m at *
 generalize ht:bytes (s.data.toList.takeWhile cD)=t at *
 have HM:=Lib.hid hm
 have HT:=Lib.hid ht
 have HA:=Lib.hid hall
 have HX:=Lib.hid hx
 clear hm ht hall
 subst hsz
 go_enter func67,Tryd.ntmps67
 go_wp2_with (first|(go_at_call 76;refine (aI6 _ _ hs).mono ?_;rintro e w' ⟨rfl,rfl⟩;rw [HM.out]))
 go_loopw [15] (fun v wr=>∃k n:Nat,k <= t.size /\ v=.int .i64 k /\ n <= 9223372036854775807 /\ iT 0 t.data.toList=iT n (t.data.toList.drop k) /\ wr=(w.alloc (Obj.cells #[Value.int IntKind.i64 0,Value.string {data:=#[]},Value.int IntKind.i64 0,Value.int IntKind.i64 0] 51)).alloc (Obj.cells #[Value.int IntKind.i64 2,Value.string t,Value.int IntKind.i64 n,Value.int IntKind.i64 0] 51)) (fun v _=>t.size-(intOf v).toNat)
 case atStart=>exact ⟨0,0,by omega,rfl,by omega,rfl,rfl⟩
 case round=>
  obtain ⟨k,n,hk,rfl,hn,hv,rfl⟩:=hrel
  by_cases hlt:k<t.size
  ·have hst:=aJc t k n hlt hv
   have hd:cD t[k]=true:=HA.out _ (by simp [ByteArray.getElem_eq_getElem_data])
   have HS:=Lib.hid hst
   clear hst hv
   simp only [cD,decide_eq_true_eq] at hd
   obtain ⟨hd1,hd2⟩:=hd
   by_cases hov:(9223372036854775807-(t[k].toNat-48))/10<n
   ·have hov':(9223372036854775807-((t[k].toNat:Int)-48))/10<(n:Int):=by omega
    have HO:=Lib.hid hov
    clear hov
    go_wp2_with fail
    go_returns
    exact ⟨⟨n,by omega,.inl ⟨HS.out.1 HO.out,rfl⟩⟩,by go_grown⟩
   have hov':(n:Int) <= (9223372036854775807-((t[k].toNat:Int)-48))/10:=by omega
   have HO:=Lib.hid hov
   clear hov
   go_wp2_with fail
   go_roundw
   case rel=>exact ⟨k+1,10*n+(t[k].toNat-48),by omega,by go_num,by omega,HS.out.2 HO.out,by congr 5;go_num⟩
   case measure=>simp [intOf];omega
  have HV:=Lib.hid hv
  clear hv
  go_wp2_with fail
  go_returns
  refine ⟨⟨n,by omega,.inr ⟨?_,rfl⟩⟩,by go_grown⟩
  rw [HV.out,List.drop_eq_nil_of_le (by show t.size <= k;omega),iT]
theorem nT(sub:ByteArray)(w:World)(he:Env w):
  Calls prog 79 #[.string ⟨#[60,61,32,62,61,32,61,61,32,33,61,32,38,38,32,124,124]⟩,.string sub] w fun e w'=>e=.returned (.bool (Lib.contains wG sub.data.toList)) /\ w=w':=by
 obtain ⟨m,hm⟩:=he.maxLen
 exact (Tryd.strings_Contains _ sub m w (by decide) hm).mono fun e w' h=>⟨h.1,h.2.symm⟩
theorem oD(c:UInt8)(w:World):
  Calls prog 63 #[.string ⟨#[40,41,123,125,91,93,44,59,61,43,45,42,47,37,60,62,33]⟩,.int .u8 c.toNat] w fun e w'=>e=.returned (.int .i64 (Lib.indexByte dW c)) /\ w=w':=by
 refine (oL _ _ _).mono fun e w' h=>⟨?_,h.2⟩
 rw [h.1];congr 3;simp
def aE9(s:ByteArray)(n:Nat):Value:=.tuple #[.agg #[.int .i64 (if n=0 then 0 else 4),.string (bytes (s.data.toList.take n)),.int .i64 0,.int .i64 0],.int .i64 (if n=0 then 1 else 0)]
theorem pY(s:ByteArray)(n:Nat):s.extract 0 n=bytes (s.data.toList.take n):=by
 have:=ByteArray.extract_mk s.data.toList 0 n
 rw [show (ByteArray.mk s.data.toList.toArray)=s from by simp] at this
 rw [this,bytes,List.drop_zero,Nat.sub_zero]
theorem jR(l:List UInt8):(bytes l).data.toList=l:=by simp [bytes]
theorem aLh(s:ByteArray)(w:World)(he:Env w)(h2:1<s.size)(h0:((s[0].toNat:Int) == 32)=false)(h1:((s[1].toNat:Int) == 32)=false)(hc:Lib.contains wG (s.data.toList.take 2)=true):
  Calls prog 68 #[.string s] w fun e w'=>e=.returned (aE9 s 2) /\ Below w.heap.size w w':=by
 have h0':((s[0].toNat:Int) != 32)=true:=by simp at h0⊢;exact h0
 have h1':((s[1].toNat:Int) != 32)=true:=by simp at h1⊢;exact h1
 have h2':(1:Int)<s.size:=by omega
 have hx:=pY s 2
 have hbd:=jR (s.data.toList.take 2)
 go_enter func68,Tryd.ntmps68
 go_wp2_with (first|(go_at_call 79;refine (nT _ _ (he.alloc _)).mono ?_;rintro e w' ⟨rfl,rfl⟩))
 go_returns
 exact ⟨rfl,by go_grown⟩
inductive aH1 (s:ByteArray):Prop
 |short (h:(s.size:Int) <= 1)
 |first (h2:(1:Int)<s.size) (h0:0<s.size) (h:((s[0].toNat:Int) != 32)=false)
 |second (h2:(1:Int)<s.size) (h3:1<s.size) (h0:((s[0].toNat:Int) != 32)=true) (h:((s[1].toNat:Int) != 32)=false)
 |other (h2:(1:Int)<s.size) (h3:1<s.size) (h0:((s[0].toNat:Int) != 32)=true) (h1:((s[1].toNat:Int) != 32)=true) (hc:Lib.contains wG (s.data.toList.take 2)=false)
theorem aK7(s:ByteArray)(w:World)(he:Env w)(h2:0<s.size)(hn:aH1 s)(hb:0 <= Lib.indexByte dW s[0]):
  Calls prog 68 #[.string s] w fun e w'=>e=.returned (aE9 s 1) /\ Below w.heap.size w w':=by
 have hx:=pY s 1
 cases hn
 all_goals
  go_enter func68,Tryd.ntmps68
  go_wp2_with (first|(go_at_call 79;refine (nT _ _ (he.alloc _)).mono ?_;rintro e w' ⟨rfl,rfl⟩)|(go_at_call 63;refine (oD _ _).mono ?_;rintro e w' ⟨rfl,rfl⟩))
  go_returns
  exact ⟨rfl,by go_grown⟩
theorem aKr(s:ByteArray)(w:World)(he:Env w)(h2:0<s.size)(hn:aH1 s)(hb:Lib.indexByte dW s[0]<0):
  Calls prog 68 #[.string s] w fun e w'=>e=.returned (aE9 s 0) /\ Below w.heap.size w w':=by
 have hx:=pY s 1
 cases hn
 all_goals
  go_enter func68,Tryd.ntmps68
  go_wp2_with (first|(go_at_call 79;refine (nT _ _ (he.alloc _)).mono ?_;rintro e w' ⟨rfl,rfl⟩)|(go_at_call 63;refine (oD _ _).mono ?_;rintro e w' ⟨rfl,rfl⟩))
  go_returns
  exact ⟨rfl,by go_grown⟩
theorem aHm(c:UInt8):(c≠32 -> ((c.toNat:Int) != 32)=true) /\ (c=32 -> ((c.toNat:Int) != 32)=false):=by
 refine ⟨fun h=>?_,fun h=>by subst h;rfl⟩
 simp only [bne_iff_ne,ne_eq]
 intro h3;apply h;apply UInt8.toNat_inj.1;show c.toNat=32;omega
theorem aLp(s:ByteArray)(w:World)(he:Env w)(h0:0<s.size):
  Calls prog 68 #[.string s] w fun e w'=>e=.returned (aE9 s (jE s.data.toList)) /\ Below w.heap.size w w':=by
 have hl:s.data.toList.length=s.size:=rfl
 have hcons:=dR s.data.toList 0 (by omega)
 rw [List.drop_zero] at hcons
 have key:aH1 s /\ ¬(2 <= s.data.toList.length /\ s.data.toList.take 2∈fE) -> Calls prog 68 #[.string s] w fun e w'=>e=.returned (aE9 s (jE s.data.toList)) /\ Below w.heap.size w w':=by
  rintro ⟨hn,hm⟩
  by_cases hb:Lib.indexByte dW s[0]<0
  ·have:=(vL _).1 hb
   rw [show jE s.data.toList=0 from by rw [hcons] at hm⊢;exact tL hm this]
   exact aKr s w he h0 hn hb
  have:s[0]∈dW:=Classical.byContradiction fun h=>hb ((vL _).2 h)
  rw [show jE s.data.toList=1 from by rw [hcons] at hm⊢;exact oR hm this]
  exact aK7 s w he h0 hn (by omega)
 by_cases h2:1<s.size
 ·have e2:s.data.toList.take 2=[s[0],s[1]]:=by
   rw [hcons,dR s.data.toList 1 (by omega)];rfl
  by_cases ha:s[0]=32
  ·refine key ⟨.first (by omega) h0 ((aHm _).2 ha),fun h=>?_⟩
   rw [e2] at h;exact (rK _ _ h.2).1 ha
  by_cases hb:s[1]=32
  ·refine key ⟨.second (by omega) h2 ((aHm _).1 ha) ((aHm _).2 hb),fun h=>?_⟩
   rw [e2] at h;exact (rK _ _ h.2).2 hb
  by_cases hc:Lib.contains wG (s.data.toList.take 2)=true
  ·have hm:s.data.toList.take 2∈fE:=by rw [e2] at hc⊢;exact (aBy _ _ ha hb).1 hc
   rw [pA (by omega) hm]
   have h3:=(aHm _).1 ha
   have h4:=(aHm _).1 hb
   exact aLh s w he h2 (by simp at h3⊢;exact h3) (by simp at h4⊢;exact h4) hc
  refine key ⟨.other (by omega) h2 ((aHm _).1 ha) ((aHm _).1 hb) (by simpa using hc),fun h=>hc ?_⟩
  have hm:=h.2
  rw [e2] at hm⊢;exact (aBy _ _ ha hb).2 hm
 ·exact key ⟨.short (by omega),by rintro ⟨h,_⟩;omega⟩
end
section
open Go.RowKit
theorem tF{W w1:World}(hb:Below W.heap.size W w1):(∀b o,b<W.heap.size -> w1.cell? ⟨b,o,none⟩=W.cell? ⟨b,o,none⟩) /\ (∀b o,b<W.heap.size -> w1.frozen? ⟨b,o,none⟩=W.frozen? ⟨b,o,none⟩):=
 ⟨fun b o h=>hb.cell (p:=⟨b,o,none⟩) h,fun b o h=>hb.frozen (p:=⟨b,o,none⟩) h⟩
def aLn(l:List UInt8)(k num er:Int)(text:ByteArray):Prop:=
 (∃n:Nat,dQ l=.err n /\ er=n /\ n≠0)∨(∃kd len nu:Nat,dQ l=.tok kd len nu /\ er=0 /\ k=kd /\ num=nu /\ text=bytes (l.take len))
def aI3(l:List UInt8)(e:Ending):Prop:=∃(k num er:Int) (text:ByteArray),e=.returned (.tuple #[.agg #[.int .i64 k,.string text,.int .i64 num,.int .i64 0],.int .i64 er]) /\ aLn l k num er text
theorem takeWhile_take{α:Type}(p:α -> Bool)(l:List α):l.take (l.takeWhile p).length=l.takeWhile p:=
 (List.prefix_iff_eq_take.1 (List.takeWhile_prefix p)).symm
theorem kS(s:ByteArray)(h0:0<s.size):s.data.toList=s[0]::s.data.toList.drop 1:=by
 have:=dR s.data.toList 0 (by exact h0)
 rw [List.drop_zero] at this;exact this
theorem aKk(s:ByteArray)(w:World)(hs:s.size <= 9223372036854775807)(he:Env w)(h0:0<s.size)(hl:fU s[0]=true):
  Calls prog 65 #[.string s] w fun e w'=>aI3 s.data.toList e /\ Below w.heap.size w w':=by
 refine (aMr s w hs he).mono fun e w' ⟨h,hb⟩=>⟨⟨_,_,_,_,h,?_⟩,hb⟩
 have hn:=kK (c:=s[0]) (r:=s.data.toList.drop 1) hl
 rw [←kS s h0] at hn
 by_cases h16:16<(s.data.toList.takeWhile cT).length
 ·rw [if_pos h16] at hn;exact .inl ⟨3,hn,by rw [if_pos h16],by omega⟩
 rw [if_neg h16] at hn;exact .inr ⟨_,_,_,hn,by rw [if_neg h16];rfl,rfl,rfl,by rw [takeWhile_take]⟩
theorem aEz(s:ByteArray)(w:World)(hs:s.size <= 9223372036854775807)(h0:0<s.size)(hl:fU s[0]=false)(hd:cD s[0]=true):
  Calls prog 67 #[.string s] w fun e w'=>aI3 s.data.toList e /\ Below w.heap.size w w':=by
 refine (aHi s w hs).mono fun e w' ⟨h,hb⟩=>⟨?_,hb⟩
 obtain ⟨n,_,⟨hn,h⟩|⟨hn,h⟩⟩:=h
 ·refine ⟨_,_,_,_,h,.inl ⟨2,?_,rfl,by omega⟩⟩
  rw [jR] at hn
  rw [kS s h0] at hn;have hq:=nK hl hd hn;rw [←kS s h0] at hq;exact hq
 refine ⟨_,_,_,_,h,.inr ⟨2,(s.data.toList.takeWhile cD).length,n,?_,rfl,rfl,rfl,by rw [takeWhile_take]⟩⟩
 rw [jR] at hn
 rw [kS s h0] at hn;have hq:=lP hl hd hn;rw [←kS s h0] at hq;exact hq
theorem aJ5(s:ByteArray)(w:World)(he:Env w)(h0:0<s.size)(hl:fU s[0]=false)(hd:cD s[0]=false):
  Calls prog 68 #[.string s] w fun e w'=>aI3 s.data.toList e /\ Below w.heap.size w w':=by
 refine (aLp s w he h0).mono fun e w' ⟨h,hb⟩=>⟨?_,hb⟩
 have hn:=iN (c:=s[0]) (r:=s.data.toList.drop 1) hl hd
 rw [←kS s h0] at hn
 by_cases hz:jE s.data.toList=0
 ·rw [if_pos hz] at hn
  rw [hz] at h;exact ⟨_,_,_,_,h,.inl ⟨1,hn,rfl,by omega⟩⟩
 rw [if_neg hz] at hn
 refine ⟨_,_,_,_,h,.inr ⟨_,_,_,hn,by rw [if_neg hz],by rw [if_neg hz];rfl,rfl,rfl⟩⟩
theorem aAf(s:ByteArray)(w:World)(hs:s.size <= 9223372036854775807)(he:Env w)(h0:0<s.size):
  Calls prog 56 #[.string s] w fun e w'=>aI3 s.data.toList e /\ Below w.heap.size w w':=by
 by_cases hl:fU s[0]=true
 ·go_enter func56,Tryd.ntmps56
  go_wp2_with (first|(go_at_call 64;refine (qG _ _).mono ?_;rintro e w' ⟨rfl,rfl⟩)|(go_at_call 65;refine (aKk _ _ hs (he.alloc _) h0 hl).mono ?_;rintro e w' ⟨⟨k,num,er,text,rfl,hR⟩,hb⟩;have HR:=Lib.hid hR;clear hR;obtain ⟨hc,hf⟩:=tF hb))
  refine bodyPost_ret (v:=.tuple #[.agg #[.int .i64 k,.string text,.int .i64 num,.int .i64 0],.int .i64 er]) (by simp [results,Tryd.results56,go_sem,hc]) rfl ?_
  exact ⟨⟨_,_,_,_,rfl,HR.out⟩,((((Below.refl _ _).alloc (Nat.le_refl _) _).trans (hb.mono (by simp))).setCell (by simp) _).setCell (by simp) _|>.setCell (by simp) _|>.setCell (by simp) _⟩
 have hl':fU s[0]=false:=by simpa using hl
 clear hl
 by_cases hd:cD s[0]=true
 ·go_enter func56,Tryd.ntmps56
  go_wp2_with (first|(go_at_call 64;refine (qG _ _).mono ?_;rintro e w' ⟨rfl,rfl⟩)|(go_at_call 66;refine (oV _ _).mono ?_;rintro e w' ⟨rfl,rfl⟩)|(go_at_call 67;refine (aEz _ _ hs h0 hl' hd).mono ?_;rintro e w' ⟨⟨k,num,er,text,rfl,hR⟩,hb⟩;have HR:=Lib.hid hR;clear hR;obtain ⟨hc,hf⟩:=tF hb))
  refine bodyPost_ret (v:=.tuple #[.agg #[.int .i64 k,.string text,.int .i64 num,.int .i64 0],.int .i64 er]) (by simp [results,Tryd.results56,go_sem,hc]) rfl ?_
  exact ⟨⟨_,_,_,_,rfl,HR.out⟩,((((Below.refl _ _).alloc (Nat.le_refl _) _).trans (hb.mono (by simp))).setCell (by simp) _).setCell (by simp) _|>.setCell (by simp) _|>.setCell (by simp) _⟩
 have hd':cD s[0]=false:=by simpa using hd
 clear hd
 go_enter func56,Tryd.ntmps56
 go_wp2_with (first|(go_at_call 64;refine (qG _ _).mono ?_;rintro e w' ⟨rfl,rfl⟩)|(go_at_call 66;refine (oV _ _).mono ?_;rintro e w' ⟨rfl,rfl⟩)|(go_at_call 68;refine (aJ5 _ _ (he.alloc _) h0 hl' hd').mono ?_;rintro e w' ⟨⟨k,num,er,text,rfl,hR⟩,hb⟩;have HR:=Lib.hid hR;clear hR;obtain ⟨hc,hf⟩:=tF hb))
 refine bodyPost_ret (v:=.tuple #[.agg #[.int .i64 k,.string text,.int .i64 num,.int .i64 0],.int .i64 er]) (by simp [results,Tryd.results56,go_sem,hc]) rfl ?_
 exact ⟨⟨_,_,_,_,rfl,HR.out⟩,((((Below.refl _ _).alloc (Nat.le_refl _) _).trans (hb.mono (by simp))).setCell (by simp) _).setCell (by simp) _|>.setCell (by simp) _|>.setCell (by simp) _⟩
structure TB (P:Program) (E e:TypeId) (i:TypeInfo) (z bytes:Nat) (zv:Value):Prop where
  hu:P.underlying E=some (.slice e)
  hi:P.info? e=some i
  hz:i.zero=some zv
  hsz:i.size=z
  hby:i.bytes=bytes
  hzs:zv.cells.size=z
  h0:0<z
structure ZB (P:Program) (E e:TypeId) (i:TypeInfo) (len:Nat) (z:Value) (zc:List AC):Prop where
  hu:P.underlying E=some (.slice e)
  hi:P.info? e=some i
  hz:i.zero=some z
  hsmall:¬len*i.size>2 ^ 24
  hpos:¬len*i.size=0
  hzc:(((Array.range (len*i.size)).map (z.cells[·% z.cells.size]!)).toList.all (·.oneCell'))=true
  hzr:((Array.range (len*i.size)).map (z.cells[·% z.cells.size]!)).toList.map .val=zc
section
variable {P:Program}{U:List Nat}{o:Oper}{n d:Nat}{T:List Nat}{s:Sto}{ts:List (Nat×AT)}{bx:List Box}{K:AS -> Prop}
theorem bDm{E e:TypeId}{i:TypeInfo}{x y:Operand}{k m z bytes:Nat}{v zv:Value}{cs ds r:List AC}(A:List bA)(t:TB P E e i z bytes zv){B:List bA}(h0:(o.op,o.dst,Nat.blt d n,evA ⟨n,T,⟨bx,A++⟨v,e,z,k,cs⟩::B⟩,ts⟩ x,evA ⟨n,T,⟨bx,A++⟨v,e,z,k,cs⟩::B⟩,ts⟩ y)=(.call {callee:=.builtin .append,args:=#[x,y],argTypes:=#[E,E]},some d,true,some (.c (.val v)),some (.c (.sl m ds))))
    (hm:ds.length=m*z) (hm0:0<m) (hlen:k+m <= maxLen) (hbytes:(k+m)*bytes <= 140737488355328) {N:Nat} (hN:k+m=N) (hU:(⟨bx,A++⟨v,e,z,k,cs⟩::B⟩:Sto).bl.Nodup -> ∀b,b∈aY v -> b∈U) (hT:∀b,b∈aY v -> b∈T) (hr:cs++ds=r)
    (h:∀v',K ⟨n,aY v'++T,⟨bx,A++⟨v',e,z,N,r⟩::B⟩,(d,.c (.val v'))::ts⟩):AO P U o ⟨n,T,⟨bx,A++⟨v,e,z,k,cs⟩::B⟩,ts⟩ K:=by
  simp only [Prod.mk.injEq] at h0
  exact eV A i bytes h0.1 h0.2.1 (Nat.le_of_ble_eq_true h0.2.2.1) h0.2.2.2.1 h0.2.2.2.2 t.hu t.hi t.hz t.hsz t.hby t.hzs t.h0 hm hm0 hlen hbytes hN hU hT hr h
theorem bDk{E e:TypeId}{i:TypeInfo}{z:Value}{len:Nat}{parts:Array (Nat×Operand)}{ps:List (Nat×AT)}{zc r:List AC}(t:ZB P E e i len z zc)(h0:(o.op,o.dst,Nat.blt d n)=(.buildSlice E len parts,some d,true))(hps:EvP ⟨n,T,s,ts⟩ parts.toList ps)
    (hf:qO (fun k=>some (k*i.size,i.size)) zc ps=some r) (h:K ⟨n,T,s,(d,.c (.sl len r))::ts⟩):AO P U o ⟨n,T,s,ts⟩ K:=by
  simp only [Prod.mk.injEq] at h0
  exact wbs i zc h0.1 h0.2.1 (Nat.le_of_ble_eq_true h0.2.2) hps t.hu t.hi t.hz t.hsmall t.hpos t.hzc t.hzr hf h
end
def bN3:=(⟨underlying23,(by kernel_rfl),rfl,rfl,rfl,rfl,(by decide)⟩:TB prog 23 25 Tryd.t25 4 56 _)
def cO4:=(⟨underlying46,(by kernel_rfl),rfl,rfl,rfl,rfl,(by decide)⟩:TB prog 46 5 Tryd.t5 1 1 _)
def zb0:=(⟨underlying23,(by kernel_rfl),rfl,(by decide),(by decide),(by kernel_rfl),(by kernel_rfl)⟩:ZB prog 23 25 Tryd.t25 2 _ [.val (.int .i64 0),.val (.int .i64 0),.val (.string ⟨#[]⟩),.val (.slice none 0 0),.val (.int .i64 0),.val (.int .i64 0),.val (.string ⟨#[]⟩),.val (.slice none 0 0)])
def zb1:=(⟨underlying23,(by kernel_rfl),rfl,(by decide),(by decide),(by kernel_rfl),(by kernel_rfl)⟩:ZB prog 23 25 Tryd.t25 1 _ [.val (.int .i64 0),.val (.int .i64 0),.val (.string ⟨#[]⟩),.val (.slice none 0 0)])
def zb2:=(⟨underlying46,(by kernel_rfl),rfl,(by decide),(by decide),(by kernel_rfl),(by kernel_rfl)⟩:ZB prog 46 5 Tryd.t5 1 _ [.val (.int .u8 0)])
section
variable {P:Program}{ops:Array Oper}{U Z:List Nat}{o:Oper}{n d:Nat}{T:List Nat}{s:Sto}{ts:List (Nat×AT)}{l:List Oper}{t:AT}{st:AS}
theorem tz{Q:AS->Prop}{F0:Nat}{listed:Array Bool}(run:List (Nat×Bool))(F:Nat)(h:vB P ops Z run st (fun st'=>lD P ops Z F (aDe listed run) st' Q))(hc:(aBb ops listed run && Region.noSelect ops && F0 == F+run.length)=true:=by kernel_rfl):lD P ops Z F0 listed st Q:=tks run F hc h
theorem tx(i:Nat){fuel:Nat}{listed:Array Bool}{Q:AS->Prop}(h0:(ops.toList[i]?,fC ops o ⟨n,T,s,ts⟩,o.dst,Nat.blt d n)=(some o,some true,some d,true))(hy:AY P (lM s Z) o ⟨n,T,s,ts⟩ t)(h:lD P ops Z fuel (listed.setIfInBounds i true) ⟨n,T,s,(d,t)::ts⟩ Q)
  (hr:((Region.ready .any ops listed).contains i && Region.free .any ops listed i && Region.noSelect ops)=true:=by kernel_rfl):lD P ops Z (fuel+1) listed ⟨n,T,s,ts⟩ Q:=tr i hr h0 hy h
theorem ox(i:Nat){fuel:Nat}{listed:Array Bool}{K:AS->Prop}(hi:ops.toList[i]?=some o)(hw:fC ops o ⟨n,T,s,ts⟩=some true)(h:AO P (lM s Z) o ⟨n,T,s,ts⟩ fun s=>lD P ops Z fuel (listed.setIfInBounds i true) s K)(hr:Region.ready .any ops listed=[i]:=by kernel_rfl):lD P ops Z (fuel+1) listed ⟨n,T,s,ts⟩ K:=one i hr hi hw h
theorem ax{fuel:Nat}{listed:Array Bool}{Q:AS->Prop}(h:Q st)(hr:Region.ready .any ops listed=[]:=by kernel_rfl):lD P ops Z fuel listed st Q:=aE hr h
theorem dx{id:Nat}{Q:Exit->AS->Prop}(Z:List Nat)(h:lD P ops Z ops.size (Array.replicate ops.size false) st (Q .normal))(hm:P.follows .mixedOrders=true:=by kernel_rfl):AWp P (.region id ops true) st Q:=aB Z hm h
theorem t2(i j:Nat){o2:Oper}{fuel:Nat}{listed:Array Bool}{K:AS->Prop}(hi:(ops.toList[i]?,fC ops o ⟨n,T,s,ts⟩,ops.toList[j]?,fC ops o2 ⟨n,T,s,ts⟩)=(some o,some true,some o2,some true))
  (h:AO P (lM s Z) o ⟨n,T,s,ts⟩ fun s=>lD P ops Z fuel (listed.setIfInBounds i true) s K) (h2:AO P (lM s Z) o2 ⟨n,T,s,ts⟩ fun s=>lD P ops Z fuel (listed.setIfInBounds j true) s K) (hr:Region.ready .any ops listed=[i,j]:=by kernel_rfl):lD P ops Z (fuel+1) listed ⟨n,T,s,ts⟩ K:=by
 simp only [Prod.mk.injEq] at hi
 exact two i j hr hi.1 hi.2.1 hi.2.2.1 hi.2.2.2 h h2
end
end
end Go.Proofs.YtbdfdjdgfanjaaaDoor
