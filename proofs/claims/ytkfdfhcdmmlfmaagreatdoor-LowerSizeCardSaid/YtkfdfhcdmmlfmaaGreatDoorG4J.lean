import Derived.Test.YtkfdfhcdmmlfmaaGreatDoorG3J
import Derived.Test.YtkfdfhcdmmlfmaaGreatDoorRows
import Derived.Test.YtkfdfhcdmmlfmaaGreatDoorShelfJ
set_option linter.all false
set_option synthInstance.maxHeartbeats 1000000
set_option synthInstance.maxSize 1000000
set_option maxHeartbeats 1600000
set_option maxRecDepth 100000
namespace Go.Proofs.YtkfdfhcdmmlfmaaGreatDoor
open Go.Proofs.Tryz
open List (length_append length_cons length_nil mem_append mem_cons not_mem_nil append_assoc getElem_mem take_of_length_le)
section
structure cFc where
 name:ByteArray
 kind:Int
 n:Nat
def cE9(x:cFc):List AC:=[Vs x.name,Vi x.kind,nC x.n]
structure cG5 where
 param:Bool
 index:Nat
 at_:List aH
def cF7(x:cG5):List AC:=[Vb x.param,nC x.index,Sq fO x.at_]
theorem cJ7(x:cG5):(cF7 x).length=3:=rfl
structure cFw where
 op:Int
 target:Nat
 global:Bool
 expr:aH
 place:cG5
 ints:List aH
 places:List cG5
def encI(x:cFw):List AC:=[Vi x.op,nC x.target,Vb x.global,Vi x.expr.op,Vi x.expr.num,Vs x.expr.name,Sq fO x.expr.args,Vb x.place.param,nC x.place.index,Sq fO x.place.at_,Sq fO x.ints,Sq cF7 x.places]
theorem cGj(x:cFw):(encI x).length=12:=rfl
def cN6:cFc:=⟨aK,0,0⟩
def plZ:cG5:=⟨false,0,[]⟩
def cFa:List cFc -> ByteArray -> Option cFc
 |[],_=>none
 |x::l,s=>if x.name=s then some x else cFa l s
def cN4:Option cFc -> cFc
 |none=>cN6
 |some v=>v
def cFb(l:List cFc)(s:ByteArray):cFc:=cN4 (cFa l s)
structure cHo (p:cK) (l:List cFc):Prop where
 ms:∀s v,cFa l s=some v -> v.kind=2 -> v.n<p.mutexes.length
 fs:∀s v,cFa l s=some v -> v.kind=3 -> v.n<p.funcs.length
abbrev ES:=Nat×Int
def cFg(q:ES)(e:Nat)(s:Int):ES:=if q.1=0 /\ e≠0 then (e,s) else q
def cFj(a b:Nat):Nat:=if a=0 then b else a
theorem cGg(q:ES)(s:Int):cFg q 0 s=q:=by unfold cFg;rw [if_neg G0]
def cN1:Option cFc -> Nat
 |none=>6
 |some v=>if v.kind=1∨v.kind=4 then 0 else 8
def cGq(l:List cFc)(s:ByteArray):Nat:=cN1 (cFa l s)
def cJw(l:List cFc)(s:ByteArray):aH:=.mk (if (cFb l s).kind=1 then 19 else 18) ((cFb l s).n:Nat) aK []
mutual
def cFk(l:List cFc):aH -> aH
 |.mk op num name args=>if op=2 then cJw l name else .mk op num aK (cIl l args)
def cIl(l:List cFc):List aH -> List aH
 |[]=>[]
 |e::r=>cFk l e::cIl l r
end
mutual
def cFf(l:List cFc):aH -> Nat
 |.mk op _ name args=>if op=2 then cGq l name else cFq l args
def cFq(l:List cFc):List aH -> Nat
 |[]=>0
 |e::r=>cFj (cFf l e) (cFq l r)
end
theorem cIn(l:List cFc):∀r:List aH,cIl l r=r.map (cFk l)
 |[]=>by rw [cIl];rfl
 |e::r=>by rw [cIl,cIn l r];rfl
theorem cIs(l:List cFc)(e:aH):cFk l e=if e.op=2 then cJw l e.name else .mk e.op e.num aK (e.args.map (cFk l)):=by
 cases e;rw [cFk,cIn];rfl
theorem cIj(l:List cFc)(e:aH):cFf l e=if e.op=2 then cGq l e.name else cFq l e.args:=by cases e;rw [cFf];rfl
def cHk(p:cK)(n:Nat):Int:=match p.mutexes[n]? with
 |none=>0
 |some m=>m.size
theorem cGz{p:cK}{n:Nat}(h:n<p.mutexes.length):cHk p n=p.mutexes[n].size:=by unfold cHk;rw [List.getElem?_eq_getElem h]
def cG6(l:List cFc)(r:cY):cG5:=⟨decide ((cFb l r.name).kind=5),(cFb l r.name).n,r.index.map (cFk l)⟩
def cG3(p:cK)(n:Nat):Option cFc -> Nat
 |none=>6
 |some v=>if v.kind=2∨v.kind=5 then (if (decide (v.kind=2) && decide (0<cHk p v.n))=decide (0<n) then 0 else 8) else 8
def cGo(p:cK)(l:List cFc)(r:cY):Nat:=cFj (cG3 p r.index.length (cFa l r.name)) (cFq l r.index)
def cJh(p:cK)(l:List cFc)(a:eN):Nat:=if a.mutex then cGo p l a.ref else cFf l a.expr
def cF8(p:cK)(l:List cFc):List eN -> List aS -> Nat
 |a::r,x::xs=>if a.mutex=x.mutex then cFj (cJh p l a) (cF8 p l r xs) else 8
 |_,_=>0
def cGb:List eN -> List aS -> List eN
 |a::r,x::xs=>if a.mutex=x.mutex then a::cGb r xs else []
 |_,_=>[]
def cF4(l:List cFc)(al:List eN):List cG5:=(al.filter eN.mutex).map λa=>cG6 l a.ref
def cFn(l:List cFc)(al:List eN):List aH:=(al.filter λa=>!a.mutex).map λa=>cFk l a.expr
def cGc(p:cK)(n:Nat):List aS:=match p.funcs[n]? with
 |none=>[]
 |some f=>f.params
theorem cHc{p:cK}{n:Nat}(h:n<p.funcs.length):cGc p n=p.funcs[n].params:=by unfold cGc;rw [List.getElem?_eq_getElem h]
def cHb(p:cK)(l:List cFc)(al:List eN):Option cFc -> Nat
 |none=>6
 |some v=>if v.kind=3 then (if (cGc p v.n).length=al.length then cF8 p l al (cGc p v.n) else 7) else 8
def cFy(p:cK)(l:List cFc)(s:aJ):Nat:=cHb p l s.args (cFa l s.name)
def cG9(p:cK)(l:List cFc)(al:List eN)(op:Int):Option cFc -> cFw
 |none=>⟨op,0,false,.zero,plZ,[],[]⟩
 |some v=>if v.kind=3 then (if (cGc p v.n).length=al.length then ⟨op,v.n,false,.zero,plZ,cFn l (cGb al (cGc p v.n)),cF4 l (cGb al (cGc p v.n))⟩ else ⟨op,v.n,false,.zero,plZ,[],[]⟩) else ⟨op,0,false,.zero,plZ,[],[]⟩
def cGn(p:cK)(l:List cFc)(s:aJ):cFw:=cG9 p l s.args (if s.kind=4 then 3 else 2) (cFa l s.name)
structure LS where
 ents:List cFc
 locals:Nat
 n:Nat
 q:ES
 code:List cFw
 sites:List Int
def LS.put(x:LS)(i:cFw)(s:Nat):LS:=⟨x.ents,x.locals,x.n,x.q,x.code++[i],x.sites++[(s:Int)]⟩
def cFw.to(i:cFw)(t:Nat):cFw:=⟨i.op,t,i.global,i.expr,i.place,i.ints,i.places⟩
def LS.patch(x:LS)(b:Nat):LS:=⟨x.ents,x.locals,x.n,x.q,x.code.modify b (λi=>i.to x.code.length),x.sites⟩
def LS.beg(x:LS)(e:Nat):LS:=⟨x.ents,x.locals,x.n+1,cFg x.q e x.n,x.code,x.sites⟩
def cFv(l:List cFc)(s:ByteArray):Nat:=if (cFa l s).isSome then 5 else 0
def LS.var(x:LS)(s:ByteArray):LS:=⟨x.ents++[⟨s,4,x.locals⟩],x.locals+1,x.n,x.q,x.code,x.sites⟩
def opI(k:Int)(e:aH):cFw:=⟨k,0,false,e,plZ,[],[]⟩
def cFu(p:cK)(s:aJ)(x:LS):LS:=
 if s.kind=1 then ((x.beg (cFj (cFv x.ents s.name) (cFf x.ents s.expr))).put ⟨1,x.locals,false,cFk x.ents s.expr,plZ,[],[]⟩ x.n).var s.name
 else if s.kind=2 then (x.beg (cFj (cGq x.ents s.name) (cFf x.ents s.expr))).put ⟨1,(cFb x.ents s.name).n,decide ((cFb x.ents s.name).kind=1),cFk x.ents s.expr,plZ,[],[]⟩ x.n
 else if s.kind=3∨s.kind=4 then (x.beg (cFy p x.ents s)).put (cGn p x.ents s) x.n
 else if s.kind=5 then (x.beg (cGo p x.ents s.ref)).put ⟨4,0,false,.zero,cG6 x.ents s.ref,[],[]⟩ x.n
 else if s.kind=6 then (x.beg (cGo p x.ents s.ref)).put ⟨5,0,false,.zero,cG6 x.ents s.ref,[],[]⟩ x.n
 else (x.beg 0).put (opI 8 .zero) x.n
def LS.branch(x:LS)(e:aH):LS:=(x.beg (cFf x.ents e)).put (opI 6 (cFk x.ents e)) x.n
def LS.back(x:LS)(y:LS):LS:=⟨x.ents,y.locals,y.n,y.q,y.code,y.sites⟩
mutual
def cFs(p:cK):aJ -> LS -> LS
 |.mk k name e r args t f,x=>
  if k=7 then
   (if f.length=0 then ((x.branch e).back (cFe p t (x.branch e))).patch x.code.length
    else (LS.back x (cFe p f ((((x.branch e).back (cFe p t (x.branch e))).put (opI 7 .zero) x.n).patch x.code.length))).patch (cFe p t (x.branch e)).code.length)
  else if k=8 then (((x.branch e).back (cFe p t (x.branch e))).put ⟨7,x.code.length,false,.zero,plZ,[],[]⟩ x.n).patch x.code.length
  else cFu p (.mk k name e r args t f) x
def cFe(p:cK):List aJ -> LS -> LS
 |[],x=>x
 |s::l,x=>cFe p l (cFs p s x)
end
def cRs(p:cK)(l:List aJ)(x:LS):LS:=x.back (cFe p l x)
theorem cFz(p:cK)(s:aJ)(x:LS):cFs p s x=if s.kind=7 then
   (if s.els.length=0 then (cRs p s.thn (x.branch s.expr)).patch x.code.length
    else (cRs p s.els (((cRs p s.thn (x.branch s.expr)).put (opI 7 .zero) x.n).patch x.code.length)).patch (cRs p s.thn (x.branch s.expr)).code.length)
  else if s.kind=8 then ((cRs p s.thn (x.branch s.expr)).put ⟨7,x.code.length,false,.zero,plZ,[],[]⟩ x.n).patch x.code.length
  else cFu p s x:=by
 obtain ⟨k,n,e,r,a,t,f⟩:=s
 rw [cFs];rfl
theorem cIa(p:cK):∀(l:List aJ)(s:aJ)(x:LS),cFe p (l++[s]) x=cFs p s (cFe p l x)
 |[],s,x=>by rw [List.nil_append,cFe,cFe,cFe]
 |a::l,s,x=>by rw [List.cons_append,cFe,cFe,cIa p l s]
theorem cFo(p:cK)(l:List aJ)(k:Nat)(h:k<l.length)(x:LS):cFs p l[k] (cFe p (l.take k) x)=cFe p (l.take (k+1)) x:=by
 rw [List.take_succ_eq_append_getElem h,cIa]
def cFd(p:cK):List cFc:=p.globals.mapIdx (λi g=>⟨g.name,1,i⟩)++(p.mutexes.mapIdx (λi m=>⟨m.name,2,i⟩)++p.funcs.mapIdx (λi f=>⟨f.name,3,i⟩))
def cG0:List cFc -> List cFc -> Option Nat
 |_,[]=>none
 |l,x::r=>if (cFa l x.name).isSome then some l.length else cG0 (l++[x]) r
def cGd:List aS -> List cFc -> Nat -> Nat -> Option (List cFc×Nat×Nat)
 |[],l,i,m=>some (l,i,m)
 |x::r,l,i,m=>if (cFa l x.name).isSome then none else if x.mutex then cGd r (l++[⟨x.name,5,m⟩]) i (m+1) else cGd r (l++[⟨x.name,4,i⟩]) (i+1) m
def LS.init(l:List cFc)(i:Nat):LS:=⟨l,i,0,(0,0),[],[]⟩
def cJg(p:cK)(f:bS)(l:List cFc)(i:Nat):LS:=(cRs p f.body (LS.init l i)).put (opI 8 .zero) (cRs p f.body (LS.init l i)).n
def cGk(p:cK)(f:bS):ES:=match cGd f.params (cFd p) 0 0 with
 |none=>(5,-1)
 |some (l,i,_)=>(cJg p f l i).q
structure cI1 where
 name:ByteArray
 ints:Nat
 locks:Nat
 locals:Nat
 code:List cFw
def cGe(p:cK)(f:bS):cI1:=match cGd f.params (cFd p) 0 0 with
 |none=>⟨aK,0,0,0,[]⟩
 |some (l,i,m)=>⟨f.name,i,m,(cJg p f l i).locals,(cJg p f l i).code⟩
def cGh(p:cK):List bS -> Nat -> Int×Int×Nat
 |[],_=>(0,0,0)
 |f::r,i=>if (cGk p f).1=0 then cGh p r (i+1) else (i,(cGk p f).2,(cGk p f).1)
def cFl:ByteArray:=⟨#[109,97,105,110]⟩
def cHa(p:cK):Bool:=match cFa (cFd p) cFl with
 |none=>false
 |some v=>decide (v.kind=3) && decide ((cGc p v.n).length=0)
def cFx(p:cK):Int×Int×Nat:=
 if jI p=false then (-1,-1,10) else
 match cG0 [] (cFd p) with
 |some i=>(-1,i,5)
 |none=>if cHa p then cGh p p.funcs 0 else (-1,-1,9)
end
section
open Go.RowKit
instance (priority:=900) boxIn_appG{A0 R A B:List Box}{b:Nat}{T:TypeId}{cs:List AC}[h:lY R b A T cs B]:lY (A0++R) b (A0++A) T cs B:=⟨by rw [h.h,append_assoc]⟩
instance (priority:=1050) appL_app{A0 X ds r:List Box}[h:aDk X ds r]:aDk (A0++X) ds (A0++r):=⟨by rw [append_assoc,h.h]⟩
instance aS8:hP 1 1 2:=⟨rfl⟩
instance aSv:hP 1 2 3:=⟨rfl⟩
instance aSi:hP 1 3 4:=⟨rfl⟩
instance aTa:hP 1 4 5:=⟨rfl⟩
instance aTf:hP 1 5 6:=⟨rfl⟩
instance aS0:hP 2 1 3:=⟨rfl⟩
instance aSx:hP 2 2 4:=⟨rfl⟩
instance aTk:hP 2 3 5:=⟨rfl⟩
instance aT2:hP 2 4 6:=⟨rfl⟩
instance aRx:hP 2 5 7:=⟨rfl⟩
instance aTw:hP 3 1 4:=⟨rfl⟩
instance aSs:hP 3 2 5:=⟨rfl⟩
instance aSa:hP 3 3 6:=⟨rfl⟩
instance aS6:hP 3 4 7:=⟨rfl⟩
instance aRv:hP 3 5 8:=⟨rfl⟩
instance aR2:hP 4 1 5:=⟨rfl⟩
instance aSy:hP 4 2 6:=⟨rfl⟩
instance aR1:hP 4 3 7:=⟨rfl⟩
instance aSw:hP 4 4 8:=⟨rfl⟩
instance aTt:hP 4 5 9:=⟨rfl⟩
instance aSj:hP 5 1 6:=⟨rfl⟩
instance aSz:hP 5 2 7:=⟨rfl⟩
instance aTg:hP 5 3 8:=⟨rfl⟩
instance aR9:hP 5 4 9:=⟨rfl⟩
instance aTb:hP 5 5 10:=⟨rfl⟩
instance aS4:hP 6 1 7:=⟨rfl⟩
instance aT5:hP 6 2 8:=⟨rfl⟩
instance aSt:hP 6 3 9:=⟨rfl⟩
instance aS5:hP 6 4 10:=⟨rfl⟩
instance aSl:hP 6 5 11:=⟨rfl⟩
instance aSu:hP 7 1 8:=⟨rfl⟩
instance aTz:hP 7 2 9:=⟨rfl⟩
instance aTl:hP 7 3 10:=⟨rfl⟩
instance aS3:hP 7 4 11:=⟨rfl⟩
instance aR7:hP 7 5 12:=⟨rfl⟩
instance aR6:hP 8 1 9:=⟨rfl⟩
instance aTy:hP 8 2 10:=⟨rfl⟩
instance aS2:hP 8 3 11:=⟨rfl⟩
instance aR5:hP 8 4 12:=⟨rfl⟩
instance aSe:hP 8 5 13:=⟨rfl⟩
theorem jJ{bx:List Box}{rw:List bA}{Z:List Nat}{b:Nat}[h1:BIn bx b][h2:aLt bx b Z](hn:(⟨bx,rw⟩:Sto).bl.Nodup):b∈lM ⟨bx,rw⟩ Z:=kH.2 ⟨List.mem_append_left _ h1.h,h2.h (List.nodup_append.1 hn).1⟩
theorem kV{P:Program}{U:List Nat}{o:Oper}{st:AS}{x:Operand}{t e E:TypeId}{v:Value}{z n:Nat}{cs:List AC}(A:List bA){B:List bA}(ho:o.op=.call {callee:=.builtin .len,args:=#[x],argTypes:=#[t]})(hx:evA st x=some (Cv v))(hrow:st.s.rows=A++⟨v,E,z,n,cs⟩::B)(hu:∀w,(underlying t).run P w=.ok (.slice e) w)(hz:0<z:=by decide):AY P U o st (Ci n):=
 fW rfl λa w hs w'=>by
  obtain ⟨us,hownR,-⟩:=hs.mem.row ⟨v,E,z,n,cs⟩ C1
  have hown:=hownR.row hz
  have hv:∃p c,v=.slice p n c:=by
   rcases hown.2 with ⟨h1,h2⟩|⟨g,cap,cur,h1,-⟩
   ·dsimp only at h1 h2;subst h2;exact ⟨_,_,h1⟩
   exact ⟨_,_,h1⟩
  obtain ⟨p,c,rfl⟩:=hv
  simp only [execOp,ho,resolve,List.map_toArray,List.map_cons,List.map_nil,hs.val hx]
  simp [go_sem,invoke,builtin,Builtin.len_,hu,goInt]
class aL0 (bx:List Box) (Z:List Nat):Prop where h:∀z,z∈Z -> z∈bx.map Box.b
instance aTn{bx:List Box}:aL0 bx []:=⟨G0⟩
instance aRr{bx:List Box}{z:Nat}{Z:List Nat}[h1:BIn bx z][h2:aL0 bx Z]:aL0 bx (z::Z):=⟨λy hy=>by rcases mem_cons.1 hy with rfl|h;exact h1.h;exact h2.h _ h⟩
theorem qW{bx:List Box}{rw:List bA}{Z:List Nat}{v:Value}{E:TypeId}{z n b:Nat}{cs:List AC}[h1:aL0 bx Z](hn:(⟨bx,⟨v,E,z,n,cs⟩::rw⟩:Sto).bl.Nodup)(hb:b∈aY v):b∈lM ⟨bx,⟨v,E,z,n,cs⟩::rw⟩ Z:=by
 have h3:b∈(⟨v,E,z,n,cs⟩::rw:List bA).flatMap λr=>aY r.v:=by simp [hb]
 refine kH.2 ⟨List.mem_append_right _ h3,λhz=>?_⟩
 exact (List.nodup_append.1 hn).2.2 b (h1.h b hz) b h3 Y
theorem aE1{P:Program}{ops:Array Oper}{n:Nat}{T:List Nat}{bx:List Box}{rw:List bA}{ts:List (Nat×AT)}{Q:Exit -> AS -> Prop}{l:List Oper}(i:Nat){v:Value}{E:TypeId}{z k:Nat}{cs:List AC}(hi:look ts i=some (Cv v))(h:eQ P ops l ⟨n,T,⟨bx,rw⟩,(i,.c (.sl k cs))::ts⟩ Q)(hz:0<z:=by decide):eQ P ops l ⟨n,T,⟨bx,⟨v,E,z,k,cs⟩::rw⟩,ts⟩ Q:=
 uQ (yS (st:=⟨n,T,⟨bx,⟨v,E,z,k,cs⟩::rw⟩,ts⟩) (A:=[]) i hi rfl hz) h
section
variable {P:Program}{ops:Array Oper}{U T:List Nat}{o:Oper}{n d:Nat}{bx:List Box}{rw:List bA}{ts:List (Nat×AT)}{Q:Exit -> AS -> Prop}{l:List Oper}{K:AS -> Prop}{st:AS}{t:AT}
theorem rV{s:Sto}{w:World}(hm:Mem s w){r:bA}(hr:r∈s.rows)(hn:0<r.n)(hz:0<r.z):∃g cap,r.v=.slice (some ⟨g,0,none⟩) r.n cap:=by
 obtain ⟨us,h0,-⟩:=hm.row r hr
 obtain ⟨h1,h2⟩:=h0.row hz
 rcases h2 with ⟨-,h2⟩|⟨g,cap,cur,h2,-⟩
 ·omega
 exact ⟨g,cap,h2⟩
theorem aF1(A:List bA){B:List bA}{v:Value}{E:TypeId}{z k:Nat}{cs:List AC}(hk:0<k)(h:∀g cap,v=.slice (some ⟨g,0,none⟩) k cap -> eQ P ops l ⟨n,T,⟨bx,A++⟨v,E,z,k,cs⟩::B⟩,ts⟩ Q)(hz:0<z:=by decide):eQ P ops l ⟨n,T,⟨bx,A++⟨v,E,z,k,cs⟩::B⟩,ts⟩ Q:=λa w hs QQ hQ=>by
 obtain ⟨g,cap,hv⟩:=rV hs.mem (r:=⟨v,E,z,k,cs⟩) G0 hk hz
 exact h g cap hv a w hs QQ hQ
theorem aEw(A:List bA){c:Code}{B:List bA}{v:Value}{E:TypeId}{z k:Nat}{cs:List AC}(hk:0<k)(h:∀g cap,v=.slice (some ⟨g,0,none⟩) k cap -> AWp P c ⟨n,T,⟨bx,A++⟨v,E,z,k,cs⟩::B⟩,ts⟩ Q)(hz:0<z:=by decide):AWp P c ⟨n,T,⟨bx,A++⟨v,E,z,k,cs⟩::B⟩,ts⟩ Q:=λa w hs QQ hQ=>by
 obtain ⟨g,cap,hv⟩:=rV hs.mem (r:=⟨v,E,z,k,cs⟩) G0 hk hz
 exact h g cap hv a w hs QQ hQ
theorem rM{E E0:TypeId}{x:Operand}{g off z zz k cap:Nat}{cs:List AC}{ag:Bool}(A:List bA){B:List bA}(ho:o.op=.load E x)(hx:evA st x=some (Cv (.pointer (some ⟨g,off,none⟩))))(hrow:st.s.rows=A++⟨.slice (some ⟨g,0,none⟩) k cap,E0,zz,k,cs⟩::B)
  (hA:∀w,(isAgg E).run P w=.ok ag w) (hS:∀w,(sizeOf E).run P w=.ok z w) (hp:pk ag z cs off=some t) (hU:st.s.bl.Nodup -> g∉U):AY P U o st t:=by
 intro a w hs hU2
 obtain ⟨us,hownR,h2⟩:=hs.mem.row ⟨.slice (some ⟨g,0,none⟩) k cap,E0,zz,k,cs⟩ C1
 have hown:=hownR.row0 Y
 obtain ⟨h3,h4⟩:=hown
 rcases h4 with ⟨h4,-⟩|⟨g',cap',cur,hv,-,hh,hk,hcm,hcs,htk⟩
 ·cases h4
 cases hv
 obtain ⟨v,hv,hl⟩:=pR (P:=P) (b:=g) (o:=0) hA hS h2 hp
 refine ⟨v,hv,λw' hkp=>?_⟩
 have hlt:g<w.heap.size:=hs.mem.lt g (List.mem_append_right _ (by rw [hrow];simp [aY,Value.ownBlock]))
 have hb:=hkp.block g hlt (hU hs.mem.nodup)
 have hl2:=hl w' (λj u hj=>by
  unfold World.cell?
  simp only [hb,hh]
  have h9:(cur.toList.take (k*zz))[j]?=some u:=by rw [htk];exact hj
  rw [List.getElem?_take] at h9
  split at h9
  ·simpa using h9
  cases h9)
 simp only [Nat.zero_add] at hl2
 simp only [execOp,ho,hs.val hx,Instr.loadAt,Instr.sureAddr,Sem.run_bind,Sem.run_pure,Result.andThen_ok]
 rw [hl2];rfl
theorem aTr{E e:TypeId}{z:Nat}(ho:o.op=.buildSlice E 0 #[])(hd:o.dst=some d)(hn:d<n)(hu:P.underlying E=some (.slice e))(hS:∀w,(sizeOf e).run P w=.ok z w)
  (h:∀g,K ⟨n,g::T,⟨bx,⟨.slice (some ⟨g,0,none⟩) 0 0,e,z,0,[]⟩::rw⟩,(d,Cv (.slice (some ⟨g,0,none⟩) 0 0))::ts⟩):AO P U o ⟨n,T,⟨bx,rw⟩,ts⟩ K:=by
 intro a w hs KK QQ hK
 unfold Oper.wp
 have hrun:(execOp a.eval o).run P w=.ok (.value (.slice (some ⟨w.heap.size,0,none⟩) 0 0)) (w.alloc (.cells #[] e)):=by
  have h1:(underlying E).run P w=.ok (.slice e) w:=run_underlying hu w
  have h2:(sizeOf e).run P w=.ok z w:=hS w
  simp only [execOp,ho,Instr.buildSlice,Sem.run_bind,h1,Result.andThen_ok,h2,Nat.zero_mul]
  simp [go_sem,Instr.fill,newRow]
 rw [hrun,Oper.upon_value,hd]
 have hk:cW [] w (w.alloc (.cells #[] e)):=(cW.refl _ _).alloc _
 have hne:w.heap.size∉(⟨bx,rw⟩:Sto).bl:=λhm=>GA
 have hbl:(⟨bx,⟨.slice (some ⟨w.heap.size,0,none⟩) 0 0,e,z,0,[]⟩::rw⟩:Sto).bl=bx.map Box.b++w.heap.size::rw.flatMap λr=>aY r.v:=CZ
 have hsub:∀b,b∈(⟨bx,⟨.slice (some ⟨w.heap.size,0,none⟩) 0 0,e,z,0,[]⟩::rw⟩:Sto).bl -> b∈(⟨bx,rw⟩:Sto).bl∨w.heap.size <= b:=λb hb=>by
  rw [hbl] at hb
  simp only [mem_append,mem_cons] at hb
  rcases hb with h|rfl|h
  ·exact .inl (List.mem_append_left _ h)
  ·exact .inr (Nat.le_refl _)
  exact .inl (List.mem_append_right _ h)
 have hup:Up2 (bI (⟨bx,rw⟩:Sto).bl w) (bI (⟨bx,⟨.slice (some ⟨w.heap.size,0,none⟩) 0 0,e,z,0,[]⟩::rw⟩:Sto).bl (w.alloc (.cells #[] e))):=jA hk Bu hsub
 have hsz:(w.alloc (.cells #[] e)).heap.size=w.heap.size+1:=G0
 have hm:Mem ⟨bx,⟨.slice (some ⟨w.heap.size,0,none⟩) 0 0,e,z,0,[]⟩::rw⟩ (w.alloc (.cells #[] e)):=by
  refine ⟨?_,λb hb=>?_,λx hx=>?_,λr hr=>?_⟩
  ·rw [hbl]
   have hnd:(bx.map Box.b++rw.flatMap λr=>aY r.v).Nodup:=hs.mem.nodup
   rw [List.nodup_append] at hnd⊢
   refine ⟨hnd.1,List.nodup_cons.2 ⟨λh=>hne (List.mem_append_right _ h),hnd.2.1⟩,λa ha b hb=>?_⟩
   rcases mem_cons.1 hb with rfl|hb
   ·intro he;subst he;exact hne (List.mem_append_left _ ha)
   exact hnd.2.2 a ha b hb
  ·rw [hbl] at hb
   simp only [mem_append,mem_cons] at hb
   rw [hsz]
   rcases hb with h|rfl|h
   ·exact Nat.lt_succ_of_lt (hs.mem.lt b (List.mem_append_left _ h))
   ·exact Nat.lt_succ_self _
   exact Nat.lt_succ_of_lt (hs.mem.lt b (List.mem_append_right _ h))
  ·obtain ⟨us,e1,e2⟩:=hs.mem.box x hx
   exact ⟨us,BN,e2.mono hup⟩
  rcases mem_cons.1 hr with rfl|hr
  ·refine ⟨[],.inl ⟨G0,.inr ⟨w.heap.size,0,#[],Y,Nat.zero_le _,?_,Nat.le_refl _,Nat.zero_le _,G0,G0⟩⟩,.nil _⟩
   show (w.heap.push _)[w.heap.size]?=_
   simp
  obtain ⟨us,e1,e2⟩:=hs.mem.row r hr
  exact ⟨us,e1.keep λg hg=>hk.block g (hs.mem.lt g (List.mem_append_right _ (List.mem_flatMap.2 ⟨r,hr,hg⟩))) G0,e2.mono hup⟩
 have s1:=hs.step (st:=⟨n,T,⟨bx,rw⟩,ts⟩) (w.heap.size::T) (hk.mono G0) hm hsub
 refine hK _ _ _ (h _) (s1.put (v:=.slice (some ⟨w.heap.size,0,none⟩) 0 0) hn (.c _ _ (.val _ Y))) ⟨hk.mono G0,hk.mono G0,hsub,λb hb=>?_⟩ (hk.mono G0)
 rcases mem_cons.1 hb with rfl|hb
 ·exact .inr (Nat.le_refl _)
 exact .inl hb
end
end
section
open Go.RowKit
theorem kB{a b:Bool}(h:a=true↔b=true):Ending.returned (.bool a)=.returned (.bool b):=by rw [Bool.eq_iff_iff.2 h]
theorem gG{k:IntKind}{a b:Int}(h:a=b):Ending.returned (.int k a)=.returned (.int k b):=by rw [h]
theorem sB(c:UInt8)(w:World):
  Calls prog 211 #[.int .u8 c.toNat] w λe w'=>e=.returned (.bool (isSp c)) /\ w=w':=by
 unfold isSp
 generalize (c.toNat:Int)=n
 go_enter func211,Tryz.ntmps211
 go_wp2
 all_goals (go_ret;refine ⟨kB ?_,rfl⟩;simp;try omega)
theorem qG(c:UInt8)(w:World):
  Calls prog 214 #[.int .u8 c.toNat] w λe w'=>e=.returned (.bool (fU c)) /\ w=w':=by
 unfold fU
 generalize (c.toNat:Int)=n
 go_enter func214,Tryz.ntmps214
 go_wp2
 all_goals (go_ret;refine ⟨kB ?_,rfl⟩;simp;try omega)
theorem oV(c:UInt8)(w:World):
  Calls prog 216 #[.int .u8 c.toNat] w λe w'=>e=.returned (.bool (cD c)) /\ w=w':=by
 unfold cD
 generalize (c.toNat:Int)=n
 go_enter func216,Tryz.ntmps216
 go_wp2
 all_goals (go_ret;refine ⟨kB ?_,rfl⟩;simp;try omega)
theorem tC(c:UInt8)(w:World):
  Calls prog 254 #[.int .u8 c.toNat] w λe w'=>e=.returned (.bool (cT c)) /\ w=w':=by
 go_enter func254,Tryz.ntmps254
 go_wp2_with (first|(go_at_call 214;refine (qG _ _).mono ?_;rintro e w' ⟨rfl,rfl⟩)|(go_at_call 216;refine (oV _ _).mono ?_;rintro e w' ⟨rfl,rfl⟩))
 all_goals (go_ret;refine ⟨kB ?_,rfl⟩;simp [cT, *])
theorem oK(s p:ByteArray)(w:World):
  Calls prog 212 #[.string s,.string p] w λe w'=>e=.returned (.bool (Lib.hasPrefix s.data.toList p.data.toList)) /\ w=w':=
 (Tryz.strings_HasPrefix s p w).mono λ_ _ h=>⟨h.1,h.2.symm⟩
theorem oL(s:ByteArray)(c:Int)(w:World):
  Calls prog 213 #[.string s,.int .u8 c] w λe w'=>e=.returned (.int .i64 (Lib.indexByte s.data.toList c.toNat.toUInt8)) /\ w=w':=
 (Tryz.strings_IndexByte s c w).mono λ_ _ h=>⟨h.1,h.2.symm⟩
theorem uH(s:ByteArray)(k0:Nat)(w:World)(hs:s.size <= 9223372036854775807)(hk:k0 <= s.size):
  Calls prog 168 #[.string s,.int .i64 k0] w λe w'=>e=.returned (.int .i64 (bF s.data.toList k0)) /\ w=w':=by
 have hlen:s.data.toList.length=s.size:=Y
 go_enter func168,Tryz.ntmps168
 go_wp2_with fail
 go_loop [1,5] (λv _=>∃k:Nat,k <= s.size /\ v=.int .i64 k /\ bF s.data.toList k=bF s.data.toList k0) (λv _=>s.size-(intOf v).toNat)
 case atStart=>exact ⟨k0,hk,rfl,rfl⟩
 case round=>
  obtain ⟨k,hk,rfl,hr⟩:=hrel
  have HR:=Lib.hid hr;clear hr
  have HL:=Lib.hid hlen;clear hlen
  by_cases hlt:k<s.size
  ·by_cases hsp:isSp s[k]=true
   ·go_wp2_with (first|(go_at_call 211;refine (sB _ _).mono ?_;rintro e w' ⟨rfl,rfl⟩))
    go_round
    case rel=>exact ⟨k+1,J,C8,(aGh _ _ Ct hsp).trans HR.out⟩
    case measure=>simp [intOf];omega
   have hsp':isSp s[k]=false:=by simpa using hsp
   clear hsp
   by_cases hc:Lib.hasPrefix (s.data.toList.drop k) [47,47]=true
   ·have hcom:=aJa _ _ Ct hc
    have HC:=Lib.hid hcom;clear hcom
    have htk:List.take (s.size-k) (List.drop k s.data.toList)=List.drop k s.data.toList:=take_of_length_le G0
    by_cases hn:Lib.indexByte (s.data.toList.drop k) 10<0
    ·go_wp2_with (first|(go_at_call 211;refine (sB _ _).mono ?_;rintro e w' ⟨rfl,rfl⟩)|(go_at_call 212;refine (oK _ _ _).mono ?_;rintro e w' ⟨rfl,rfl⟩)|(go_at_call 213;refine (oL _ _ _).mono ?_;rintro e w' ⟨rfl,rfl⟩))
     go_ret
     exact ⟨gG (by rw [←HR.out,HC.out.1 hn,HL.out]),Y⟩
    obtain ⟨j,hj⟩:∃j:Nat,Lib.indexByte (s.data.toList.drop k) 10=j:=⟨(Lib.indexByte (s.data.toList.drop k) 10).toNat,J⟩
    obtain ⟨h1,h2,h3⟩:=HC.out.2 j hj
    rw [HL.out] at h2
    have H1:=Lib.hid h1;clear h1
    clear hn
    go_wp2_with (first|(go_at_call 211;refine (sB _ _).mono ?_;rintro e w' ⟨rfl,rfl⟩)|(go_at_call 212;refine (oK _ _ _).mono ?_;rintro e w' ⟨rfl,rfl⟩)|(go_at_call 213;refine (oL _ _ _).mono ?_;rintro e w' ⟨rfl,rfl⟩))
    go_round
    case rel=>exact ⟨k+j,J,C8,H1.out.trans HR.out⟩
    case measure=>simp [intOf];omega
   have hc':Lib.hasPrefix (s.data.toList.drop k) [47,47]=false:=by simpa using hc
   have hstop:bF s.data.toList k=k:=by
    refine zX _ _ Ct hsp' ?_
    rintro ⟨h1,h2⟩
    apply hc
    rw [sZ,dR _ _ Ct,h1]
    cases hd:s.data.toList.drop (k+1) with
    |nil=>simp [hd] at h2
    |cons a r=>rw [hd] at h2;simp at h2;subst h2;exact ⟨r,rfl⟩
   have HS:=Lib.hid hstop;clear hstop
   clear hc
   have htk:List.take (s.size-k) (List.drop k s.data.toList)=List.drop k s.data.toList:=take_of_length_le G0
   go_wp2_with (first|(go_at_call 211;refine (sB _ _).mono ?_;rintro e w' ⟨rfl,rfl⟩)|(go_at_call 212;refine (oK _ _ _).mono ?_;rintro e w' ⟨rfl,rfl⟩))
   go_ret
   exact ⟨gG (by rw [←HR.out,HS.out]),Y⟩
  go_wp2_with fail
  go_ret
  exact ⟨gG (by rw [←HR.out,aA5 _ _ Fo,HL.out];omega),Y⟩
theorem lH(p:UInt8 -> Bool)(l:List UInt8)(k:Nat)(hk:k<l.length)(h:(l.takeWhile p).length=k+((l.drop k).takeWhile p).length):
  (p l[k]=true -> (l.takeWhile p).length=(k+1)+((l.drop (k+1)).takeWhile p).length) /\ (p l[k]=false -> (l.takeWhile p).length=k):=by
 rw [dR l k hk] at h
 refine ⟨λhp=>?_,λhp=>?_⟩
 ·rw [List.takeWhile_cons_of_pos hp] at h;simp at h;omega
 rw [List.takeWhile_cons_of_neg (by simp [hp])] at h;simpa using h
theorem aI6(s:ByteArray)(w:World)(hs:s.size <= 9223372036854775807):
  Calls prog 253 #[.string s,.func (.func 216) #[] #[]] w λe w'=>e=.returned (.int .i64 (s.data.toList.takeWhile cD).length) /\ w=w':=by
 have HL:=Lib.hid (show s.data.toList.length=s.size from Y)
 go_enter func253,Tryz.ntmps253
 go_wp2_with fail
 go_loop [5] (λv=>∃k:Nat,k <= s.size /\ v=.int .i64 k /\ (s.data.toList.takeWhile cD).length=k+((s.data.toList.drop k).takeWhile cD).length) (λv=>s.size-(intOf v).toNat)
 case atStart=>exact ⟨0,J,rfl,G0⟩
 case round=>
  obtain ⟨k,hk,rfl,hr⟩:=hrel
  by_cases hlt:k<s.size
  ·have HT:=Lib.hid (lH cD s.data.toList k Ct hr);clear hr
   by_cases hp:cD s[k]=true
   ·go_wp2_with (first|(go_at_call 216;refine (oV _ _).mono ?_;rintro e w' ⟨rfl,rfl⟩))
    go_round
    case rel=>exact ⟨k+1,J,C8,HT.out.1 hp⟩
    case measure=>simp [intOf];omega
   have hp':cD s[k]=false:=by simpa using hp
   clear hp
   go_wp2_with (first|(go_at_call 216;refine (oV _ _).mono ?_;rintro e w' ⟨rfl,rfl⟩))
   go_ret
   exact ⟨gG (by rw [HT.out.2 hp']),Y⟩
  have HR:=Lib.hid hr;clear hr
  go_wp2_with fail
  go_ret
  refine ⟨gG ?_,Y⟩
  rw [HR.out,List.drop_eq_nil_of_le Fo];rfl
theorem aM0(s:ByteArray)(w:World)(hs:s.size <= 9223372036854775807):
  Calls prog 253 #[.string s,.func (.func 254) #[] #[]] w λe w'=>e=.returned (.int .i64 (s.data.toList.takeWhile cT).length) /\ w=w':=by
 have HL:=Lib.hid (show s.data.toList.length=s.size from Y)
 go_enter func253,Tryz.ntmps253
 go_wp2_with fail
 go_loop [5] (λv=>∃k:Nat,k <= s.size /\ v=.int .i64 k /\ (s.data.toList.takeWhile cT).length=k+((s.data.toList.drop k).takeWhile cT).length) (λv=>s.size-(intOf v).toNat)
 case atStart=>exact ⟨0,J,rfl,G0⟩
 case round=>
  obtain ⟨k,hk,rfl,hr⟩:=hrel
  by_cases hlt:k<s.size
  ·have HT:=Lib.hid (lH cT s.data.toList k Ct hr);clear hr
   by_cases hp:cT s[k]=true
   ·go_wp2_with (first|(go_at_call 254;refine (tC _ _).mono ?_;rintro e w' ⟨rfl,rfl⟩))
    go_round
    case rel=>exact ⟨k+1,J,C8,HT.out.1 hp⟩
    case measure=>simp [intOf];omega
   have hp':cT s[k]=false:=by simpa using hp
   clear hp
   go_wp2_with (first|(go_at_call 254;refine (tC _ _).mono ?_;rintro e w' ⟨rfl,rfl⟩))
   go_ret
   exact ⟨gG (by rw [HT.out.2 hp']),Y⟩
  have HR:=Lib.hid hr;clear hr
  go_wp2_with fail
  go_ret
  refine ⟨gG ?_,Y⟩
  rw [HR.out,List.drop_eq_nil_of_le Fo];rfl
structure Env (w:World):Prop where
 words:∀j,j<words.length -> w.cell? ⟨1,0+j,none⟩=some (.string (words.getD j ByteArray.empty))
 maxLen:∃m:Int,w.cell? ⟨4,0,none⟩=some (.int .i64 m)
 size:Nat.max 1 4+1 <= w.heap.size
theorem Env.below{B:Nat}{w w':World}(h:Env w)(hb:Below B w w')(hB:Nat.max 1 4+1 <= B):Env w':=by
 refine ⟨λj hj=>?_,?_,Nat.le_trans h.size hb.size⟩
 ·rw [hb.cell (p:=⟨1,0+j,none⟩) (Nat.lt_of_lt_of_le (V:1<Nat.max 1 4+1) hB)];exact h.words j hj
 rw [hb.cell (p:=⟨4,0,none⟩) (Nat.lt_of_lt_of_le (V:4<Nat.max 1 4+1) hB)];exact h.maxLen
theorem Env.alloc{w:World}(h:Env w)(o:Obj):Env (w.alloc o):=h.below ((Below.refl w.heap.size w).alloc (Nat.le_refl _) o) h.size
theorem Env.drew{w:World}(h:Env w):Env w.drew:=h.below ((Below.refl w.heap.size w).drew) h.size
theorem Env.setCell{w:World}(h:Env w){a:Addr}(ha:Nat.max 1 4+1 <= a.block)(u:Value):Env (w.setCell a u):=h.below ((Below.refl (Nat.max 1 4+1) w).setCell ha u) (Nat.le_refl _)
theorem yL(s:ByteArray)(w:World)(he:Env w):
  Calls prog 269 #[.slice (some ⟨1,0,none⟩) 11 11,.string s] w λe w'=>e=.returned (.bool (dA s)) /\ w=w':=by
 refine (Tryz.slices_Contains_string 1 0 11 11 words s w V V he.words).mono λe w' h=>⟨?_,h.2.symm⟩
 rw [h.1]
 refine kB ?_
 rw [Lib.containsS_iff,mK];rfl
theorem aC5(s:ByteArray)(w:World)(he:Env w):
  Calls prog 255 #[.string s] w λe w'=>e=.returned (.bool (dA s)) /\ w=w':=by
 go_enter func255,Tryz.ntmps255
 go_wp2_with (first|(go_at_call 269;refine (yL _ _ he).mono ?_;rintro e w' ⟨rfl,rfl⟩))
 go_ret
 exact ⟨Y,Y⟩
theorem nZ(s:ByteArray)(p:UInt8 -> Bool):s.extract 0 (s.data.toList.takeWhile p).length=bytes (s.data.toList.takeWhile p):=by
 have:=ByteArray.extract_mk s.data.toList 0 (s.data.toList.takeWhile p).length
 rw [show (ByteArray.mk s.data.toList.toArray)=s from by simp] at this
 rw [this,bytes,List.drop_zero,Nat.sub_zero]
 congr 2
 conv=>rhs;rw [List.takeWhile_eq_take_findIdx_not]
 rw [List.takeWhile_eq_take_findIdx_not,List.length_take,List.take_eq_take_iff];omega
theorem aMr(s:ByteArray)(w:World)(hs:s.size <= 9223372036854775807)(he:Env w):
  Calls prog 215 #[.string s] w λe w'=>e=.returned (.tuple #[.agg #[.int .i64 ((if dA (bytes (s.data.toList.takeWhile cT)) then 3 else 1:Nat):Int),.string (bytes (s.data.toList.takeWhile cT)),.int .i64 0,.int .i64 0],.int .i64 ((if 16<(s.data.toList.takeWhile cT).length then 3 else 0:Nat):Int)]) /\ Below w.heap.size w w':=by
 have hle:(s.data.toList.takeWhile cT).length <= s.size:=(List.takeWhile_sublist _).length_le
 have hx:=nZ s cT
 have hsz:(bytes (s.data.toList.takeWhile cT)).size=(s.data.toList.takeWhile cT).length:=Co
 go_enter func215,Tryz.ntmps215
 go_wp2_with (first|(go_at_call 253;refine (aM0 _ _ hs).mono ?_;rintro e w' ⟨rfl,rfl⟩)|(go_at_call 255;refine (aC5 _ _ ((he.alloc _).alloc _)).mono ?_;rintro e w' ⟨rfl,rfl⟩))
 all_goals (go_returns;refine ⟨?_,B8⟩)
 all_goals first|rfl|(rw [if_pos J];rfl)|(rw [if_neg J];rfl)
theorem aJc(t:ByteArray)(k n:Nat)(hk:k<t.size)(h:iT 0 t.data.toList=iT n (t.data.toList.drop k)):
  ((9223372036854775807-(t[k].toNat-48))/10<n -> iT 0 t.data.toList=none) /\ (¬(9223372036854775807-(t[k].toNat-48))/10<n -> iT 0 t.data.toList=iT (10*n+(t[k].toNat-48)) (t.data.toList.drop (k+1))):=by
 rw [dR _ k (by exact hk),iT] at h
 refine ⟨λhn=>?_,λhn=>?_⟩
 ·rw [h];exact if_pos hn
 rw [h];exact if_neg hn
def aXp(t:ByteArray)(e:Ending):Prop:=∃n:Nat,(n:Int) <= 9223372036854775807 /\ ((iT 0 t.data.toList=none /\ e=.returned (.tuple #[.agg #[.int .i64 2,.string t,.int .i64 n,.int .i64 0],.int .i64 2]))∨(iT 0 t.data.toList=some n /\ e=.returned (.tuple #[.agg #[.int .i64 2,.string t,.int .i64 n,.int .i64 0],.int .i64 0])))
theorem aHi(s:ByteArray)(w:World)(hs:s.size <= 9223372036854775807):
  Calls prog 217 #[.string s] w λe w'=>aXp (bytes (s.data.toList.takeWhile cD)) e /\ Below w.heap.size w w':=by
 have hle:(s.data.toList.takeWhile cD).length <= s.size:=(List.takeWhile_sublist _).length_le
 have hx:=nZ s cD
 have hsz:(bytes (s.data.toList.takeWhile cD)).size=(s.data.toList.takeWhile cD).length:=Co
 have hall:∀c∈(bytes (s.data.toList.takeWhile cD)).data.toList,cD c=true:=by
  intro c hc;simp only [bytes] at hc;exact (List.all_eq_true.1 (List.all_takeWhile (p:=cD) (l:=s.data.toList))) c hc
 generalize hm:(s.data.toList.takeWhile cD).length=m at *
 generalize ht:bytes (s.data.toList.takeWhile cD)=t at *
 have HM:=Lib.hid hm
 have HT:=Lib.hid ht
 have HA:=Lib.hid hall
 have HX:=Lib.hid hx
 clear hm ht hall
 subst hsz
 go_enter func217,Tryz.ntmps217
 go_wp2_with (first|(go_at_call 253;refine (aI6 _ _ hs).mono ?_;rintro e w' ⟨rfl,rfl⟩;rw [HM.out]))
 go_loopw [15] (λv wr=>∃k n:Nat,k <= t.size /\ v=.int .i64 k /\ n <= 9223372036854775807 /\ iT 0 t.data.toList=iT n (t.data.toList.drop k) /\ wr=(w.alloc (Obj.cells #[Value.int IntKind.i64 0,Value.string {data:=#[]},Value.int IntKind.i64 0,Value.int IntKind.i64 0] 199)).alloc (Obj.cells #[Value.int IntKind.i64 2,Value.string t,Value.int IntKind.i64 n,Value.int IntKind.i64 0] 199)) (λv _=>t.size-(intOf v).toNat)
 case atStart=>exact ⟨0,0,J,rfl,J,rfl,rfl⟩
 case round=>
  obtain ⟨k,n,hk,rfl,hn,hv,rfl⟩:=hrel
  by_cases hlt:k<t.size
  ·have hst:=aJc t k n hlt hv
   have hd:cD t[k]=true:=HA.out _ (by simp [ByteArray.getElem_eq_getElem_data])
   have HS:=Lib.hid hst
   clear hst hv
   simp only [cD,decide_eq_true_eq] at hd
   obtain ⟨hd1,hd2⟩:=hd
   by_cases hov:(9223372036854775807-(t[k].toNat-48))/10<n
   ·have hov':(9223372036854775807-((t[k].toNat:Int)-48))/10<(n:Int):=J
    have HO:=Lib.hid hov
    clear hov
    go_wp2_with fail
    go_returns
    exact ⟨⟨n,J,.inl ⟨HS.out.1 HO.out,Y⟩⟩,B8⟩
   have hov':(n:Int) <= (9223372036854775807-((t[k].toNat:Int)-48))/10:=J
   have HO:=Lib.hid hov
   clear hov
   go_wp2_with fail
   go_roundw
   case rel=>exact ⟨k+1,10*n+(t[k].toNat-48),J,C8,J,HS.out.2 HO.out,by congr 5;go_num⟩
   case measure=>simp [intOf];omega
  have HV:=Lib.hid hv
  clear hv
  go_wp2_with fail
  go_returns
  refine ⟨⟨n,J,.inr ⟨?_,Y⟩⟩,B8⟩
  rw [HV.out,List.drop_eq_nil_of_le (by show t.size <= k;omega),iT]
theorem nT(sub:ByteArray)(w:World)(he:Env w):
  Calls prog 256 #[.string ⟨#[60,61,32,62,61,32,61,61,32,33,61,32,38,38,32,124,124]⟩,.string sub] w λe w'=>e=.returned (.bool (Lib.contains wG sub.data.toList)) /\ w=w':=by
 obtain ⟨m,hm⟩:=he.maxLen
 exact (Tryz.strings_Contains _ sub m w V hm).mono λe w' h=>⟨h.1,h.2.symm⟩
theorem oD(c:UInt8)(w:World):
  Calls prog 213 #[.string ⟨#[40,41,123,125,91,93,44,59,61,43,45,42,47,37,60,62,33]⟩,.int .u8 c.toNat] w λe w'=>e=.returned (.int .i64 (Lib.indexByte dW c)) /\ w=w':=by
 refine (oL _ _ _).mono λe w' h=>⟨?_,h.2⟩
 rw [h.1];congr 3;simp
def aE9(s:ByteArray)(n:Nat):Value:=.tuple #[.agg #[.int .i64 (if n=0 then 0 else 4),.string (bytes (s.data.toList.take n)),.int .i64 0,.int .i64 0],.int .i64 (if n=0 then 1 else 0)]
theorem pY(s:ByteArray)(n:Nat):s.extract 0 n=bytes (s.data.toList.take n):=by
 have:=ByteArray.extract_mk s.data.toList 0 n
 rw [show (ByteArray.mk s.data.toList.toArray)=s from by simp] at this
 rw [this,bytes,List.drop_zero,Nat.sub_zero]
theorem jR(l:List UInt8):(bytes l).data.toList=l:=Dn
theorem aLh(s:ByteArray)(w:World)(he:Env w)(h2:1<s.size)(h0:((s[0].toNat:Int) == 32)=false)(h1:((s[1].toNat:Int) == 32)=false)(hc:Lib.contains wG (s.data.toList.take 2)=true):
  Calls prog 218 #[.string s] w λe w'=>e=.returned (aE9 s 2) /\ Below w.heap.size w w':=by
 have h0':((s[0].toNat:Int) != 32)=true:=by simp at h0⊢;exact h0
 have h1':((s[1].toNat:Int) != 32)=true:=by simp at h1⊢;exact h1
 have h2':(1:Int)<s.size:=J
 have hx:=pY s 2
 have hbd:=jR (s.data.toList.take 2)
 go_enter func218,Tryz.ntmps218
 go_wp2_with (first|(go_at_call 256;refine (nT _ _ (he.alloc _)).mono ?_;rintro e w' ⟨rfl,rfl⟩))
 go_returns
 exact ⟨Y,B8⟩
inductive aH1 (s:ByteArray):Prop
 |short (h:(s.size:Int) <= 1)
 |first (h2:(1:Int)<s.size) (h0:0<s.size) (h:((s[0].toNat:Int) != 32)=false)
 |second (h2:(1:Int)<s.size) (h3:1<s.size) (h0:((s[0].toNat:Int) != 32)=true) (h:((s[1].toNat:Int) != 32)=false)
 |other (h2:(1:Int)<s.size) (h3:1<s.size) (h0:((s[0].toNat:Int) != 32)=true) (h1:((s[1].toNat:Int) != 32)=true) (hc:Lib.contains wG (s.data.toList.take 2)=false)
theorem aK7(s:ByteArray)(w:World)(he:Env w)(h2:0<s.size)(hn:aH1 s)(hb:0 <= Lib.indexByte dW s[0]):
  Calls prog 218 #[.string s] w λe w'=>e=.returned (aE9 s 1) /\ Below w.heap.size w w':=by
 have hx:=pY s 1
 cases hn
 all_goals
  go_enter func218,Tryz.ntmps218
  go_wp2_with (first|(go_at_call 256;refine (nT _ _ (he.alloc _)).mono ?_;rintro e w' ⟨rfl,rfl⟩)|(go_at_call 213;refine (oD _ _).mono ?_;rintro e w' ⟨rfl,rfl⟩))
  go_returns
  exact ⟨Y,B8⟩
theorem aKr(s:ByteArray)(w:World)(he:Env w)(h2:0<s.size)(hn:aH1 s)(hb:Lib.indexByte dW s[0]<0):
  Calls prog 218 #[.string s] w λe w'=>e=.returned (aE9 s 0) /\ Below w.heap.size w w':=by
 have hx:=pY s 1
 cases hn
 all_goals
  go_enter func218,Tryz.ntmps218
  go_wp2_with (first|(go_at_call 256;refine (nT _ _ (he.alloc _)).mono ?_;rintro e w' ⟨rfl,rfl⟩)|(go_at_call 213;refine (oD _ _).mono ?_;rintro e w' ⟨rfl,rfl⟩))
  go_returns
  exact ⟨Y,B8⟩
theorem aHm(c:UInt8):(c≠32 -> ((c.toNat:Int) != 32)=true) /\ (c=32 -> ((c.toNat:Int) != 32)=false):=by
 refine ⟨λh=>?_,λh=>by subst h;rfl⟩
 simp only [bne_iff_ne,ne_eq]
 intro h3;apply h;apply UInt8.toNat_inj.1;show c.toNat=32;omega
theorem aLp(s:ByteArray)(w:World)(he:Env w)(h0:0<s.size):
  Calls prog 218 #[.string s] w λe w'=>e=.returned (aE9 s (jE s.data.toList)) /\ Below w.heap.size w w':=by
 have hl:s.data.toList.length=s.size:=Y
 have hcons:=dR s.data.toList 0 J
 rw [List.drop_zero] at hcons
 have key:aH1 s /\ ¬(2 <= s.data.toList.length /\ s.data.toList.take 2∈fE) -> Calls prog 218 #[.string s] w λe w'=>e=.returned (aE9 s (jE s.data.toList)) /\ Below w.heap.size w w':=by
  rintro ⟨hn,hm⟩
  by_cases hb:Lib.indexByte dW s[0]<0
  ·have:=(vL _).1 hb
   rw [show jE s.data.toList=0 from by rw [hcons] at hm⊢;exact tL hm this]
   exact aKr s w he h0 hn hb
  have:s[0]∈dW:=Classical.byContradiction λh=>hb ((vL _).2 h)
  rw [show jE s.data.toList=1 from by rw [hcons] at hm⊢;exact oR hm this]
  exact aK7 s w he h0 hn J
 by_cases h2:1<s.size
 ·have e2:s.data.toList.take 2=[s[0],s[1]]:=by
   rw [hcons,dR s.data.toList 1 J];rfl
  by_cases ha:s[0]=32
  ·refine key ⟨.first J h0 ((aHm _).2 ha),λh=>?_⟩
   rw [e2] at h;exact (rK _ _ h.2).1 ha
  by_cases hb:s[1]=32
  ·refine key ⟨.second J h2 ((aHm _).1 ha) ((aHm _).2 hb),λh=>?_⟩
   rw [e2] at h;exact (rK _ _ h.2).2 hb
  by_cases hc:Lib.contains wG (s.data.toList.take 2)=true
  ·have hm:s.data.toList.take 2∈fE:=by rw [e2] at hc⊢;exact (aBy _ _ ha hb).1 hc
   rw [pA J hm]
   have h3:=(aHm _).1 ha
   have h4:=(aHm _).1 hb
   exact aLh s w he h2 (by simp at h3⊢;exact h3) (by simp at h4⊢;exact h4) hc
  refine key ⟨.other J h2 ((aHm _).1 ha) ((aHm _).1 hb) (by simpa using hc),λh=>hc ?_⟩
  have hm:=h.2
  rw [e2] at hm⊢;exact (aBy _ _ ha hb).2 hm
 ·exact key ⟨.short J,by rintro ⟨h,_⟩;omega⟩
theorem tF{W w1:World}(hb:Below W.heap.size W w1):(∀b o,b<W.heap.size -> w1.cell? ⟨b,o,none⟩=W.cell? ⟨b,o,none⟩) /\ (∀b o,b<W.heap.size -> w1.frozen? ⟨b,o,none⟩=W.frozen? ⟨b,o,none⟩):=
 ⟨λb o h=>hb.cell (p:=⟨b,o,none⟩) h,λb o h=>hb.frozen (p:=⟨b,o,none⟩) h⟩
def aLn(l:List UInt8)(k num er:Int)(text:ByteArray):Prop:=
 (∃n:Nat,dQ l=.err n /\ er=n /\ n≠0)∨(∃kd len nu:Nat,dQ l=.tok kd len nu /\ er=0 /\ k=kd /\ num=nu /\ text=bytes (l.take len))
def aI3(l:List UInt8)(e:Ending):Prop:=∃(k num er:Int) (text:ByteArray),e=.returned (.tuple #[.agg #[.int .i64 k,.string text,.int .i64 num,.int .i64 0],.int .i64 er]) /\ aLn l k num er text
theorem takeWhile_take{α:Type}(p:α -> Bool)(l:List α):l.take (l.takeWhile p).length=l.takeWhile p:=
 (List.prefix_iff_eq_take.1 (List.takeWhile_prefix p)).symm
theorem kS(s:ByteArray)(h0:0<s.size):s.data.toList=s[0]::s.data.toList.drop 1:=by
 have:=dR s.data.toList 0 (by exact h0)
 rw [List.drop_zero] at this;exact this
theorem aKk(s:ByteArray)(w:World)(hs:s.size <= 9223372036854775807)(he:Env w)(h0:0<s.size)(hl:fU s[0]=true):
  Calls prog 215 #[.string s] w λe w'=>aI3 s.data.toList e /\ Below w.heap.size w w':=by
 refine (aMr s w hs he).mono λe w' ⟨h,hb⟩=>⟨⟨_,_,_,_,h,?_⟩,hb⟩
 have hn:=kK (c:=s[0]) (r:=s.data.toList.drop 1) hl
 rw [←kS s h0] at hn
 by_cases h16:16<(s.data.toList.takeWhile cT).length
 ·rw [if_pos h16] at hn;exact .inl ⟨3,hn,by rw [if_pos h16],J⟩
 rw [if_neg h16] at hn;exact .inr ⟨_,_,_,hn,by rw [if_neg h16];rfl,rfl,rfl,by rw [takeWhile_take]⟩
theorem aEz(s:ByteArray)(w:World)(hs:s.size <= 9223372036854775807)(h0:0<s.size)(hl:fU s[0]=false)(hd:cD s[0]=true):
  Calls prog 217 #[.string s] w λe w'=>aI3 s.data.toList e /\ Below w.heap.size w w':=by
 refine (aHi s w hs).mono λe w' ⟨h,hb⟩=>⟨?_,hb⟩
 obtain ⟨n,_,⟨hn,h⟩|⟨hn,h⟩⟩:=h
 ·refine ⟨_,_,_,_,h,.inl ⟨2,?_,Y,J⟩⟩
  rw [jR] at hn
  rw [kS s h0] at hn;have hq:=nK hl hd hn;rw [←kS s h0] at hq;exact hq
 refine ⟨_,_,_,_,h,.inr ⟨2,(s.data.toList.takeWhile cD).length,n,?_,Y,Y,Y,by rw [takeWhile_take]⟩⟩
 rw [jR] at hn
 rw [kS s h0] at hn;have hq:=lP hl hd hn;rw [←kS s h0] at hq;exact hq
theorem aJ5(s:ByteArray)(w:World)(he:Env w)(h0:0<s.size)(hl:fU s[0]=false)(hd:cD s[0]=false):
  Calls prog 218 #[.string s] w λe w'=>aI3 s.data.toList e /\ Below w.heap.size w w':=by
 refine (aLp s w he h0).mono λe w' ⟨h,hb⟩=>⟨?_,hb⟩
 have hn:=iN (c:=s[0]) (r:=s.data.toList.drop 1) hl hd
 rw [←kS s h0] at hn
 by_cases hz:jE s.data.toList=0
 ·rw [if_pos hz] at hn
  rw [hz] at h;exact ⟨_,_,_,_,h,.inl ⟨1,hn,rfl,J⟩⟩
 rw [if_neg hz] at hn
 refine ⟨_,_,_,_,h,.inr ⟨_,_,_,hn,by rw [if_neg hz],by rw [if_neg hz];rfl,Y,Y⟩⟩
theorem aAf(s:ByteArray)(w:World)(hs:s.size <= 9223372036854775807)(he:Env w)(h0:0<s.size):
  Calls prog 169 #[.string s] w λe w'=>aI3 s.data.toList e /\ Below w.heap.size w w':=by
 by_cases hl:fU s[0]=true
 focus
  go_enter func169,Tryz.ntmps169
  go_wp2_with (first|(go_at_call 214;refine (qG _ _).mono ?_;rintro e w' ⟨rfl,rfl⟩)|(go_at_call 215;refine (aKk _ _ hs (he.alloc _) h0 hl).mono ?_;rintro e w' ⟨⟨k,num,er,text,rfl,hR⟩,hb⟩;have HR:=Lib.hid hR;clear hR;obtain ⟨hc,hf⟩:=tF hb))
 rotate_left
 focus
  have hl':fU s[0]=false:=Dm
  clear hl
  by_cases hd:cD s[0]=true
  focus
   go_enter func169,Tryz.ntmps169
   go_wp2_with (first|(go_at_call 214;refine (qG _ _).mono ?_;rintro e w' ⟨rfl,rfl⟩)|(go_at_call 216;refine (oV _ _).mono ?_;rintro e w' ⟨rfl,rfl⟩)|(go_at_call 217;refine (aEz _ _ hs h0 hl' hd).mono ?_;rintro e w' ⟨⟨k,num,er,text,rfl,hR⟩,hb⟩;have HR:=Lib.hid hR;clear hR;obtain ⟨hc,hf⟩:=tF hb))
  rotate_left
  have hd':cD s[0]=false:=by simpa using hd
  clear hd
  go_enter func169,Tryz.ntmps169
  go_wp2_with (first|(go_at_call 214;refine (qG _ _).mono ?_;rintro e w' ⟨rfl,rfl⟩)|(go_at_call 216;refine (oV _ _).mono ?_;rintro e w' ⟨rfl,rfl⟩)|(go_at_call 218;refine (aJ5 _ _ (he.alloc _) h0 hl' hd').mono ?_;rintro e w' ⟨⟨k,num,er,text,rfl,hR⟩,hb⟩;have HR:=Lib.hid hR;clear hR;obtain ⟨hc,hf⟩:=tF hb))
 all_goals
  refine bodyPost_ret (v:=.tuple #[.agg #[.int .i64 k,.string text,.int .i64 num,.int .i64 0],.int .i64 er]) (by simp [results,Tryz.results169,go_sem,hc]) Y ?_
  exact ⟨⟨_,_,_,_,Y,HR.out⟩,((((Below.refl _ _).alloc (Nat.le_refl _) _).trans (hb.mono G0)).setCell G0 _).setCell G0 _|>.setCell G0 _|>.setCell G0 _⟩
def Tok.cells(t:Tok):List Value:=[.int .i64 t.kind,.string t.text,.int .i64 t.num,.int .i64 t.pos]
def dL(l:List Tok):List Value:=l.flatMap Tok.cells
theorem eP(l:List Tok)(t:Tok):dL l++[.int .i64 t.kind,.string t.text,.int .i64 t.num,.int .i64 t.pos]=dL (l++[t]):=by simp [dL,Tok.cells]
theorem aI5:(prog.info? 199).map (λi=>(i.zero,i.size,i.bytes))=some (some (.agg #[.int .i64 0,.string ⟨#[]⟩,.int .i64 0,.int .i64 0]),4,40):=B6
theorem aKq{l:List UInt8}{k num er:Int}{text:ByteArray}{n:Nat}(h:aLn l k num er text)(hn:dQ l=.err n):er=n /\ (n:Int)≠0:=by
 rcases h with ⟨m,h1,h2,h3⟩|⟨_,_,_,h1,_⟩
 ·rw [hn] at h1;cases h1;exact ⟨h2,J⟩
 rw [hn] at h1;cases h1
theorem aBq{l:List UInt8}{k num er:Int}{text:ByteArray}{a b c:Nat}(h:aLn l k num er text)(hn:dQ l=.tok a b c):er=0 /\ k=a /\ num=c /\ text=bytes (l.take b):=by
 rcases h with ⟨m,h1,h2,h3⟩|⟨_,_,_,h1,h2,h3,h4,h5⟩
 ·rw [hn] at h1;cases h1
 rw [hn] at h1;cases h1;exact ⟨h2,h3,h4,h5⟩
def aY0(w:World)(s:List UInt8)(v:Value)(pos er:Int):Prop:=
 (∃l,iH s=.ok l /\ dD w v l.length (dL l) /\ pos=s.length /\ er=0 /\ l.length <= 4001)∨(∃p e:Nat,iH s=.err p e /\ v=.slice none 0 0 /\ pos=p /\ er=e /\ e≠0)
def aCp(w:World)(N:Nat)(s:List UInt8)(v:Value)(pos er:Int):Prop:=
 (∃l,iH s=.ok l /\ w.ownsRow N 199 4 v l.length (dL l) /\ pos=s.length /\ er=0 /\ l.length <= 4001)∨(∃p e:Nat,iH s=.err p e /\ v=.slice none 0 0 /\ pos=p /\ er=e /\ e≠0)
theorem aCp.r{w:World}{N:Nat}{s:List UInt8}{v:Value}{pos er:Int}(h:aCp w N s v pos er):aY0 w s v pos er:=
 h.imp (λ⟨l,h1,h2,h3⟩=>⟨l,h1,dD.of_owns h2,h3⟩) id
theorem aK5(a:Option Addr)(n cap:Nat)(w:World)(hs:(262144:Int)<n):
  Calls prog 127 #[.slice a n cap] w λe w'=>e=.returned (.tuple #[.slice none 0 0,.int .i64 262144,.int .i64 3]) /\ w=w':=by
 go_enter func127,Tryz.ntmps127
 go_wp2_with fail
 go_step3
 go_wp2_with fail
 rw [Exit.noGoto_ret]
 go_ret3
 exact ⟨Y,Y⟩
theorem aOw(s:ByteArray)(a:Option Addr)(n cap:Nat)(w:World)(he:Env w)(hn:n=s.size)(hs:s.size <= 262144)
  (hcv:(convert 99 9 (.slice a n cap)).run prog w=.ok (.string s) w):
  Calls prog 127 #[.slice a n cap] w λe w'=>(∃v pos er,e=.returned (.tuple #[v,.int .i64 pos,.int .i64 er]) /\ aCp w' w.heap.size s.data.toList v pos er) /\ Below w.heap.size w w':=by
 subst hn
 obtain ⟨i0,hi,hz0,hz1,hz2⟩:=info_parts aI5
 have HS:=Lib.hid (show s.data.toList.length=s.size from Y)
 go_enter func127,Tryz.ntmps127
 go_wp2_with fail
 go_step3
 go_wp2_with fail
 go_step3
 go_wp2_with fail
 go_loopw [6,7] (λv at_ wr=>∃(k:Nat) (toks:List Tok),at_=.int .i64 k /\ k <= s.size /\ wr.ownsRow w.heap.size 199 4 v toks.length (dL toks) /\ kD s.data.toList 0 0=fX.app toks (kD s.data.toList k toks.length) /\ toks.length <= 4000 /\ Below w.heap.size w wr) (λ_ at_ _=>s.size-(intOf at_).toNat)
 case atStart=>exact ⟨0,[],rfl,J,ownsRow_nil _ _ _ _,by rw [fX.app_nil];rfl,G0,Below.refl _ _⟩
 case round=>
  obtain ⟨k,toks,rfl,hk,hown,hlx,hlen,hbel⟩:=hrel
  have heW:Env wr:=he.below hbel he.size
  obtain ⟨oa,oc,rfl⟩:=lR hown
  have hge:=lG s.data.toList k hk
  have HLX:=Lib.hid hlx
  clear hlx hcv
  by_cases hend:s.size <= bF s.data.toList k
  ·go_wp2_with (first|(go_at_call 168;refine (uH _ _ _ J hk).mono ?_;rintro e w' ⟨rfl,rfl⟩)|(at_builtin;refine wpList_append_own _ rfl _ _ 178 rfl w.heap.size 199 i0 _ 4 40 underlying178 hi hz0 hz1 hz2 rfl V _ toks.length (dL toks) rfl (ownsRow_below hown ((Below.refl _ _).alloc (Nat.le_refl _) _) (Nat.le_refl _)) ⟨wr.heap.size,0,none⟩ 1 1 [.int .i64 5,.string ⟨#[]⟩,.int .i64 0,.int .i64 s.size] rfl rfl (sK _ _ _) Bz B1 J Df ?_))
   intro v' w1 hown1 hgrow _
   have hb1:Below w.heap.size w w1:=Below.grow (hbel.alloc hbel.size _) hgrow Df (ownsRow_below hown ((Below.refl _ _).alloc (Nat.le_refl _) _) (Nat.le_refl _)) (Nat.le_refl _)
   clear hgrow
   go_wp2_with fail
   rw [Exit.noGoto_ret]
   go_ret3
   refine ⟨⟨_,_,_,Y,.inl ⟨toks++[⟨5,⟨#[]⟩,0,s.size⟩],?_,?_,by rw [HS.out],Y,DR⟩⟩,hb1⟩
   ·unfold iH
    rw [if_neg Fl,HLX.out,mX (by rw [HS.out];exact hend),HS.out];rfl
   have:=hown1
   rw [←eP];simpa using this
  have hlt:bF s.data.toList k<s.size:=J
  have hx:s.extract (bF s.data.toList k) s.size=bytes (s.data.toList.drop (bF s.data.toList k)):=by
   have:=ByteArray.extract_mk s.data.toList (bF s.data.toList k) s.size
   rw [show (ByteArray.mk s.data.toList.toArray)=s from by simp] at this
   rw [this,bytes];congr 2;exact take_of_length_le (by rw [List.length_drop,HS.out];omega)
  have hsz:(bytes (s.data.toList.drop (bF s.data.toList k))).size=s.size-bF s.data.toList k:=by rw [bytes];show (List.drop _ _).toArray.size=_;rw [List.size_toArray,List.length_drop,HS.out]
  have HZ:=Lib.hid hsz
  have hbd:=jR (s.data.toList.drop (bF s.data.toList k))
  have HD:=Lib.hid hbd
  clear hsz hbd
  cases hnx:dQ (s.data.toList.drop (bF s.data.toList k)) with
  |err en=>
   have HN:=Lib.hid hnx
   clear hnx
   go_wp2_with (first|(go_at_call 168;refine (uH _ _ _ J hk).mono ?_;rintro e w' ⟨rfl,rfl⟩)|(go_at_call 169;refine (aAf _ _ Cx heW Cx).mono ?_;rintro e w1 ⟨⟨kd,num,er,text,rfl,hR⟩,hb⟩;rw [HD.out] at hR;obtain ⟨rfl,hne⟩:=aKq hR HN.out;clear hR;obtain ⟨hc,hf⟩:=tF hb))
   rw [Exit.noGoto_ret]
   go_ret3
   refine ⟨⟨_,_,_,Y,.inr ⟨bF s.data.toList k,en,?_,Y,Y,Y,J⟩⟩,(hbel.trans (hb.mono hbel.size)).alloc (Nat.le_trans hbel.size hb.size) _⟩
   unfold iH
   rw [if_neg Fl,HLX.out,uY E4 HN.out];rfl
  |tok nk len nu=>
   have hl1:=mS (by intro h;have:=congrArg List.length h;rw [List.length_drop,HS.out] at this;simp at this;omega) hnx
   rw [List.length_drop,HS.out] at hl1
   have HN:=Lib.hid hnx
   clear hnx
   have htx:(bytes ((s.data.toList.drop (bF s.data.toList k)).take len)).size=len:=by
    rw [bytes];show (List.take _ _).toArray.size=_;rw [List.size_toArray,List.length_take,List.length_drop,HS.out];omega
   by_cases hfull:toks.length=4000
   ·have hf1:((toks.length:Int) == 4000)=true:=EQ
    have HF:=Lib.hid hfull
    clear hfull htx
    go_wp2_with (first|(go_at_call 168;refine (uH _ _ _ J hk).mono ?_;rintro e w' ⟨rfl,rfl⟩)|(go_at_call 169;refine (aAf _ _ Cx heW Cx).mono ?_;rintro e w1 ⟨⟨kd,num,er,text,rfl,hR⟩,hb⟩;rw [HD.out] at hR;obtain ⟨rfl,rfl,rfl,rfl⟩:=aBq hR HN.out;clear hR;obtain ⟨hc,hf⟩:=tF hb))
    rw [Exit.noGoto_ret]
    go_ret3
    refine ⟨⟨_,_,_,Y,.inr ⟨bF s.data.toList k,3,?_,Y,Y,Y,J⟩⟩,(hbel.trans (hb.mono hbel.size)).alloc (Nat.le_trans hbel.size hb.size) _⟩
    unfold iH
    rw [if_neg Fl,HLX.out,HF.out,sG E4 HN.out];rfl
   have hf1:((toks.length:Int) == 4000)=false:=DG
   have HF:=Lib.hid hfull
   have hlen2:toks.length<4000:=J
   clear hfull
   go_wp2_with (first|(go_at_call 168;refine (uH _ _ _ J hk).mono ?_;rintro e w' ⟨rfl,rfl⟩)|(go_at_call 169;refine (aAf _ _ Cx heW Cx).mono ?_;rintro e w1 ⟨⟨kd,num,er,text,rfl,hR⟩,hb⟩;rw [HD.out] at hR;obtain ⟨rfl,rfl,rfl,rfl⟩:=aBq hR HN.out;clear hR;obtain ⟨hc,hf⟩:=tF hb)|(at_builtin;refine wpList_append_own _ rfl _ _ 178 rfl w.heap.size 199 i0 _ 4 40 underlying178 hi hz0 hz1 hz2 rfl V _ toks.length (dL toks) rfl (ownsRow_below hown ((hb.alloc hb.size _).alloc (by have:=hb.size;simp;omega) _) (Nat.le_refl _)) ⟨w1.heap.size+1,0,none⟩ 1 1 [.int .i64 nk,.string (bytes ((s.data.toList.drop (bF s.data.toList k)).take len)),.int .i64 nu,.int .i64 (bF s.data.toList k)] rfl rfl (bXs _ _ _ _ G0) Bz B1 J CX ?_))
   intro v' w2 hown2 hgrow _
   have hb2:Below w.heap.size w w2:=Below.grow (((hbel.trans (hb.mono hbel.size)).alloc (Nat.le_trans hbel.size hb.size) _).alloc CX _) hgrow CX (ownsRow_below hown ((hb.alloc hb.size _).alloc (by have:=hb.size;simp;omega) _) (Nat.le_refl _)) (Nat.le_refl _)
   have hcw:∀o,w2.cell? ⟨w1.heap.size,o,none⟩=((w1.alloc (Obj.cells #[.int .i64 nk,.string (bytes ((s.data.toList.drop (bF s.data.toList k)).take len)),.int .i64 nu,.int .i64 (bF s.data.toList k)] 199)).cell? ⟨w1.heap.size,o,none⟩):=by
    intro o
    rw [aKa hgrow hown hb.size DR o]
    exact (Below.alloc (B:=(w1.alloc (Obj.cells #[.int .i64 nk,.string (bytes ((s.data.toList.drop (bF s.data.toList k)).take len)),.int .i64 nu,.int .i64 (bF s.data.toList k)] 199)).heap.size) (Below.refl _ _) (Nat.le_refl _) _).cell (p:=⟨w1.heap.size,o,none⟩) G0
   clear hgrow
   go_wp2_with fail
   go_roundw
   case rel=>
    refine ⟨bF s.data.toList k+len,toks++[⟨nk,bytes ((s.data.toList.drop (bF s.data.toList k)).take len),nu,bF s.data.toList k⟩],C8,J,?_,?_,DR,hb2⟩
    ·rw [←eP];simpa using hown2
    rw [HLX.out,nD (by rw [HS.out];exact hk) E4 HN.out HF.out,fX.app_cons];simp
   case measure=>simp [intOf];omega
theorem aN1(a:Option Addr)(n cap:Nat)(w:World)(s:List UInt8)(hn:n=s.length)(hs:262144<n):
  Calls prog 127 #[.slice a n cap] w λe w'=>(∃v pos er,e=.returned (.tuple #[v,.int .i64 pos,.int .i64 er]) /\ aCp w' w.heap.size s v pos er) /\ Below w.heap.size w w':=by
 refine (aK5 a n cap w J).mono λe w' ⟨h,hw⟩=>?_
 subst hw
 refine ⟨⟨_,_,_,h,.inr ⟨262144,3,?_,Y,Y,Y,J⟩⟩,Below.refl _ _⟩
 unfold iH;rw [if_pos J]
theorem aOn(s:List UInt8)(v:Value)(w:World)(he:Env w)(hv:dD w v s.length (s.map λc=>.int .u8 c.toNat)):
  Calls prog 127 #[v] w λe w'=>(∃v pos er,e=.returned (.tuple #[v,.int .i64 pos,.int .i64 er]) /\ aCp w' w.heap.size s v pos er) /\ Below w.heap.size w w':=by
 obtain ⟨a,cap,rfl,hc,hcells⟩:=hv
 by_cases hs:262144<s.length
 ·exact aN1 a _ cap w s Y hs
 have hconv:(convert 99 9 (.slice a s.length cap)).run prog w=.ok (.string (bytes s)) w:=by
  rcases hcells with h0|⟨b,off,rfl,hr⟩
  ·obtain rfl:s=[]:=by simpa using h0
   cases a with
   |none=>exact run_convert_bytes_nil w _ _ underlying99 underlying5 _ _ _ underlying9
   |some a=>
    have hl:=run_loadCells_list (P:=prog) w a [] Fc
    rw [run_convert_bytes_string w _ _ _ _ _ _ underlying99 underlying5 underlying9,length_nil,run_bytesToString w a 0 cap [] Dm]
    rfl
  rw [run_convert_bytes_arg w _ _ underlying99 underlying5 b off s.length cap (s.map λc=>(c.toNat:Int)) G0 ?_ _ underlying9]
  ·rw [strOfNums,List.map_map,bytes];congr 3;rw [show ((λn:Int=>UInt8.ofNat n.toNat) ∘ λc:UInt8=>(c.toNat:Int))=id from by funext c;simp];simp
  intro i hi
  rw [hr i (.int .u8 s[i].toNat) (by simp [hi])];simp [hi]
 have:=aOw (bytes s) a s.length cap w he Co (by show (List.toArray s).size <= _;rw [List.size_toArray];omega) hconv
 rw [jR] at this;exact this
def cC(s:List UInt8):List Value:=s.map λc=>.int .u8 c.toNat
theorem ByteRow.cell{w:World}{b off:Nat}{s:List UInt8}(h:∀j u,(cC s)[j]?=some u -> w.cell? ⟨b,off+j,none⟩=some u)(k:Nat)(hk:k<s.length):w.cell? ⟨b,off+k,none⟩=some (.int .u8 s[k].toNat):=
 h k _ (by simp [cC,hk])
theorem eL(c:UInt8)(w:World):
  Calls prog 130 #[.int .u8 c.toNat] w λe w'=>e=.returned (.bool (fU c)) /\ w=w':=by
 unfold fU
 generalize (c.toNat:Int)=n
 go_enter func130,Tryz.ntmps130
 go_wp2
 all_goals (go_ret;refine ⟨kB ?_,rfl⟩;simp;try omega)
theorem fJ(c:UInt8)(w:World):
  Calls prog 131 #[.int .u8 c.toNat] w λe w'=>e=.returned (.bool (cD c)) /\ w=w':=by
 unfold cD
 generalize (c.toNat:Int)=n
 go_enter func131,Tryz.ntmps131
 go_wp2
 all_goals (go_ret;refine ⟨kB ?_,rfl⟩;simp;try omega)
theorem aAx(zs:List ByteArray)(x:ByteArray)(k:Nat)(hk:k<zs.length)(h:x∈zs↔x∈zs.drop k):(zs[k]=x -> x∈zs) /\ (zs[k]≠x -> (x∈zs↔x∈zs.drop (k+1))):=by
 refine ⟨λe=>e▸getElem_mem hk,λe=>?_⟩
 rw [h,List.drop_eq_getElem_cons hk,mem_cons]
 exact ⟨λh=>h.resolve_left (λe'=>e e'.symm),.inr⟩
theorem aDm(zs:List ByteArray)(x:ByteArray)(v:Value)(w:World)(hv:dD w v zs.length (zs.map .string))(hn:zs.length <= 9223372036854775807):
  Calls prog 179 #[v,.string x] w λe w'=>e=.returned (.bool (zs.any λy=>decide (y=x))) /\ w=w':=by
 obtain ⟨a,cap,rfl,hc,hr⟩:=hv
 go_enter func179,Tryz.ntmps179
 go_wp2_with fail
 go_loop [5] (λv=>∃k:Nat,k <= zs.length /\ v=.int .i64 k /\ (x∈zs↔x∈zs.drop k)) (λv=>zs.length-(intOf v).toNat)
 case atStart=>exact ⟨0,J,rfl,G0⟩
 case round=>
  obtain ⟨k,hk,rfl,hm⟩:=hrel
  have HM:=Lib.hid hm
  clear hm
  by_cases hlt:k<zs.length
  ·rcases hr with h0|⟨b,off,rfl,hr⟩
   ·have:zs.length=0:=by simpa using congrArg List.length h0
    omega
   have hcell:=hr k (.string zs[k]) (by simp [hlt])
   clear hr
   have hst:=aAx zs x k hlt HM.out
   have HST:=Lib.hid hst
   clear hst
   by_cases he:zs[k]=x
   ·have hm:=HST.out.1 he
    have HM2:=Lib.hid hm
    clear hm
    have hq:=zZ he
    clear he
    go_wp2_with fail
    go_ret
    refine ⟨kB ?_,Y⟩
    simp [HM2.out]
   have hq:=xB he
   have HE:=Lib.hid he
   clear he
   go_wp2_with fail
   go_round
   case rel=>exact ⟨k+1,J,C8,HST.out.2 HE.out⟩
   case measure=>simp [intOf];omega
  clear hr
  go_wp2_with fail
  go_ret
  refine ⟨kB ?_,Y⟩
  have:x∉zs:=by rw [HM.out,List.drop_eq_nil_of_le J];simp
  simp [this]
theorem oN(s:ByteArray)(w:World):
  Calls prog 132 #[.string s] w λe w'=>e=.returned (.bool (dA s)) /\ Below w.heap.size w w':=by
 go_enter func132,Tryz.ntmps132
 go_wp2_with (first|(go_at_call 179;refine (aDm words _ _ _ (dD.new w (words.map .string) 9 11) V).mono ?_;rintro e w' ⟨rfl,rfl⟩))
 go_ret
 exact ⟨Y,B8⟩
theorem aK0(s:List UInt8)(k0:Nat)(v:Value)(w:World)(hv:dD w v s.length (cC s))(hs:s.length <= 1000000)(hk:k0 <= s.length):
  Calls prog 137 #[v,.int .i64 k0] w λe w'=>e=.returned (.int .i64 (bF s k0)) /\ w=w':=by
 obtain ⟨a,cap,rfl,hc,hr⟩:=hv
 go_enter func137,Tryz.ntmps137
 go_wp2_with fail
 go_loop [1] (λv=>∃k:Nat,k <= s.length /\ v=.int .i64 k /\ bF s k=bF s k0) (λv=>s.length-(intOf v).toNat)
 case atStart=>exact ⟨k0,hk,rfl,rfl⟩
 case round=>
  obtain ⟨k,hk,rfl,hm⟩:=hrel
  have HM:=Lib.hid hm
  clear hm
  by_cases hlt:k<s.length
  ·rcases hr with h0|⟨b,off,rfl,hr⟩
   ·have:s.length=0:=CY
    omega
   have hcell:=ByteRow.cell hr k hlt
   have HR:=Lib.hid hr
   clear hr
   cases hsp:isSp s[k] with
   |true=>
    have hn:=aGh s k hlt hsp
    have HN:=Lib.hid hn
    simp only [isSp,decide_eq_true_eq] at hsp
    clear hn
    rcases hsp with h|h|h|h
    ·have e32:((s[k].toNat:Int) == 32)=true:=C7
     clear h
     go_wp2_with fail
     go_round
     case rel=>exact ⟨k+1,J,C8,HN.out.trans HM.out⟩
     case measure=>simp [intOf];omega
    ·have e32:((s[k].toNat:Int) == 32)=false:=C7
     have e9:((s[k].toNat:Int) == 9)=true:=C7
     clear h
     go_wp2_with fail
     go_round
     case rel=>exact ⟨k+1,J,C8,HN.out.trans HM.out⟩
     case measure=>simp [intOf];omega
    ·have e32:((s[k].toNat:Int) == 32)=false:=C7
     have e9:((s[k].toNat:Int) == 9)=false:=C7
     have e10:((s[k].toNat:Int) == 10)=false:=C7
     have e13:((s[k].toNat:Int) == 13)=true:=C7
     clear h
     go_wp2_with fail
     go_round
     case rel=>exact ⟨k+1,J,C8,HN.out.trans HM.out⟩
     case measure=>simp [intOf];omega
    ·have e32:((s[k].toNat:Int) == 32)=false:=C7
     have e9:((s[k].toNat:Int) == 9)=false:=C7
     have e10:((s[k].toNat:Int) == 10)=true:=C7
     clear h
     go_wp2_with fail
     go_round
     case rel=>exact ⟨k+1,J,C8,HN.out.trans HM.out⟩
     case measure=>simp [intOf];omega
   |false=>
    have HP:=Lib.hid hsp
    simp only [isSp,decide_eq_false_iff_not,not_or] at hsp
    have f1:((s[k].toNat:Int) == 32)=false:=by rw [beq_eq_false_iff_ne];exact hsp.1
    have f2:((s[k].toNat:Int) == 9)=false:=by rw [beq_eq_false_iff_ne];exact hsp.2.1
    have f3:((s[k].toNat:Int) == 13)=false:=by rw [beq_eq_false_iff_ne];exact hsp.2.2.1
    have f4:((s[k].toNat:Int) == 10)=false:=by rw [beq_eq_false_iff_ne];exact hsp.2.2.2
    clear hsp
    have stop:¬(∃h2:k+1<s.length,s[k]=47 /\ s[k+1]=47) -> bF s k0=k:=λh=>by rw [←HM.out];exact zX s k hlt HP.out (aGs hlt h)
    have STOP:=Lib.hid stop
    clear stop
    by_cases h1:s.length <= k+1
    ·have g1:(s.length:Int) <= k+1:=J
     have hst:=STOP.out (by rintro ⟨h,_⟩;omega)
     have HST:=Lib.hid hst
     clear hst h1
     go_wp2_with fail
     go_ret
     exact ⟨gG (by rw [HST.out]),Y⟩
    have g1:(k:Int)+1<s.length:=J
    have h1':k+1<s.length:=J
    clear h1
    by_cases h2:s[k]=47
    ·have g2:=((aJ1 s[k] 47 47 Y J).1 h2).1
     have hcell2:=ByteRow.cell HR.out (k+1) h1'
     have hcell3:=hcell2
     rw [←Nat.add_assoc] at hcell3
     by_cases h3:s[k+1]=47
     ·have g3:=((aJ1 s[k+1] 47 47 Y J).1 h3).1
      have H2:=Lib.hid h2
      have H3:=Lib.hid h3
      clear h2 h3
      go_wp2_with fail
      go_hide hQ
      go_loop [1] (λv=>∃j:Nat,k <= j /\ j <= s.length /\ v=.int .i64 j /\ (s.drop k).dropWhile (·!= 10)=(s.drop j).dropWhile (·!= 10)) (λv=>s.length-(intOf v).toNat)
      case atStart=>exact ⟨k,J,J,rfl,rfl⟩
      case round=>
       obtain ⟨j,hkj,hj,rfl,hd⟩:=hrel
       have HD:=Lib.hid hd
       clear hd hcell2 hcell3 hcell
       have fin:(s.drop k).dropWhile (·!= 10)=s.drop j -> bF s j=bF s k0:=λh=>(aHj s k j h1' H2.out H3.out h).trans HM.out
       have FIN:=Lib.hid fin
       clear fin
       by_cases hje:j<s.length
       ·have hcell:=ByteRow.cell HR.out j hje
        have hst:=aK3 s k j hje HD.out
        have HST:=Lib.hid hst
        clear hst
        by_cases h10:s[j]=10
        ·have e10:=((aJ1 s[j] 10 10 Y J).1 h10).2
         have hfin:=FIN.out (HST.out.1 h10)
         have hne:k≠j:=by rintro rfl;rw [H2.out] at h10;exact absurd h10 V
         have HF:=Lib.hid hfin
         clear hfin h10
         go_wp2_with fail
         subst hQ
         go_wp2_with fail
         go_round
         case rel=>exact ⟨j,J,rfl,HF.out⟩
         case measure=>simp [intOf];omega
        have e10:=((aJ1 s[j] 10 10 Y J).2 h10).2
        have hnx:=HST.out.2 h10
        have HNX:=Lib.hid hnx
        clear hnx h10
        go_wp2_with fail
        go_round
        case rel=>exact ⟨j+1,J,J,C8,HNX.out⟩
        case measure=>simp [intOf];omega
       have hfin:=FIN.out (by rw [HD.out,List.drop_eq_nil_of_le J];rfl)
       have HF:=Lib.hid hfin
       clear hfin
       go_wp2_with fail
       subst hQ
       go_wp2_with fail
       go_round
       case rel=>exact ⟨j,J,rfl,HF.out⟩
       case measure=>simp [intOf];omega
     have g3:=((aJ1 s[k+1] 47 47 Y J).2 h3).1
     have hst:=STOP.out (by rintro ⟨_,_,h⟩;exact h3 h)
     have HST:=Lib.hid hst
     clear hst h2 h3
     go_wp2_with fail
     go_ret
     exact ⟨gG (by rw [HST.out]),Y⟩
    have g2:=((aJ1 s[k] 47 47 Y J).2 h2).1
    have hst:=STOP.out (by rintro ⟨_,h,_⟩;exact h2 h)
    have HST:=Lib.hid hst
    clear hst h2
    go_wp2_with fail
    go_ret
    exact ⟨gG (by rw [HST.out]),Y⟩
  clear hr
  go_wp2_with fail
  go_ret
  exact ⟨gG (by rw [←HM.out,aA5 _ _ J];omega),Y⟩
theorem aHa(t:List UInt8)(k n:Nat)(hk:k<t.length)(h:iT 0 t=iT n (t.drop k)):
  ((9223372036854775807-(t[k].toNat-48))/10<n -> iT 0 t=none) /\ (¬(9223372036854775807-(t[k].toNat-48))/10<n -> iT 0 t=iT (10*n+(t[k].toNat-48)) (t.drop (k+1))):=by
 rw [dR _ k hk,iT] at h
 refine ⟨λhn=>?_,λhn=>?_⟩
 ·rw [h];exact if_pos hn
 rw [h];exact if_neg hn
def xU(t:List UInt8):Int:=match iT 0 t with|none=>-1|some n=>n
theorem aFd(t:List UInt8)(v:Value)(w:World)(hv:dD w v t.length (cC t))(hs:t.length <= 1000000)(hd:∀c∈t,cD c=true):
  Calls prog 138 #[v] w λe w'=>e=.returned (.int .i64 (xU t)) /\ w=w':=by
 obtain ⟨a,cap,rfl,hc,hr⟩:=hv
 have HA:=Lib.hid hd
 clear hd
 go_enter func138,Tryz.ntmps138
 go_wp2_with fail
 go_loop [3,4] (λu v=>∃k n:Nat,k <= t.length /\ v=.int .i64 k /\ u=.int .i64 n /\ n <= 9223372036854775807 /\ iT 0 t=iT n (t.drop k)) (λ_ v=>t.length-(intOf v).toNat)
 case atStart=>exact ⟨0,0,J,rfl,rfl,J,rfl⟩
 case round=>
  obtain ⟨k,n,hk,rfl,rfl,hn,hv⟩:=hrel
  by_cases hlt:k<t.length
  ·rcases hr with h0|⟨b,off,rfl,hr⟩
   ·have:t.length=0:=CY
    omega
   have hcell:=ByteRow.cell hr k hlt
   clear hr
   have hst:=aHa t k n hlt hv
   have hd:cD t[k]=true:=HA.out _ (getElem_mem hlt)
   have HS:=Lib.hid hst
   clear hst hv
   simp only [cD,decide_eq_true_eq] at hd
   obtain ⟨hd1,hd2⟩:=hd
   by_cases hov:(9223372036854775807-(t[k].toNat-48))/10<n
   ·have hov':(9223372036854775807-((t[k].toNat:Int)-48))/10<(n:Int):=J
    have HO:=Lib.hid hov
    clear hov
    go_wp2_with fail
    go_ret
    exact ⟨gG (by rw [xU,HS.out.1 HO.out]),Y⟩
   have hov':(n:Int) <= (9223372036854775807-((t[k].toNat:Int)-48))/10:=J
   have HO:=Lib.hid hov
   clear hov
   go_wp2_with fail
   go_round
   case rel=>exact ⟨k+1,10*n+(t[k].toNat-48),J,C8,C8,J,HS.out.2 HO.out⟩
   case measure=>simp [intOf];omega
  have HV:=Lib.hid hv
  clear hv hr
  go_wp2_with fail
  go_ret
  refine ⟨gG ?_,Y⟩
  rw [xU,HV.out,List.drop_eq_nil_of_le J,iT]
theorem zN(t:List UInt8)(a:Option Addr)(cap:Nat)(w:World)(hv:cC t=[]∨∃b off,a=some ⟨b,off,none⟩ /\ ∀j u,(cC t)[j]?=some u -> w.cell? ⟨b,off+j,none⟩=some u):
  (convert 99 9 (.slice a t.length cap)).run prog w=.ok (.string (bytes t)) w:=by
 rcases hv with h0|⟨b,off,rfl,hr⟩
 ·obtain rfl:t=[]:=by simpa [cC] using h0
  cases a with
  |none=>exact run_convert_bytes_nil w _ _ underlying99 underlying5 _ _ _ underlying9
  |some a=>
   have hl:=run_loadCells_list (P:=prog) w a [] Fc
   rw [run_convert_bytes_string w _ _ _ _ _ _ underlying99 underlying5 underlying9,length_nil,run_bytesToString w a 0 cap [] Dm]
   rfl
 rw [run_convert_bytes_arg w _ _ underlying99 underlying5 b off t.length cap (t.map λc=>(c.toNat:Int)) G0 ?_ _ underlying9]
 ·rw [strOfNums,List.map_map,bytes];congr 3;rw [show ((λn:Int=>UInt8.ofNat n.toNat) ∘ λc:UInt8=>(c.toNat:Int))=id from by funext c;simp];simp
 intro i hi
 rw [ByteRow.cell hr i hi];simp [hi]
theorem aIo{w:World}{b off:Nat}{s:List UInt8}(h:∀j u,(cC s)[j]?=some u -> w.cell? ⟨b,off+j,none⟩=some u)(i n:Nat):
  ∀j u,(cC ((s.drop i).take n))[j]?=some u -> w.cell? ⟨b,off+i+j,none⟩=some u:=by
 intro j u hu
 have:(cC s)[i+j]?=some u:=by
  simp only [cC,List.getElem?_map,List.getElem?_take,List.getElem?_drop] at hu⊢
  split at hu
  ·exact hu
  simp at hu
 rw [Nat.add_assoc];exact h _ _ this
def tO:List ByteArray:=[⟨#[60,61]⟩,⟨#[62,61]⟩,⟨#[61,61]⟩,⟨#[33,61]⟩,⟨#[38,38]⟩,⟨#[124,124]⟩]
def nU:List ByteArray:=[⟨#[40]⟩,⟨#[41]⟩,⟨#[123]⟩,⟨#[125]⟩,⟨#[91]⟩,⟨#[93]⟩,⟨#[44]⟩,⟨#[59]⟩,⟨#[61]⟩,⟨#[43]⟩,⟨#[45]⟩,⟨#[42]⟩,⟨#[47]⟩,⟨#[37]⟩,⟨#[60]⟩,⟨#[62]⟩,⟨#[33]⟩]
theorem bytes_inj{a b:List UInt8}(h:bytes a=bytes b):a=b:=by
 have:=congrArg (λx=>x.data.toList) h
 simpa [bytes] using this
theorem aBu(L:List (List UInt8))(x:List UInt8):((L.map bytes).any λy=>decide (y=bytes x))=decide (x∈L):=by
 rw [Bool.eq_iff_iff,List.any_eq_true]
 simp only [List.mem_map,decide_eq_true_eq]
 constructor
 ·rintro ⟨y,⟨z,hz,rfl⟩,h⟩;rw [←bytes_inj h];exact hz
 intro h;exact ⟨_,⟨x,h,rfl⟩,rfl⟩
theorem iR{s:List UInt8}{b off:Nat}{w:World}(hr:∀j u,(cC s)[j]?=some u -> w.cell? ⟨b,off+j,none⟩=some u)(i n cap:Nat)(hin:i+n <= s.length)(w':World)(hw:∀o,w'.cell? ⟨b,o,none⟩=w.cell? ⟨b,o,none⟩):
  (convert 99 9 (.slice (some ⟨b,off+i,none⟩) n cap)).run prog w'=.ok (.string (bytes ((s.drop i).take n))) w':=by
 have hl:((s.drop i).take n).length=n:=EM
 have:=zN ((s.drop i).take n) (some ⟨b,off+i,none⟩) cap w' (.inr ⟨b,off+i,rfl,λj u hu=>by rw [hw];exact aIo hr i n j u hu⟩)
 rw [hl] at this;exact this
theorem aB6(w:World)(x:ByteArray)(q:Bool)(hq:(tO.any λy=>decide (y=x))=q):
  Calls prog 179 #[.slice (some ⟨w.heap.size,0,none⟩) 6 6,.string x] (w.alloc (Obj.cells #[Value.string ⟨#[60,61]⟩,Value.string ⟨#[62,61]⟩,Value.string ⟨#[61,61]⟩,Value.string ⟨#[33,61]⟩,Value.string ⟨#[38,38]⟩,Value.string ⟨#[124,124]⟩] 9)) λe w'=>e=.returned (.bool q) /\ w.alloc (Obj.cells #[Value.string ⟨#[60,61]⟩,Value.string ⟨#[62,61]⟩,Value.string ⟨#[61,61]⟩,Value.string ⟨#[33,61]⟩,Value.string ⟨#[38,38]⟩,Value.string ⟨#[124,124]⟩] 9)=w':=by
 subst hq;exact aDm tO x _ _ (dD.new w (tO.map .string) 9 6) V
theorem xM(w:World)(x:ByteArray)(k:Nat)(hk:k=w.heap.size)(q:Bool)(hq:(nU.any λy=>decide (y=x))=q):
  Calls prog 179 #[.slice (some ⟨k,0,none⟩) 17 17,.string x] (w.alloc (Obj.cells #[Value.string ⟨#[40]⟩,Value.string ⟨#[41]⟩,Value.string ⟨#[123]⟩,Value.string ⟨#[125]⟩,Value.string ⟨#[91]⟩,Value.string ⟨#[93]⟩,Value.string ⟨#[44]⟩,Value.string ⟨#[59]⟩,Value.string ⟨#[61]⟩,Value.string ⟨#[43]⟩,Value.string ⟨#[45]⟩,Value.string ⟨#[42]⟩,Value.string ⟨#[47]⟩,Value.string ⟨#[37]⟩,Value.string ⟨#[60]⟩,Value.string ⟨#[62]⟩,Value.string ⟨#[33]⟩] 9)) λe w'=>e=.returned (.bool q) /\ w.alloc (Obj.cells #[Value.string ⟨#[40]⟩,Value.string ⟨#[41]⟩,Value.string ⟨#[123]⟩,Value.string ⟨#[125]⟩,Value.string ⟨#[91]⟩,Value.string ⟨#[93]⟩,Value.string ⟨#[44]⟩,Value.string ⟨#[59]⟩,Value.string ⟨#[61]⟩,Value.string ⟨#[43]⟩,Value.string ⟨#[45]⟩,Value.string ⟨#[42]⟩,Value.string ⟨#[47]⟩,Value.string ⟨#[37]⟩,Value.string ⟨#[60]⟩,Value.string ⟨#[62]⟩,Value.string ⟨#[33]⟩] 9)=w':=by
 subst hq;exact aDm nU x _ _ (dD.new_at w (nU.map .string) 9 17 k hk) V
theorem aL1(n k b off cap:Nat)(w:World)(x1 x2:ByteArray)(hk:k<n)(hc:n <= cap)(hcm:cap <= 9223372036854775807)(hn:n <= 1000000)(hkc:¬cap=k)(g2:(k:Int)+1<n)(hcv1:∀O,(convert 99 9 (.slice (some ⟨b,off+k,none⟩) 2 (cap-k))).run prog (w.alloc O)=.ok (.string x2) (w.alloc O))(ha:(tO.any λy=>decide (y=x2))=true):
  Calls prog 139 #[.slice (some ⟨b,off,none⟩) n cap,.int .i64 k] w λe w'=>e=.returned (.int .i64 2) /\ Below w.heap.size w w':=by
 have HA:=Lib.hid ha
 clear ha
 go_enter func139,Tryz.ntmps139
 go_wp2_with (first|(go_at_call 179;((with_reducible refine (aB6 _ _ _ HA.out).mono ?_);rintro e w' ⟨rfl,rfl⟩)))
 go_ret
 exact ⟨Y,B8⟩
theorem aL6(n k b off cap:Nat)(w:World)(x1 x2:ByteArray)(hk:k<n)(hc:n <= cap)(hcm:cap <= 9223372036854775807)(hn:n <= 1000000)(hkc:¬cap=k)(q:Bool)(g2:(k:Int)+1<n)(hcv1:∀O,(convert 99 9 (.slice (some ⟨b,off+k,none⟩) 2 (cap-k))).run prog (w.alloc O)=.ok (.string x2) (w.alloc O))(hcv2:∀O O',(convert 99 9 (.slice (some ⟨b,off+k,none⟩) 1 (cap-k))).run prog ((w.alloc O).alloc O')=.ok (.string x1) ((w.alloc O).alloc O'))(ha:(tO.any λy=>decide (y=x2))=false)(ha1:(nU.any λy=>decide (y=x1))=q):
  Calls prog 139 #[.slice (some ⟨b,off,none⟩) n cap,.int .i64 k] w λe w'=>e=.returned (.int .i64 (if q then 1 else 0)) /\ Below w.heap.size w w':=by
 have HA:=Lib.hid ha
 clear ha
 have HA1:=Lib.hid ha1
 clear ha1
 go_enter func139,Tryz.ntmps139
 go_wp2_with (first|(go_at_call 179;((with_reducible refine (aB6 _ _ _ HA.out).mono ?_);rintro e w' ⟨rfl,rfl⟩))|(go_at_call 179;((with_reducible refine (xM _ _ _ G0 _ HA1.out).mono ?_);rintro e w' ⟨rfl,rfl⟩)))
 all_goals (go_ret;exact ⟨by simp [*],B8⟩)
theorem aLz(n k b off cap:Nat)(w:World)(x1 x2:ByteArray)(hk:k<n)(hc:n <= cap)(hcm:cap <= 9223372036854775807)(hn:n <= 1000000)(hkc:¬cap=k)(q:Bool)(g2:(n:Int) <= k+1)(hcv3:∀O,(convert 99 9 (.slice (some ⟨b,off+k,none⟩) 1 (cap-k))).run prog (w.alloc O)=.ok (.string x1) (w.alloc O))(ha1:(nU.any λy=>decide (y=x1))=q):
  Calls prog 139 #[.slice (some ⟨b,off,none⟩) n cap,.int .i64 k] w λe w'=>e=.returned (.int .i64 (if q then 1 else 0)) /\ Below w.heap.size w w':=by
 have HA1:=Lib.hid ha1
 clear ha1
 go_enter func139,Tryz.ntmps139
 go_wp2_with (first|(go_at_call 179;((with_reducible refine (xM _ _ _ G0 _ HA1.out).mono ?_);rintro e w' ⟨rfl,rfl⟩)))
 all_goals (go_ret;exact ⟨by simp [*],B8⟩)
theorem aBz(s:List UInt8)(k:Nat)(b off cap:Nat)(w:World)(hr:∀j u,(cC s)[j]?=some u -> w.cell? ⟨b,off+j,none⟩=some u)(hc:s.length <= cap)(hcm:cap <= 9223372036854775807)(hs:s.length <= 1000000)(hk:k<s.length):
  Calls prog 139 #[.slice (some ⟨b,off,none⟩) s.length cap,.int .i64 k] w λe w'=>e=.returned (.int .i64 (jE (s.drop k))) /\ Below w.heap.size w w':=by
 have hblt:b<w.heap.size:=gV (ByteRow.cell hr k hk)
 have hcv1:k+2 <= s.length -> ∀O,(convert 99 9 (.slice (some ⟨b,off+k,none⟩) 2 (cap-k))).run prog (w.alloc O)=.ok (.string (bytes ((s.drop k).take 2))) (w.alloc O):=λh O=>iR hr k 2 _ h _ (λo=>World.cell?_alloc_lt w O ⟨b,o,none⟩ hblt)
 have hcv2:∀O O',(convert 99 9 (.slice (some ⟨b,off+k,none⟩) 1 (cap-k))).run prog ((w.alloc O).alloc O')=.ok (.string (bytes ((s.drop k).take 1))) ((w.alloc O).alloc O'):=λO O'=>iR hr k 1 _ J _ (λo=>by rw [World.cell?_alloc_lt _ _ _ DR,World.cell?_alloc_lt _ _ _ hblt])
 have hcv3:∀O,(convert 99 9 (.slice (some ⟨b,off+k,none⟩) 1 (cap-k))).run prog (w.alloc O)=.ok (.string (bytes ((s.drop k).take 1))) (w.alloc O):=λO=>iR hr k 1 _ J _ (λo=>World.cell?_alloc_lt w O ⟨b,o,none⟩ hblt)
 have hd1:(s.drop k).take 1=[s[k]]:=by rw [dR s k hk];rfl
 have one:¬(2 <= (s.drop k).length /\ (s.drop k).take 2∈fE) -> jE (s.drop k)=if s[k]∈dW then 1 else 0:=by
  intro h
  rw [dR s k hk] at h⊢
  by_cases hm:s[k]∈dW
  ·rw [if_pos hm,oR h hm]
  rw [if_neg hm,tL h hm]
 have hany:(nU.any λy=>decide (y=bytes ((s.drop k).take 1)))=decide (s[k]∈dW):=by
  rw [hd1,show nU=(dW.map λc=>[c]).map bytes from rfl,aBu]
  simp
 by_cases h2:k+1<s.length
 ·have hany2:(tO.any λy=>decide (y=bytes ((s.drop k).take 2)))=decide ((s.drop k).take 2∈fE):=by
   rw [show tO=fE.map bytes from rfl,aBu]
  by_cases hm:(s.drop k).take 2∈fE
  ·rw [pA (l:=s.drop k) DI hm]
   exact aL1 s.length k b off cap w ⟨#[]⟩ _ hk hc hcm hs J J (hcv1 J) (by rw [hany2];simpa using hm)
  rw [one (λh=>hm h.2)]
  refine (aL6 s.length k b off cap w _ _ hk hc hcm hs J _ J (hcv1 J) hcv2 (by rw [hany2];simpa using hm) hany).mono λe w' ⟨h,hb⟩=>⟨?_,hb⟩
  rw [h];refine gG ?_;by_cases hq:s[k]∈dW<;>simp [hq]
 ·rw [one (λh=>by have:=h.1;rw [List.length_drop] at this;omega)]
  refine (aLz s.length k b off cap w _ ⟨#[]⟩ hk hc hcm hs J _ J hcv3 hany).mono λe w' ⟨h,hb⟩=>⟨?_,hb⟩
  rw [h];refine gG ?_;by_cases hq:s[k]∈dW<;>simp [hq]
end
end Go.Proofs.YtkfdfhcdmmlfmaaGreatDoor
