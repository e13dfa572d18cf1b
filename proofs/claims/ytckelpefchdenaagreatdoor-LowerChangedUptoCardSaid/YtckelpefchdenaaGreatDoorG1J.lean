import Derived.Test.YtckelpefchdenaaGreatDoorA1J
import Derived.Deep.RegionHeld3
import Derived.Deep.LoopGhost
import Derived.Great.BuildSlice
set_option linter.all false
namespace Go.Proofs.YtckelpefchdenaaGreatDoor
section
inductive aS where
 |mk (op num:Int) (name:ByteArray) (args:List aS)
structure cD where
 name:ByteArray
 index:List aS
structure bq where
 mutex:Bool
 ref:cD
 expr:aS
inductive aD where
 |mk (kind:Int) (name:ByteArray) (expr:aS) (ref:cD) (args:List bq) (thn els:List aD)
structure bg where
 name:ByteArray
 mutex:Bool
structure a_ where
 name:ByteArray
 params:List bg
 body:List aD
structure bw where
 name:ByteArray
 init:Int
structure cn where
 name:ByteArray
 ex:Bool
 size:Int
structure aX where
 globals:List bw
 mutexes:List cn
 funcs:List a_
def aS.op:aS -> Int|.mk o _ _ _=>o
def aS.num:aS -> Int|.mk _ n _ _=>n
def aS.name:aS -> ByteArray|.mk _ _ n _=>n
def aS.args:aS -> List aS|.mk _ _ _ a=>a
def aD.kind:aD -> Int|.mk k _ _ _ _ _ _=>k
def aD.name:aD -> ByteArray|.mk _ n _ _ _ _ _=>n
def aD.expr:aD -> aS|.mk _ _ e _ _ _ _=>e
def aD.ref:aD -> cD|.mk _ _ _ r _ _ _=>r
def aD.args:aD -> List bq|.mk _ _ _ _ a _ _=>a
def aD.thn:aD -> List aD|.mk _ _ _ _ _ t _=>t
def aD.els:aD -> List aD|.mk _ _ _ _ _ _ e=>e
def ay:ByteArray:=⟨#[]⟩
def aS.zero:aS:=.mk 0 0 ay []
def cD.zero:cD:=⟨ay,[]⟩
def dH(n:Nat):List UInt8:=if n<10 then [UInt8.ofNat (48+n)] else dH (n/10)++[UInt8.ofNat (48+n%10)]
def fW(n:Int):List UInt8:=if n<0 then 45::dH n.natAbs else dH n.natAbs
def dN(op:Int):Nat:=
 if op=17 then 0 else if op=16 then 1 else if 10 <= op /\ op <= 15 then 2 else if op=8∨op=9 then 3 else if 5 <= op /\ op <= 7 then 4 else if op=3∨op=4 then 5 else 6
def kE(b:Int)(k:Nat)(a:Int):Bool:=decide (dN a<dN b∨dN a=dN b /\ k=1)
def oU(op:Int):List UInt8:=
 if op=17 then [124,124] else if op=16 then [38,38] else if op=14 then [61,61] else if op=15 then [33,61] else if op=10 then [60] else if op=11 then [60,61] else if op=12 then [62] else if op=13 then [62,61] else
 if op=8 then [43] else if op=9 then [45] else if op=5 then [42] else if op=6 then [47] else if op=7 then [37] else []
def kQ(op num:Int)(name:ByteArray)(ts:List (List UInt8)):List UInt8:=
 if op=1 then fW num else if op=2 then name.data.toList else if op=3 then 45::ts.getD 0 [] else if op=4 then 33::ts.getD 0 [] else
 if dN op<5 then ts.getD 0 []++[32]++oU op++[32]++ts.getD 1 [] else []
mutual
def cA:aS -> List UInt8
 |.mk op num name args=>kQ op num name (kB op 0 args)
def kB(b:Int):Nat -> List aS -> List (List UInt8)
 |_,[]=>[]
 |k,e::es=>(if kE b k e.op then [40]++cA e++[41] else cA e)::kB b (k+1) es
end
def cH(s:ByteArray):Bool:=
 match s.data.toList with
 |[]=>false
 |c::r=>gH c && r.all dV && decide (s.size <= 16) && !fT s
def ll(op num:Int)(name:ByteArray):Bool:=(decide (op=1 /\ 0 <= num) && decide (name=ay))||(decide (op=2 /\ num=0) && cH name)
def arity(op:Int):Nat:=if dN op=6 then 0 else if dN op=5 then 1 else 2
mutual
def dy:aS -> Bool
 |.mk op num name args=>(if dN op=6 then ll op num name else decide (num=0) && decide (name=ay)) && decide (args.length=arity op) && fX args
def fX:List aS -> Bool
 |[]=>true
 |e::es=>dy e && fX es
end
mutual
def iE:aS -> Nat
 |.mk op _ _ args=>jH op 0 args+if dN op=5 then 1 else 0
def jH(b:Int):Nat -> List aS -> Nat
 |_,[]=>0
 |k,e::es=>max (iE e+if kE b k e.op then 1 else 0) (jH b (k+1) es)
end
def fI(e:aS):Bool:=dy e && decide (iE e <= 24)
end
section
def fh(r:cD):List UInt8:=match r.index with|[]=>r.name.data.toList|e::_=>r.name.data.toList++[91]++cA e++[93]
def ew(a:bq):List UInt8:=if a.mutex then [109,117,116,101,120,32]++fh a.ref else cA a.expr
def dM{α:Type}(f:α -> List UInt8):List α -> List UInt8
 |[]=>[]
 |x::r=>f x++(r.map λy=>[44,32]++f y).flatten
def ZO{α:Type}(f:α -> List UInt8)(l:List α)(x:α):dM f (l++[x])=dM f l++(if l=[] then [] else [44,32])++f x:=by
 cases l with
 |nil=>simp [dM]
 |cons a r=>simp [dM]
def sE{α:Type}(f:α -> List UInt8)(l:List α)(k:Nat)(hk:k<l.length):dM f (l.take (k+1))=dM f (l.take k)++(if k=0 then [] else [44,32])++f l[k]:=by
 rw [gX hk,ZO];have:(l.take k=[])↔k=0:=by
  rw [List.take_eq_nil_iff];constructor
  ·rintro (h|h)
   ·exact h
   subst h;simp at hk
  exact .inl
 by_cases h:k=0
 ·rw [if_pos (this.2 h),if_pos h]
 rw [if_neg (λh'=>h (this.1 h')),if_neg h]
def iH(l:List bq):List UInt8:=[40]++dM ew l++[41]
mutual
def d5(tabs:List UInt8):aD -> List UInt8
 |.mk kind name expr ref args thn els=>tabs++
  (if kind=1 then [118,97,114,32]++name.data.toList++[32,61,32]++cA expr++[59]
   else if kind=2 then name.data.toList++[32,61,32]++cA expr++[59]
   else if kind=3 then name.data.toList++iH args++[59]
   else if kind=4 then [103,111,32]++name.data.toList++iH args++[59]
   else if kind=5 then [108,111,99,107,32]++fh ref++[59]
   else if kind=6 then [117,110,108,111,99,107,32]++fh ref++[59]
   else if kind=7∨kind=8 then
    (if kind=8 then [119,104,105,108,101,32] else [105,102,32])++cA expr++[32,123,10]++bS (tabs++[9]) thn++tabs++[125]++
     (if els.length=0 then [] else [32,101,108,115,101,32,123,10]++bS (tabs++[9]) els++tabs++[125])
   else [114,101,116,117,114,110,59])++[10]
def bS(tabs:List UInt8):List aD -> List UInt8
 |[]=>[]
 |s::r=>d5 tabs s++bS tabs r
end
def Mr(tabs:List UInt8)(l m:List aD):bS tabs (l++m)=bS tabs l++bS tabs m:=by
 induction l with
 |nil=>simp [bS]
 |cons a r ih=>simp [bS,ih]
def cT(g:bw):List UInt8:=[118,97,114,32]++g.name.data.toList++(if g.init=0 then [] else [32,61,32]++fW g.init)++[59,10]
def ci(m:cn):List UInt8:=(if m.ex then [114] else [])++[109,117,116,101,120,32]++m.name.data.toList++(if 0<m.size then [91]++fW m.size++[93] else [])++[59,10]
def ed(x:bg):List UInt8:=(if x.mutex then [109,117,116,101,120,32] else [])++x.name.data.toList
def funcText(f:a_):List UInt8:=[102,117,110,99,32]++f.name.data.toList++[40]++dM ed f.params++[41,32,123,10]++bS [9] f.body++[125,10]
def iJ(p:aX):List UInt8:=(p.globals.map cT).flatten++(p.mutexes.map ci).flatten++(p.funcs.map funcText).flatten
def kp(e:aS):Bool:=decide (e.op=0 /\ e.num=0) && decide (e.name=ay) && decide (e.args.length=0)
def mE(r:cD):Bool:=decide (r.name=ay) && decide (r.index.length=0)
def okRefB(r:cD):Bool:=cH r.name && (match r.index with|[]=>true|[e]=>fI e|_=>false)
def fc(a:bq):Bool:=if a.mutex then okRefB a.ref && kp a.expr else mE a.ref && fI a.expr
mutual
def f6(deep:Nat):aD -> Bool
 |.mk k name expr ref args thn els=>
  decide (1 <= k /\ k <= 9) && (if 1 <= k /\ k <= 4 then cH name else decide (name=ay)) &&
  (if k=1∨k=2∨k=7∨k=8 then fI expr else kp expr) && (if k=5∨k=6 then okRefB ref else mE ref) &&
  (decide (k=3∨k=4)||decide (args.length=0)) && args.all fc &&
  (if k=7∨k=8 then dG (deep+1) thn else decide (thn.length=0)) &&
  (decide (els.length=0)||(decide (k=7) && dG (deep+1) els))
def dG(deep:Nat):List aD -> Bool
 |[]=>decide (deep<24)
 |s::r=>f6 deep s && dG deep r
end
def lL(g:bw):Bool:=cH g.name && decide (g.init≠-9223372036854775808)
def iu(m:cn):Bool:=cH m.name && decide (0 <= m.size /\ m.size <= 64) && !(m.ex && decide (0<m.size))
def gh(f:a_):Bool:=cH f.name && decide (f.params.length <= 6) && dG 0 f.body && f.params.all λx=>cH x.name
def gU.isOk:gU -> Bool|.ok _=>true|.err _ _=>false
def gw(p:aX):Bool:=decide (p.globals.length <= 16 /\ p.mutexes.length <= 12 /\ p.funcs.length <= 16) && p.globals.all lL && p.mutexes.all iu && p.funcs.all gh && (gj (iJ p)).isOk
end
section
open Go.RowKit
def lB{α:Type}(w:World)(R:α -> List Value -> Prop)(z:Nat)(v:Value)(l:List α):Prop:=
 ∃rows:List (List Value),eD w v l.length rows.flatten /\ rows.length=l.length /\ ∀k (h:k<l.length) (h':k<rows.length),R l[k] rows[k] /\ rows[k].length=z
mutual
def jc(w:World):aS -> List Value -> Prop
 |.mk op num name args,cs=>∃(v:Value) (rows:List (List Value)),cs=[.int .i64 op,.int .i64 num,.string name,v] /\ eD w v args.length rows.flatten /\ mO w args rows
def mO(w:World):List aS -> List (List Value) -> Prop
 |[],rows=>rows=[]
 |e::es,rows=>∃r rs,rows=r::rs /\ jc w e r /\ mO w es rs
end
def jc.len{w:aa}{e:aS}{cs:List aN}(h:jc w e cs):cs.length=4:=by
 cases e;rw [jc] at h;obtain ⟨v,rows,rfl,_⟩:=h;rfl
mutual
def jc.below{w w':aa}(hb:Below w.heap.size w w'):∀(e:aS) {cs:List aN},jc w e cs -> jc w' e cs
 |.mk op num name args,cs,h=>by
  rw [jc] at h⊢;obtain ⟨v,rows,rfl,h1,h2⟩:=h;exact ⟨v,rows,J,h1.below hb (bY _),mO.below hb args h2⟩
def mO.below{w w':aa}(hb:Below w.heap.size w w'):∀(l:List aS) {rows:List (List aN)},mO w l rows -> mO w' l rows
 |[],rows,h=>by rw [mO] at h⊢;exact h
 |e::es,rows,h=>by
  rw [mO] at h⊢;obtain ⟨r,rs,rfl,h1,h2⟩:=h;exact ⟨r,rs,J,jc.below hb e h1,mO.below hb es h2⟩
end
def lB.below{α:Type}{w w':aa}{R R':α -> List aN -> Prop}{z:Nat}{v:aN}{l:List α}(hb:Below w.heap.size w w')(h:lB w R z v l)(hR:∀a cs,a∈l -> R a cs -> R' a cs):lB w' R' z v l:=by
 obtain ⟨rows,h1,h2,h3⟩:=h;exact ⟨rows,h1.below hb (bY _),h2,λk h h'=>⟨hR _ _ (List.getElem_mem h) (h3 k h h').1,(h3 k h h').2⟩⟩
def lB.nil{α:Type}(w:aa)(R:α -> List aN -> Prop)(z:Nat):lB w R z (.slice none 0 0) []:=⟨[],eD.nil w,rfl,λk h=>absurd h aM⟩
def tQ(w:World)(r:cD)(cs:List Value):Prop:=∃v,cs=[.string r.name,v] /\ lB w (jc w) 4 v r.index
def sQ(w:World)(a:bq)(cs:List Value):Prop:=∃cr ce,cs=.bool a.mutex::(cr++ce) /\ tQ w a.ref cr /\ jc w a.expr ce
def tQ.below{w w':aa}(hb:Below w.heap.size w w'){r:cD}{cs:List aN}(h:tQ w r cs):tQ w' r cs:=by
 obtain ⟨v,rfl,h⟩:=h;exact ⟨v,J,h.below hb λa cs _ h=>jc.below hb a h⟩
def sQ.below{w w':aa}(hb:Below w.heap.size w w'){a:bq}{cs:List aN}(h:sQ w a cs):sQ w' a cs:=by
 obtain ⟨cr,ce,rfl,h1,h2⟩:=h;exact ⟨cr,ce,J,h1.below hb,jc.below hb _ h2⟩
mutual
def lw(w:World):aD -> List Value -> Prop
 |.mk k name e r args t el,cs=>∃(ce cr:List Value) (va vt ve:Value) (rt re:List (List Value)),cs=[.int .i64 k,.string name]++ce++cr++[va,vt,ve] /\ jc w e ce /\ tQ w r cr /\ lB w (sQ w) 7 va args /\
   eD w vt t.length rt.flatten /\ k9 w t rt /\ eD w ve el.length re.flatten /\ k9 w el re
def k9(w:World):List aD -> List (List Value) -> Prop
 |[],rows=>rows=[]
 |e::es,rows=>∃r rs,rows=r::rs /\ lw w e r /\ k9 w es rs
end
mutual
def lw.below{w w':aa}(hb:Below w.heap.size w w'):∀(s:aD) {cs:List aN},lw w s cs -> lw w' s cs
 |.mk k name e r args t el,cs,h=>by
  rw [lw] at h⊢;obtain ⟨ce,cr,va,vt,ve,rt,re,rfl,h1,h2,h3,h4,h5,h6,h7⟩:=h;exact ⟨ce,cr,va,vt,ve,rt,re,J,jc.below hb _ h1,h2.below hb,h3.below hb (λ_ _ _ h=>sQ.below hb h),h4.below hb (bY _),k9.below hb t h5,h6.below hb (bY _),k9.below hb el h7⟩
def k9.below{w w':aa}(hb:Below w.heap.size w w'):∀(l:List aD) {rows:List (List aN)},k9 w l rows -> k9 w' l rows
 |[],rows,h=>by rw [k9] at h⊢;exact h
 |e::es,rows,h=>by
  rw [k9] at h⊢;obtain ⟨r,rs,rfl,h1,h2⟩:=h;exact ⟨r,rs,J,lw.below hb e h1,k9.below hb es h2⟩
end
def lw.len{w:aa}{s:aD}{cs:List aN}(h:lw w s cs):cs.length=11:=by
 cases s;rw [lw] at h;obtain ⟨ce,cr,va,vt,ve,rt,re,rfl,h1,⟨v,rfl,_⟩,_⟩:=h;simp [h1.len]
def Xq(x:bg)(cs:List Value):Prop:=cs=[.string x.name,.bool x.mutex]
def rN(w:World)(f:a_)(cs:List Value):Prop:=∃vp vb,cs=[.string f.name,vp,vb] /\ lB w Xq 2 vp f.params /\ lB w (lw w) 11 vb f.body
def UK(g:bw)(cs:List Value):Prop:=cs=[.string g.name,.int .i64 g.init]
def X2(m:cn)(cs:List Value):Prop:=cs=[.string m.name,.bool m.ex,.int .i64 m.size]
def wi(w:World)(p:aX)(cs:List Value):Prop:=∃vg vm vf,cs=[vg,vm,vf] /\ lB w UK 2 vg p.globals /\ lB w X2 3 vm p.mutexes /\ lB w (rN w) 3 vf p.funcs
def rN.below{w w':aa}(hb:Below w.heap.size w w'){f:a_}{cs:List aN}(h:rN w f cs):rN w' f cs:=by
 obtain ⟨vp,vb,rfl,h1,h2⟩:=h;exact ⟨vp,vb,J,h1.below hb (λ_ _ _ h=>h),h2.below hb (λ_ _ _ h=>lw.below hb _ h)⟩
def wi.below{w w':aa}(hb:Below w.heap.size w w'){p:aX}{cs:List aN}(h:wi w p cs):wi w' p cs:=by
 obtain ⟨vg,vm,vf,rfl,h1,h2,h3⟩:=h;exact ⟨vg,vm,vf,J,h1.below hb (λ_ _ _ h=>h),h2.below hb (λ_ _ _ h=>h),h3.below hb (λ_ _ _ h=>rN.below hb h)⟩
def F3{z:Nat}:∀(rows:List (List aN)),(∀r∈rows,r.length=z) -> ∀k f,(hk:k<rows.length) -> f<z -> (rows.flatten)[k*z+f]?=rows[k][f]?
 |[],_,k,f,hk,_=>by simp at hk
 |r::rs,hz,k,f,hk,hf=>by
  have hr:r.length=z:=hz r (mq ..);rw [jd];cases k with
  |zero=>rw [rO,cq,qS Y];rfl
  |succ k=>
   rw [oV (by rw [hr,tF];omega)];have:=F3 rs (λr h=>hz r (d_ _ h)) k f ql hf;rw [hr,show (k+1)*z+f-z=k*z+f by rw [tF];omega,this];rfl
def lB.get{α:Type}{w:aa}{R:α -> List aN -> Prop}{z:Nat}{v:aN}{l:List α}(h:lB w R z v l)(hz:0<z){k:Nat}(hk:k<l.length):
  ∃b off cap row,v=.slice (some ⟨b,off,none⟩) l.length cap /\ l.length <= cap /\ R l[k] row /\ row.length=z /\ b<w.heap.size /\ ∀f u,row[f]?=some u -> w.cell? ⟨b,off+k*z+f,none⟩=some u:=by
 obtain ⟨rows,⟨a,cap,rfl,hc,hr⟩,h2,h3⟩:=h;have hk':k<rows.length:=Y;obtain ⟨h4,h5⟩:=h3 k hk hk';have hall:∀r∈rows,r.length=z:=by
  intro r hr';obtain ⟨i,hi,rfl⟩:=mT hr';exact (h3 i Y hi).2
 rcases hr with h0|⟨b,off,rfl,hr⟩
 ·exfalso;have:=F3 rows hall k 0 hk' hz;rw [h0] at this;simp at this;rw [this] at h5;simp at h5;omega
 have hcell:∀f u,rows[k][f]?=some u -> w.cell? ⟨b,off+k*z+f,none⟩=some u:=by
  intro f u hu;have hf:f<z:=by
   have:=(mN.1 hu).1;omega
  rw [qQ];exact hr _ _ (by rw [F3 rows hall k f hk' hf];exact hu)
 refine ⟨b,off,cap,rows[k],J,hc,h4,h5,?_,hcell⟩;have h0:(rows[k])[0]?=some ((rows[k])[0]'(by omega)):=aM;exact mj (hcell 0 _ h0)
def lB.slice{α:Type}{w:aa}{R:α -> List aN -> Prop}{z:Nat}{v:aN}{l:List α}(h:lB w R z v l):∃a cap,v=.slice a l.length cap /\ l.length <= cap:=by
 obtain ⟨rows,⟨a,cap,rfl,hc,_⟩,_⟩:=h;exact ⟨a,cap,J,hc⟩
def bh(H:List Nat)(w:World):World:={w with heap:=Array.ofFn (n:=w.heap.size) λi=>if i.1∈H then Obj.cells #[] 0 (0,0) else w.heap[i]}
def DN(H:List Nat)(w:aa):(bh H w).heap.size=w.heap.size:=by simp [bh]
def Cs(H:List Nat)(w:aa)(k:Nat)(h:k∉H):(bh H w).heap[k]?=w.heap[k]?:=by
 unfold bh;by_cases hk:k<w.heap.size
 ·rw [DR,dif_pos hk,oD hk];simp [h]
 rw [DR,dif_neg hk,qO Y]
def Yz(H:List Nat)(w:aa)(k:Nat)(h:k∈H)(hk:k<w.heap.size):(bh H w).heap[k]?=some (Obj.cells #[] 0 (0,0)):=by
 unfold bh;rw [DR,dif_pos hk];simp [h]
def pw(H:List Nat)(w:aa)(a:Addr)(h:a.block∉H):(bh H w).cell? a=w.cell? a:=A5 (w:=w) (Cs H w _ h)
def Ts(H:List Nat)(w:aa)(a:Addr)(h:a.block∈H):(bh H w).cell? a=none:=by
 unfold World.cell?;by_cases hk:a.block<w.heap.size
 ·rw [Yz H w _ h hk];simp
 rw [qO (by rw [DN];omega)]
def qL{H:List Nat}{w:aa}{a:Addr}{u:aN}(h:(bh H w).cell? a=some u):w.cell? a=some u /\ a.block∉H:=by
 by_cases hm:a.block∈H
 ·rw [Ts H w a hm] at h;cases h
 rw [pw H w a hm] at h;exact ⟨h,hm⟩
structure cQ (H:List Nat) (w w':World):Prop where
 os:w'.os=w.os
 tape:w'.tape=w.tape
 output:w'.output=w.output
 size:w.heap.size <= w'.heap.size
 block:∀k,k<w.heap.size -> k∉H -> w'.heap[k]?=w.heap[k]?
def cQ.refl(H:List Nat)(w:aa):cQ H w w:=⟨rfl,rfl,rfl,bY _,λ_ _ _=>rfl⟩
def cQ.trans{H:List Nat}{a b c:aa}(h:cQ H a b)(k:cQ H b c):cQ H a c:=
 ⟨k.os.trans h.os,k.tape.trans h.tape,k.output.trans h.output,iN h.size k.size,λi hi hn=>(k.block i (mM hi h.size) hn).trans (h.block i hi hn)⟩
def cQ.mono{H H':List Nat}{a b:aa}(h:cQ H a b)(hs:∀x,x∈H -> x∈H'):cQ H' a b:=⟨h.os,h.tape,h.output,h.size,λi hi hn=>h.block i hi λhm=>hn (hs i hm)⟩
def cQ.of_below{H:List Nat}{w w':aa}(h:Below w.heap.size w w'):cQ H w w':=⟨h.os,h.tape,h.output,h.size,λk hk _=>h.block k hk⟩
def cQ.drew{H:List Nat}{a w:aa}(h:cQ H a w):cQ H a w.drew:=⟨h.os,h.tape,h.output,h.size,h.block⟩
def cQ.drewN{H:List Nat}{a w:aa}(h:cQ H a w)(k:Nat):cQ H a (w.drewN k):=⟨h.os,h.tape,h.output,h.size,h.block⟩
def cQ.alloc{H:List Nat}{a w:aa}(h:cQ H a w)(o:Obj):cQ H a (w.alloc o):=h.trans (cQ.of_below ((Below.refl _ _).alloc (bY _) o))
def cQ.step{H:List Nat}{a w w':aa}(h:cQ H a w)(hb:Below w.heap.size w w'):cQ H a w':=h.trans (cQ.of_below hb)
def cQ.setCell{H:List Nat}{a w:aa}(h:cQ H a w){p:Addr}(hp:p.block∈H∨a.heap.size <= p.block)(u:aN):cQ H a (w.setCell p u):=
 ⟨h.os,h.tape,h.output,by simpa [World.setCell] using h.size,λk hk hn=>(Below.heap_setCell w p u k (by rintro rfl;rcases hp with hp|hp;exact hn hp;omega)).trans (h.block k hk hn)⟩
def cQ.cell{H:List Nat}{w w':aa}(h:cQ H w w'){p:Addr}(hp:p.block<w.heap.size)(hn:p.block∉H):w'.cell? p=w.cell? p:=A5 (w:=w) (h.block p.block hp hn)
def cQ.frozen{H:List Nat}{w w':aa}(h:cQ H w w'){p:Addr}(hp:p.block<w.heap.size)(hn:p.block∉H):w'.frozen? p=w.frozen? p:=World.frozen?_of_block (w:=w) (h.block p.block hp hn)
def cQ.below{H:List Nat}{w w':aa}{B:Nat}(h:cQ H w w')(hB:B <= w.heap.size)(hH:∀x,x∈H -> B <= x):Below B w w':=
 ⟨h.os,h.tape,h.output,h.size,λk hk=>h.block k Y λhm=>by have:=hH k hm;omega⟩
def cQ.old{H:List Nat}{w w':aa}(h:cQ H w w'){p:Addr}{u:aN}(hc:(bh H w).cell? p=some u):w'.cell? p=some u:=by
 obtain ⟨h1,h2⟩:=qL hc;rw [h.cell (mj h1) h2];exact h1
def eD.mono{w w':aa}(hm:∀a u,w.cell? a=some u -> w'.cell? a=some u){v:aN}{n:Nat}{cells:List aN}(h:eD w v n cells):eD w' v n cells:=by
 obtain ⟨a,cap,rfl,hc,hr⟩:=h;refine ⟨a,cap,J,hc,?_⟩;rcases hr with h0|⟨b,off,rfl,hr⟩
 ·exact .inl h0
 exact .inr ⟨b,off,J,λj u hj=>hm _ _ (hr j u hj)⟩
def eD.aJg(H:List Nat)(w:aa)(l:List aN)(T:ax)(n k:Nat)(hk:k=w.heap.size)(hH:∀x,x∈H -> x<w.heap.size):eD (bh H (w.alloc (Obj.cells l.toArray T))) (.slice (some ⟨k,0,none⟩) n n) n l:=by
 obtain ⟨a,cap,he,hc,hr⟩:=eD.aHz w l T n k hk;refine ⟨a,cap,he,hc,?_⟩;rcases hr with h0|⟨b,off,rfl,hr⟩
 ·exact .inl h0
 refine .inr ⟨b,off,J,λj u hj=>?_⟩;have hb:b=k:=by injection he with h1;injection h1 with h2;injection h2 with h3;exact h3.symm
 rw [pw]
 ·exact hr j u hj
 intro hm;have:=hH b hm;omega
mutual
def jc.mono{w w':aa}(hm:∀a u,w.cell? a=some u -> w'.cell? a=some u):∀(e:aS) {cs:List aN},jc w e cs -> jc w' e cs
 |.mk op num name args,cs,h=>by
  rw [jc] at h⊢;obtain ⟨v,rows,rfl,h1,h2⟩:=h;exact ⟨v,rows,J,h1.mono hm,mO.mono hm args h2⟩
def mO.mono{w w':aa}(hm:∀a u,w.cell? a=some u -> w'.cell? a=some u):∀(l:List aS) {rows:List (List aN)},mO w l rows -> mO w' l rows
 |[],rows,h=>by rw [mO] at h⊢;exact h
 |e::es,rows,h=>by
  rw [mO] at h⊢;obtain ⟨r,rs,rfl,h1,h2⟩:=h;exact ⟨r,rs,J,jc.mono hm e h1,mO.mono hm es h2⟩
end
def lB.mono{α:Type}{w w':aa}(hm:∀a u,w.cell? a=some u -> w'.cell? a=some u){R R':α -> List aN -> Prop}{z:Nat}{v:aN}{l:List α}(h:lB w R z v l)(hR:∀a cs,a∈l -> R a cs -> R' a cs):lB w' R' z v l:=by
 obtain ⟨rows,h1,h2,h3⟩:=h;exact ⟨rows,h1.mono hm,h2,λk h h'=>⟨hR _ _ (List.getElem_mem h) (h3 k h h').1,(h3 k h h').2⟩⟩
def tQ.mono{w w':aa}(hm:∀a u,w.cell? a=some u -> w'.cell? a=some u){r:cD}{cs:List aN}(h:tQ w r cs):tQ w' r cs:=by
 obtain ⟨v,rfl,h⟩:=h;exact ⟨v,J,h.mono hm λa cs _ h=>jc.mono hm a h⟩
def sQ.mono{w w':aa}(hm:∀a u,w.cell? a=some u -> w'.cell? a=some u){a:bq}{cs:List aN}(h:sQ w a cs):sQ w' a cs:=by
 obtain ⟨cr,ce,rfl,h1,h2⟩:=h;exact ⟨cr,ce,J,h1.mono hm,jc.mono hm _ h2⟩
mutual
def lw.mono{w w':aa}(hm:∀a u,w.cell? a=some u -> w'.cell? a=some u):∀(s:aD) {cs:List aN},lw w s cs -> lw w' s cs
 |.mk k name e r args t el,cs,h=>by
  rw [lw] at h⊢;obtain ⟨ce,cr,va,vt,ve,rt,re,rfl,h1,h2,h3,h4,h5,h6,h7⟩:=h;exact ⟨ce,cr,va,vt,ve,rt,re,J,jc.mono hm _ h1,h2.mono hm,h3.mono hm (λ_ _ _ h=>sQ.mono hm h),h4.mono hm,k9.mono hm t h5,h6.mono hm,k9.mono hm el h7⟩
def k9.mono{w w':aa}(hm:∀a u,w.cell? a=some u -> w'.cell? a=some u):∀(l:List aD) {rows:List (List aN)},k9 w l rows -> k9 w' l rows
 |[],rows,h=>by rw [k9] at h⊢;exact h
 |e::es,rows,h=>by
  rw [k9] at h⊢;obtain ⟨r,rs,rfl,h1,h2⟩:=h;exact ⟨r,rs,J,lw.mono hm e h1,k9.mono hm es h2⟩
end
def rN.mono{w w':aa}(hm:∀a u,w.cell? a=some u -> w'.cell? a=some u){f:a_}{cs:List aN}(h:rN w f cs):rN w' f cs:=by
 obtain ⟨vp,vb,rfl,h1,h2⟩:=h;exact ⟨vp,vb,J,h1.mono hm (λ_ _ _ h=>h),h2.mono hm (λ_ _ _ h=>lw.mono hm _ h)⟩
def wi.mono{w w':aa}(hm:∀a u,w.cell? a=some u -> w'.cell? a=some u){p:aX}{cs:List aN}(h:wi w p cs):wi w' p cs:=by
 obtain ⟨vg,vm,vf,rfl,h1,h2,h3⟩:=h;exact ⟨vg,vm,vf,J,h1.mono hm (λ_ _ _ h=>h),h2.mono hm (λ_ _ _ h=>h),h3.mono hm (λ_ _ _ h=>rN.mono hm h)⟩
def M1{P:Program}(w:aa){o:Oper}{a:Act}{K:Act -> aa -> Prop}{Q:Exit -> Act -> aa -> Prop}(s x:bb)(t:ax)
  (ho:o.op=.call {callee:=.builtin .append,args:=#[s,x],argTypes:=#[t,t]})
  (base:Nat) (e:ax) (i:TypeInfo) (z:aN) (size bytes:Nat) (ht:P.underlying t=some (.slice e)) (hi:P.info? e=some i) (hz:i.zero=some z)
  (hsize:i.size=size) (hby:i.bytes=bytes) (hzs:z.cells.size=size) (hsz:0<size)
  (v:aN) (n:Nat) (xs:List aN) (hs:a.eval s=v) (hown:w.ownsRow base e size v n xs)
  (ad:Addr) (m c:Nat) (news:List aN) (hx:a.eval x=.slice (some ad) m c) (hl:news.length=m*size) (hnews:∀j u,news[j]?=some u -> w.cell? (ad.add j)=some u) (h1:∀u∈news,u.oneCell'=true)
  (h63:n+m <= maxLen) (hbytes:(n+m)*bytes <= 140737488355328) (hbase:base <= w.heap.size)
  (h:∀v' w',w'.ownsRow base e size v' (n+m) (xs++news) -> w.grownBy w' v.ownBlock -> (∀g,v'.ownBlock=some g -> v.ownBlock=some g∨w.heap.size <= g) -> K (a.put o.dst v') w'):o.wp P a w K Q:=by
 obtain ⟨v',w',hr,h2,h3,h4⟩:=run_append_own (P:=P) w base t o.type e i z size bytes ht hi hz hsize hby hzs hsz v n xs hown ad m c news hl hnews h1 h63 hbytes hbase;have hfr:∀g,v'.ownBlock=some g -> v.ownBlock=some g∨w.heap.size <= g:=by
  rcases hown.2 with ⟨hv0,hn0⟩|⟨g,cap,cur,hv0,hbg,hg,hnc,hcm,hcs,htake⟩
  ·obtain ⟨v2,w2,hr2,h5,_,_⟩:=run_append_own (P:=P) w w.heap.size t o.type e i z size bytes ht hi hz hsize hby hzs hsz v n xs ⟨hown.1,.inl ⟨hv0,hn0⟩⟩ ad m c news hl hnews h1 h63 hbytes (bY _);rw [hr] at hr2;injection hr2 with ae e2
   subst ae;intro k hk;exact Or.inr (h5.lt k hk).1
  subst hv0;by_cases hroom:n+m <= cap
  ·have hr2:=run_append_room (P:=P) w t o.type e i ht hi g n cap cur hg ad m c news (by rw [hsize];exact hl) hnews h1 hroom (by rw [hsize,hl,hcs,←tF];exact D3 _ hroom);rw [hr] at hr2;injection hr2 with ae e2
   subst ae;intro k hk;exact .inl hk
  have holds:∀j u,xs[j]?=some u -> w.cell? ((⟨g,0,none⟩:Addr).add j)=some u:=hown.cells (g:=g) J;have hr2:=run_append_grow (P:=P) w t o.type e i z ht hi hz ⟨g,0,none⟩ n cap xs (by rw [hsize];exact hown.1) holds ad m c news (by rw [hsize];exact hl) hnews Y (by simp only [maxLen] at h63;omega) (by rw [hby];exact growslice_fits Y hbytes);rw [hr] at hr2;injection hr2 with ae e2
  subst ae;intro k hk;simp [Value.ownBlock] at hk;exact .inr Y
 unfold Oper.wp execOp;simp only [ho,resolve,invoke,builtin,dK,fo,eu,mH,ca,d7,hs,hx,hr];exact h v' w' h2 h3 hfr
inductive aO where
 |val (v:Value)
 |sl (n:Nat) (cs:List aO)
inductive j7 (w:World):aO -> Value -> Prop
 |val (v:Value) (h:v.oneCell'=true):j7 w (.val v) v
 |sl (n:Nat) (cs:List aO) (us:List Value) (v:Value) (h:eD w v n us) (hl:us.length=cs.length) (hr:∀i (h:i<cs.length) (h':i<us.length),j7 w cs[i] us[i]) (hcap:∀a k c,v=.slice a k c -> c <= 9223372036854775807):j7 w (.sl n cs) v
structure dA (w:World) (cs:List aO) (us:List Value):Prop where
 len:us.length=cs.length
 at_:∀i (h:i<cs.length) (h':i<us.length),j7 w cs[i] us[i]
inductive AT where
 |c (x:aO)
 |agg (cs:List aO)
 |fd (ts:List AT)
 |el (cs:List aO)
 |raw (v:Value)
 |fact (t:AT) (b o:Nat) (cs:List aO)
 |ride (t:AT) (p:World -> Prop)
def f7(w w':World):Prop:=(∀a u,w.cell? a=some u -> w'.cell? a=some u) /\ ∀(g:Nat)(cs:Array Value)(t:TypeId)(fz:Nat×Nat),w.heap[g]?=some (Obj.cells cs t fz) -> cs.size≠0 -> w'.heap[g]?=some (Obj.cells cs t fz)
def f7.trans{w w1 w2:aa}(h:f7 w w1)(k:f7 w1 w2):f7 w w2:=⟨λa u x=>k.1 a u (h.1 a u x),λg cs t fz x y=>k.2 g cs t fz (h.2 g cs t fz x y) y⟩
inductive cS (w:World):AT -> Value -> Prop
 |c (x:aO) (v:Value) (h:j7 w x v):cS w (.c x) v
 |agg (cs:List aO) (us:List Value) (h:dA w cs us):cS w (.agg cs) (.agg us.toArray)
 |fd (ts:List AT) (vs:List Value) (hl:vs.length=ts.length) (h:∀i (h:i<ts.length) (h':i<vs.length),cS w ts[i] vs[i]):cS w (.fd ts) (.tuple vs.toArray)
 |el (cs:List aO) (b o:Nat) (us:List Value) (h:dA w cs us) (hc:∀j u,us[j]?=some u -> w.cell? ⟨b,o+j,none⟩=some u) (hb:b<w.heap.size):cS w (.el cs) (.pointer (some ⟨b,o,none⟩))
 |raw (v:Value):cS w (.raw v) v
 |fact (t:AT) (b o:Nat) (cs:List aO) (us:List Value) (v:Value) (h:cS w t v) (hc:dA w cs us) (ha:∀j u,us[j]?=some u -> w.cell? ⟨b,o+j,none⟩=some u):cS w (.fact t b o cs) v
 |ride (t:AT) (p:World -> Prop) (v:Value) (h:cS w t v) (hp:∀w',f7 w w' -> p w'):cS w (.ride t p) v
def j7.mono{w w':aa}(hm:f7 w w'){x:aO}{v:aN}(h:j7 w x v):j7 w' x v:=by
 induction h with
 |val v h=>exact .val v h
 |sl n cs us v h hl _ hcap ih=>exact .sl n cs us v (h.mono hm.1) hl ih hcap
def dA.mono{w w':aa}(hm:f7 w w'){cs:List aO}{us:List aN}(h:dA w cs us):dA w' cs us:=⟨h.len,λi h1 h2=>(h.at_ i h1 h2).mono hm⟩
def cS.mono{w w':aa}(hm:f7 w w')(hs:w.heap.size <= w'.heap.size){x:AT}{v:aN}(h:cS w x v):cS w' x v:=by
 induction h with
 |c x v h=>exact .c x v (h.mono hm)
 |agg cs us h=>exact .agg cs us (h.mono hm)
 |fd ts vs hl _ ih=>exact .fd ts vs hl ih
 |el cs b o us h hc hb=>exact .el cs b o us (h.mono hm) (λj u hj=>hm.1 _ _ (hc j u hj)) Y
 |raw v=>exact .raw v
 |fact t b o cs us v _ hc ha ih=>exact .fact t b o cs us v ih (hc.mono hm) (λj u hj=>hm.1 _ _ (ha j u hj))
 |ride t p v _ hp ih=>exact .ride t p v ih (λw'' h=>hp w'' (hm.trans h))
def dA.nil(w:aa):dA w [] []:=⟨rfl,λi h=>absurd h aM⟩
def dA.cons{w:aa}{c:aO}{u:aN}{cs:List aO}{us:List aN}(h:j7 w c u)(t:dA w cs us):dA w (c::cs) (u::us):=
 ⟨by simp [t.len],λi h1 h2=>by cases i with|zero=>exact h|succ i=>exact t.at_ i ta qD⟩
def oK(w:aa):∀(us:List aN),(∀u,u∈us -> u.oneCell'=true) -> dA w (us.map .val) us
 |[],_=>.nil w
 |u::us,h=>.cons (.val u (h u aM)) (oK w us λx hx=>h x z_)
def j7.one{w:aa}{x:aO}{v:aN}(h:j7 w x v):v.oneCell'=true:=by
 cases h with
 |val _ h=>exact h
 |sl n cs us v hr hl hh=>obtain ⟨a,cap,he,_⟩:=hr;rw [he];rfl
def dA.get{w:aa}{cs:List aO}{us:List aN}(h:dA w cs us){i:Nat}{x:aO}(hx:cs[i]?=some x):∃u,us[i]?=some u /\ j7 w x u:=by
 obtain ⟨hi,rfl⟩:=mN.1 hx;have h2:i<us.length:=Ek;exact ⟨us[i],by simp [h2],h.at_ i hi h2⟩
def dA.drop{w:aa}{cs:List aO}{us:List aN}(h:dA w cs us)(k:Nat):dA w (cs.drop k) (us.drop k):=
 ⟨by simp [h.len],λi h1 h2=>by simpa using h.at_ (k+i) Hy E_⟩
def dA.take{w:aa}{cs:List aO}{us:List aN}(h:dA w cs us)(k:Nat):dA w (cs.take k) (us.take k):=
 ⟨by simp [h.len],λi h1 h2=>by simpa using h.at_ i Hy E_⟩
def dA.app{w:aa}{cs ds:List aO}{us vs:List aN}(h:dA w cs us)(k:dA w ds vs):dA w (cs++ds) (us++vs):=by
 refine ⟨by simp [h.len,k.len],λi h1 h2=>?_⟩;rcases jn i cs.length with hi|hi
 ·rw [sG hi,sG Ek];exact h.at_ _ _ _
 rw [rX hi,rX Ek];have e:=h.len;simp only [e];exact k.at_ _ Hy E_
def dA.set{w:aa}{cs:List aO}{us:List aN}(h:dA w cs us)(k:Nat){x:aO}{u:aN}(hx:j7 w x u):dA w (cs.set k x) (us.set k u):=by
 refine ⟨by simp [h.len],λi h1 h2=>?_⟩;rw [FH,FH];split
 ·exact hx
 exact h.at_ _ _ _
def dA.one{w:aa}{cs:List aO}{us:List aN}(h:dA w cs us):∀u,u∈us -> u.oneCell'=true:=by
 intro u hu;obtain ⟨i,hi,rfl⟩:=mT hu;exact (h.at_ i (by rw [←h.len];exact hi) hi).one
def aR(u:Value):List Nat:=match u.ownBlock with|some g=>[g]|none=>[]
structure aV where
 b:Nat
 T:TypeId
 cs:List aO
structure aQ where
 v:Value
 E:TypeId
 z:Nat
 n:Nat
 cs:List aO
def zG(g:Nat):Value:=.slice (some ⟨g,1,none⟩) 0 0
def or(e:MapEntry):List Value:=e.key::e.val.cells.toList
def qU(m:Nat)(e:MapEntry):Prop:=(∃k,e.key=.string k) /\ if m=0 then e.val.oneCell'=true else ∃us:List Value,e.val=.agg us.toArray /\ us.length=m
structure U_ (w:World) (r:aQ) (us:List Value):Prop where
 z0:r.z=0
 is:∃g es clock,r.v=zG g /\ w.heap[g]?=some (.map es clock) /\ es.size=r.n /\ us=es.toList.flatMap or /\ ∀e,e∈es.toList -> qU r.E e
def pB(w:World)(r:aQ)(us:List Value):Prop:=w.ownsRow 0 r.E r.z r.v r.n us∨U_ w r us
def pB.row{w:aa}{r:aQ}{us:List aN}(h:pB w r us)(hz:0<r.z):w.ownsRow 0 r.E r.z r.v r.n us:=h.resolve_right λh=>by have:=h.z0;omega
def pB.row0{w:aa}{r:aQ}{us:List aN}(h:pB w r us){g n c:Nat}(hv:r.v=.slice (some ⟨g,0,none⟩) n c):w.ownsRow 0 r.E r.z r.v r.n us:=h.resolve_right λh=>by
 obtain ⟨g',es,cl,e,-⟩:=h.is;rw [hv] at e;cases e
def pB.keep{w w1:aa}{r:aQ}{us:List aN}(h:pB w r us)(hk:∀g,g∈aR r.v -> w1.heap[g]?=w.heap[g]?):pB w1 r us:=by
 rcases h with ⟨h1,h2⟩|⟨h0,g,es,cl,h1,h2,h3⟩
 ·refine .inl ⟨h1,?_⟩;rcases h2 with h2|⟨g,cap,cur,hv,hg,hh,r⟩
  ·exact .inl h2
  exact .inr ⟨g,cap,cur,hv,hg,by rw [hk g (by rw [hv];simp [aR,Value.ownBlock])];exact hh,r⟩
 exact .inr ⟨h0,g,es,cl,h1,by rw [hk g (by rw [h1];simp [aR,zG,Value.ownBlock])];exact h2,h3⟩
structure aH where
 boxes:List aV
 rows:List aQ
def aH.bl(s:aH):List Nat:=s.boxes.map aV.b++s.rows.flatMap λr=>aR r.v
structure Mem (s:aH) (w:World):Prop where
 nodup:s.bl.Nodup
 lt:∀b,b∈s.bl -> b<w.heap.size
 box:∀x,x∈s.boxes -> ∃us,(∃fz:Nat×Nat,(fz=(0,0)∨us.length <= fz.1) /\ w.heap[x.b]?=some (.cells us.toArray x.T fz)) /\ dA (bh s.bl w) x.cs us
 row:∀r,r∈s.rows -> ∃us,pB w r us /\ dA (bh s.bl w) r.cs us
structure AS where
 n:Nat
 T:List Nat
 s:aH
 ts:List (Nat×AT)
def look:List (Nat×AT) -> Nat -> Option AT
 |[],_=>none
 |(i,t)::r,j=>if i=j then some t else look r j
structure e0 (st:AS) (a:Act) (w:World):Prop where
 df:a.defers=[]
 sz:a.tmps.size=st.n
 tm:∀i t,look st.ts i=some t -> ∃v,a.tmps[i]?=some v /\ cS (bh st.s.bl w) t v
 mem:Mem st.s w
structure iT (st:AS) (w:World) (st':AS) (w':World):Prop where
 keep:cQ st.s.bl w w'
 ls:cQ st.T w w'
 bl:∀b,b∈st'.s.bl -> b∈st.s.bl∨w.heap.size <= b
 T:∀b,b∈st'.T -> b∈st.T∨w.heap.size <= b
def Gj{T T1:List Nat}{w w1 w2:aa}(h:cQ T w w1)(k:cQ T1 w1 w2)(hT:∀b,b∈T1 -> b∈T∨w.heap.size <= b):cQ T w w2:=
 ⟨k.os.trans h.os,k.tape.trans h.tape,k.output.trans h.output,iN h.size k.size,λi hi hn=>(k.block i (mM hi h.size) (λhm=>(hT i hm).elim hn (λh=>Y))).trans (h.block i hi hn)⟩
def iT.trans{s0 s1 s2:AS}{w0 w1 w2:aa}(h:iT s0 w0 s1 w1)(k:iT s1 w1 s2 w2):iT s0 w0 s2 w2:=
 ⟨Gj h.keep k.keep h.bl,Gj h.ls k.ls h.T,λb hb=>(k.bl b hb).elim (h.bl b) (λh1=>.inr (iN h.keep.size h1)),λb hb=>(k.T b hb).elim (h.T b) (λh1=>.inr (iN h.keep.size h1))⟩
def iT.refl(st:AS)(w:aa):iT st w st w:=⟨cQ.refl _ _,cQ.refl _ _,λ_ h=>.inl h,λ_ h=>.inl h⟩
def KZ{bl:List Nat}{w:aa}{g:Nat}{cs:Array aN}{t:ax}{fz:Nat×Nat}(h:(bh bl w).heap[g]?=some (.cells cs t fz))(h0:cs.size≠0):g∉bl /\ w.heap[g]?=some (.cells cs t fz):=by
 have hn:g∉bl:=λhm=>by
  have hlt:g<w.heap.size:=by
   have:=(yK.1 h).1;rwa [DN] at this
  unfold bh at h;rw [DR,dif_pos hlt] at h;simp only [if_pos hm,zJ,Obj.cells.injEq] at h;exact h0 (by rw [←h.1];rfl)
 exact ⟨hn,by rw [Cs _ _ _ hn] at h;exact h⟩
def l_{T bl bl1:List Nat}{w w1:aa}(hk:cQ T w w1)(hT:∀b,b∈T -> b∈bl)(hb:∀b,b∈bl1 -> b∈bl∨w.heap.size <= b):f7 (bh bl w) (bh bl1 w1):=by
 refine ⟨λa u h=>?_,λg cs t fz h h0=>?_⟩
 ·obtain ⟨h1,h2⟩:=qL h;have hl:=mj h1;rw [pw _ _ _ (λhm=>(hb _ hm).elim h2 (λh=>Y)),hk.cell hl (λhm=>h2 (hT _ hm))];exact h1
 obtain ⟨h2,h1⟩:=KZ h h0;have hl:g<w.heap.size:=(yK.1 h1).1;rw [Cs _ _ _ (λhm=>(hb _ hm).elim h2 (λh=>Y)),hk.block g hl (λhm=>h2 (hT _ hm))];exact h1
def R7(bl:List Nat)(w:aa):f7 (bh bl w) w:=⟨λ_ _ h=>(qL h).1,λ_ _ _ _ h h0=>(KZ h h0).2⟩
def up_sub{bl bl1:List Nat}{w:aa}(hb:∀b,b∈bl1 -> b∈bl):f7 (bh bl w) (bh bl1 w):=l_ (T:=[]) (cQ.refl _ _) jf (λb h=>.inl (hb b h))
def AR{bl bl1:List Nat}{w w1:aa}(h:w.heap.size <= w1.heap.size):(bh bl w).heap.size <= (bh bl1 w1).heap.size:=by rw [DN,DN];exact h
def cS.keep{T bl bl1:List Nat}{w w1:aa}{t:AT}{v:aN}(h:cS (bh bl w) t v)(hk:cQ T w w1)(hT:∀b,b∈T -> b∈bl)(hb:∀b,b∈bl1 -> b∈bl∨w.heap.size <= b):cS (bh bl1 w1) t v:=
 h.mono (l_ hk hT hb) (AR hk.size)
def e0.put{st:AS}{a:Act}{w:aa}{d:Nat}{t:AT}{v:aN}(h:e0 st a w)(hd:d<st.n)(hr:cS (bh st.s.bl w) t v):e0 {st with ts:=(d,t)::st.ts} (a.put (some d) v) w:=by
 refine ⟨h.df,by simp [Act.put,h.sz],λi u hu=>?_,h.mem⟩;simp only [look] at hu;split at hu
 ·rename_i he;subst he;cases hu;exact ⟨v,by simp [Act.put,h.sz,hd],hr⟩
 rename_i he;obtain ⟨x,h1,h2⟩:=h.tm i u hu;exact ⟨x,by simp only [Act.put];rw [Lp he];exact h1,h2⟩
def cS.aOx{bl bl1:List Nat}{w w1:aa}{t:AT}{v:aN}(h:cS (bh bl w) t v)(hk:cQ bl w w1)(hb:∀b,b∈bl1 -> b∈bl∨w.heap.size <= b):cS (bh bl1 w1) t v:=h.keep hk (λ_ h=>h) hb
def e0.step{st:AS}{a:Act}{w w1:aa}{s1:aH}(T1:List Nat)(h:e0 st a w)(hk:cQ st.s.bl w w1)(hm:Mem s1 w1)(hb:∀b,b∈s1.bl -> b∈st.s.bl∨w.heap.size <= b):e0 {st with s:=s1,T:=T1} a w1:=
 ⟨h.df,h.sz,λi t ht=>let ⟨v,h1,h2⟩:=h.tm i t ht;⟨v,h1,h2.aOx hk hb⟩,hm⟩
def En(bl:List Nat)(w:aa):f7 (bh bl w) (bh bl w.drew):=l_ (T:=[]) (cQ.refl _ _).drew jf (λb h=>.inl h)
def Mem.drew{s:aH}{w:aa}(h:Mem s w):Mem s w.drew:=
 ⟨h.nodup,h.lt,λx hx=>let ⟨us,h1,h2⟩:=h.box x hx;⟨us,h1,h2.mono (En _ _)⟩,λr hr=>let ⟨us,h1,h2⟩:=h.row r hr;⟨us,h1.keep λ_ _=>rfl,h2.mono (En _ _)⟩⟩
def e0.drew{st:AS}{a:Act}{w:aa}(h:e0 st a w):e0 st a w.drew:=⟨h.df,h.sz,λi t ht=>let ⟨v,h1,h2⟩:=h.tm i t ht;⟨v,h1,h2.mono (En _ _) (AR (bY _))⟩,h.mem.drew⟩
def gO:Value -> AT
 |.agg cs=>if cs.toList.all (·.oneCell') then .agg (cs.toList.map .val) else .raw (.agg cs)
 |.tuple vs=>.raw (.tuple vs)
 |v=>.c (.val v)
def AX(w:aa)(v:aN):cS w (gO v) v:=by
 cases v with
 |agg cs=>
  show cS w (if cs.toList.all (·.oneCell') then .agg (cs.toList.map .val) else .raw (.agg cs)) _
  split
  ·rename_i h;exact cS.agg _ cs.toList (oK w _ λu hu=>by simpa using fC.1 h u hu)
  ·exact .raw _
 |tuple vs=>exact .raw _
 |_=>exact cS.c _ _ (.val _ rfl)
def AT.bare:AT -> AT
 |.fact (.fact t _ _ _) _ _ _=>t
 |.fact t _ _ _=>t
 |.ride t _=>t
 |t=>t
def cS.bare{w:aa}{t:AT}{v:aN}(h:cS w t v):cS w t.bare v:=by
 cases h with
 |fact t b o cs us v h _ _=>
  cases h with
  |fact t b o cs us v h _ _=>exact h
  |c x v h=>exact .c x v h
  |agg cs us h=>exact .agg cs us h
  |fd ts vs hl h=>exact .fd ts vs hl h
  |el cs b o us h hc hb=>exact .el cs b o us h hc hb
  |raw v=>exact .raw v
  |ride t p v h hp=>exact .ride t p v h hp
 |c x v h=>exact .c x v h
 |agg cs us h=>exact .agg cs us h
 |fd ts vs hl h=>exact .fd ts vs hl h
 |el cs b o us h hc hb=>exact .el cs b o us h hc hb
 |raw v=>exact .raw v
 |ride t p v h _=>exact h
def aw(st:AS):Operand -> Option AT
 |.tmp t=>(look st.ts t).map AT.bare
 |.const v=>some (gO v)
 |.global g=>some (.c (.val (.pointer (some ⟨g,0,none⟩))))
 |.func f=>some (.c (.val (.func (.func f) #[] #[])))
def e0.ev{st:AS}{a:Act}{w:aa}(h:e0 st a w){x:bb}{t:AT}(hx:aw st x=some t):cS (bh st.s.bl w) t (a.eval x):=by
 cases x with
 |tmp i=>
  obtain ⟨t0,h0,rfl⟩:=zn.1 hx;obtain ⟨v,h1,h2⟩:=h.tm i t0 h0;show cS _ _ (a.tmps.getD i undef);rw [jW,h1];exact h2.bare
 |const v=>cases hx;exact AX _ v
 |global g=>cases hx;exact cS.c _ _ (.val _ rfl)
 |func f=>cases hx;exact cS.c _ _ (.val _ rfl)
def e0.val{st:AS}{a:Act}{w:aa}(h:e0 st a w){x:bb}{v:aN}(hx:aw st x=some (.c (.val v))):a.eval x=v:=by
 have:=h.ev hx;generalize a.eval x=u at this;cases this with|c _ _ h=>cases h;rfl
def xZ(want:Bool):Value -> Bool
 |.bool b=>b == want
 |_=>false
def d6(ops:Array Oper)(o:Oper)(st:AS):Option Bool:=
 match o.guard with
 |none=>some true
 |some (j,want)=>
  match (ops.toList[j]?).bind (·.dst) with
  |none=>none
  |some t=>match look st.ts t with
   |some (.c (.val v))=>some (xZ want v)
   |some (.raw v)=>some (xZ want v)
   |_=>none
def xL{ops:Array Oper}{o:Oper}{st:AS}{a:Act}{w:aa}{b:Bool}(h:e0 st a w)(hw:d6 ops o st=some b):Region.wanted o (yielded ops a.tmps)=b:=by
 unfold d6 at hw;unfold Region.wanted;cases hg:o.guard with
 |none=>rw [hg] at hw;cases hw;rfl
 |some p=>
  obtain ⟨j,want⟩:=p;rw [hg] at hw;dsimp only at hw⊢;cases hd:(ops.toList[j]?).bind (·.dst) with
  |none=>rw [hd] at hw;cases hw
  |some t=>
   rw [hd] at hw;dsimp only at hw;cases hl:look st.ts t with
   |none=>rw [hl] at hw;cases hw
   |some x=>
    have key:∀v,(∀u,cS (bh st.s.bl w) x u -> u=v) -> some (xZ want v)=some b -> ((yielded ops a.tmps j) == some want)=b:=by
     intro v hv hw;injection hw with hw
     obtain ⟨u,h1,h2⟩:=h.tm t _ hl;have hu:u=v:=hv u h2;subst hu;have hd':(ops[j]?).bind (·.dst)=some t:=by rw [←nd];exact hd
     rw [←hw];have hy:∀z:Option aN,a.tmps[t]?=z -> yielded ops a.tmps j=(match z with|some (.bool b)=>some b|_=>none):=by
      rintro _ rfl;unfold yielded;rw [hd'];rfl
     rw [hy _ h1];clear hy h2 hl hw h1 hv;cases u<;>simp [xZ]
    cases x with
    |c y=>
     cases y with
     |val v=>
      rw [hl] at hw;exact key v (λu hu=>by cases hu with|c _ _ h=>cases h;rfl) hw
     |sl _ _=>rw [hl] at hw;cases hw
    |raw v=>
     rw [hl] at hw;exact key v (λu hu=>by cases hu;rfl) hw
    |_=>rw [hl] at hw;cases hw
section
variable {P:Program}
def bi(P:Program)(c:Code)(st:AS)(Q:Exit -> AS -> Prop):Prop:=
 ∀a w,e0 st a w -> ∀QQ:Exit -> Act -> World -> Prop,(∀e a' w' st',Q e st' -> e0 st' a' w' -> iT st w st' w' -> QQ e a' w') -> c.wp P QQ a w
def cN(P:Program)(ops:Array Oper)(l:List Oper)(st:AS)(Q:Exit -> AS -> Prop):Prop:=
 ∀a w,e0 st a w -> ∀QQ:Exit -> Act -> World -> Prop,(∀e a' w' st',Q e st' -> e0 st' a' w' -> iT st w st' w' -> QQ e a' w') -> wpList P ops QQ l a w
def cp(P:Program)(U:List Nat)(o:Oper)(st:AS)(t:AT):Prop:=
 ∀a w,e0 st a w -> (∀b,b∈U -> b∈st.s.bl) -> ∃v,cS (bh st.s.bl w) t v /\ ∀w',cQ U w w' -> (execOp a.eval o).run P w'=.ok (.value v) w'
def db(P:Program)(U:List Nat)(o:Oper)(st:AS)(K:AS -> Prop):Prop:=
 ∀a w,e0 st a w -> ∀(KK:Act -> World -> Prop)(QQ:Exit -> Act -> World -> Prop),(∀a' w' st',K st' -> e0 st' a' w' -> iT st w st' w' -> cQ U w w' -> KK a' w') -> o.wp P a w KK QQ
def lH(K:AS -> Prop)(Q:Exit -> AS -> Prop):Exit -> AS -> Prop
 |.normal,s=>K s
 |e,s=>Q e s
def rQ(id:Nat)(Q:Exit -> AS -> Prop):Exit -> AS -> Prop
 |.exit id',s=>if id'=id then Q .normal s else Q (.exit id') s
 |e,s=>Q e s
def sK{c:Code}{st:AS}{Q Q':Exit -> AS -> Prop}(h:bi P c st Q)(hq:∀e s,Q e s -> Q' e s):bi P c st Q':=
 λa w hs QQ hQ=>h a w hs QQ λe a' w' st' q=>hQ e a' w' st' (hq _ _ q)
def Sub(st st':AS):Prop:=∀a w,e0 st a w -> e0 st' a w /\ (∀b,b∈st'.s.bl -> b∈st.s.bl) /\ ∀b,b∈st'.T -> b∈st.T
def Sub.ext{st st':AS}(h:Sub st st'){a:Act}{w:aa}(hs:e0 st a w):iT st w st' w:=⟨cQ.refl _ _,cQ.refl _ _,λb hb=>.inl ((h a w hs).2.1 b hb),λb hb=>.inl ((h a w hs).2.2 b hb)⟩
def Sub.refl(st:AS):Sub st st:=λa w h=>⟨h,λ_ h=>h,λ_ h=>h⟩
def Sub.trans{a b c:AS}(h:Sub a b)(k:Sub b c):Sub a c:=λx w hs=>⟨(k x w (h x w hs).1).1,λy hy=>(h x w hs).2.1 y ((k x w (h x w hs).1).2.1 y hy),λy hy=>(h x w hs).2.2 y ((k x w (h x w hs).1).2.2 y hy)⟩
def rY{c:Code}{st st':AS}{Q:Exit -> AS -> Prop}(hs:Sub st st')(h:bi P c st' Q):bi P c st Q:=
 λa w hS QQ hQ=>h a w (hs a w hS).1 QQ λe a' w' st2 q s2 k=>hQ e a' w' st2 q s2 ((hs.ext hS).trans k)
def u'{ops:Array Oper}{l:List Oper}{st st':AS}{Q:Exit -> AS -> Prop}(hs:Sub st st')(h:cN P ops l st' Q):cN P ops l st Q:=
 λa w hS QQ hQ=>h a w (hs a w hS).1 QQ λe a' w' st2 q s2 k=>hQ e a' w' st2 q s2 ((hs.ext hS).trans k)
def yy{x y:Code}{st:AS}{Q:Exit -> AS -> Prop}(h:bi P x st (lH (λs=>bi P y s Q) Q)):bi P (.seq x y) st Q:=by
 intro a w hs QQ hQ;refine wp_seq (h a w hs _ ?_);intro e a' w' st' q s' k;cases e with
 |normal=>exact q a' w' s' QQ λe a2 w2 st2 q2 s2 k2=>hQ e a2 w2 st2 q2 s2 (k.trans k2)
 |_=>exact hQ _ a' w' st' q s' k
def iD{c:bb}{x y:Code}{st:AS}{Q:Exit -> AS -> Prop}{b:Bool}(hc:aw st c=some (.c (.val (.bool b))))(ht:b=true -> bi P x st Q)(hf:b=false -> bi P y st Q):bi P (.cond c x y) st Q:=by
 intro a w hs QQ hQ;exact wp_cond_split (hs.val hc) (λh=>ht h a w hs QQ hQ) (λh=>hf h a w hs QQ hQ)
def XX{id:Nat}{c:Code}{st:AS}{Q:Exit -> AS -> Prop}(h:bi P c st (rQ id Q)):bi P (.block id c) st Q:=by
 intro a w hs QQ hQ;refine wp_block (h a w hs _ ?_);intro e a' w' st' q s' k;cases e with
 |exit id'=>
  simp only [rQ] at q;simp only [Exit.inBlock];split
  ·rename_i he;rw [if_pos he] at q;exact hQ _ a' w' st' q s' k
  ·rename_i he;rw [if_neg he] at q;exact hQ _ a' w' st' q s' k
 |_=>exact hQ _ a' w' st' q s' k
def Y0{id:Nat}{st:AS}{Q:Exit -> AS -> Prop}(h:Q (.exit id) st):bi P (.exit id) st Q:=λa w hs QQ hQ=>wp_exit (hQ _ a w st h hs (iT.refl _ _))
def WL{st:AS}{Q:Exit -> AS -> Prop}(h:Q .ret st):bi P .ret st Q:=λa w hs QQ hQ=>wp_ret (hQ _ a w st h hs (iT.refl _ _))
def Xv{st:AS}{Q:Exit -> AS -> Prop}(h:Q .normal st):bi P .skip st Q:=λa w hs QQ hQ=>wp_skip (hQ _ a w st h hs (iT.refl _ _))
def fv{α:Type}(I:α -> AS)(p:α -> Prop)(μ:α -> Nat)(g0:α){c:Code}{st:AS}{Q:Exit -> AS -> Prop}(hs:Sub st (I g0))(hp:p g0)
  (round:∀g,p g -> bi P c (I g) (lH (λs=>∃g',p g' /\ μ g'<μ g /\ Sub s (I g')) Q)):bi P (.loop c) st Q:=by
 intro a w hS QQ hQ;refine wp_loop_ghost (λn a' w'=>∃g,p g /\ μ g=n /\ e0 (I g) a' w' /\ iT st w (I g) w') (μ g0) ⟨g0,hp,J,(hs a w hS).1,hs.ext hS⟩ ?_;rintro n a1 w1 ⟨g,hg,rfl,s1,k1⟩;refine round g hg a1 w1 s1 _ ?_;intro e a' w' st' q s' k;cases e with
 |normal=>
  obtain ⟨g',hg',hlt,hsub⟩:=q;exact ⟨_,hlt,g',hg',J,(hsub a' w' s').1,(k1.trans k).trans (hsub.ext s')⟩
 |_=>exact hQ _ a' w' st' q s' (k1.trans k)
def O2{id:Nat}{l:List Oper}{st:AS}{Q:Exit -> AS -> Prop}(h:cN P l.toArray l st Q):bi P (.region id l.toArray false) st Q:=
 λa w hs QQ hQ=>wp_region_lit (h a w hs QQ hQ)
def My{ops:Array Oper}{st:AS}{Q:Exit -> AS -> Prop}(h:Q .normal st):cN P ops [] st Q:=λa w hs QQ hQ=>hQ _ a w st h hs (iT.refl _ _)
def VM{ops:Array Oper}{o:Oper}{l:List Oper}{st:AS}{Q:Exit -> AS -> Prop}{d:Nat}{t:AT}(hw:d6 ops o st=some true)(hd:o.dst=some d)(hn:d<st.n)(hy:cp P [] o st t)
  (h:cN P ops l {st with ts:=(d,t)::st.ts} Q):cN P ops (o::l) st Q:=by
 intro a w hs QQ hQ;obtain ⟨v,hr,hx⟩:=hy a w hs jf;refine wpList_step λK hK=>?_;rw [if_pos (xL hs hw)];unfold Oper.wp;rw [hx w (cQ.refl _ _),Oper.upon_value,hd];exact hK _ _ (h _ _ (hs.put hn hr) QQ λe a' w' st' q s' k=>hQ e a' w' st' q s' ⟨k.keep,k.ls,k.bl,k.T⟩)
def Wc{ops:Array Oper}{o:Oper}{l:List Oper}{st:AS}{Q:Exit -> AS -> Prop}{d:Nat}(hw:d6 ops o st=some false)(hd:o.dst=some d)(hn:d<st.n)
  (h:cN P ops l {st with ts:=(d,.raw undef)::st.ts} Q):cN P ops (o::l) st Q:=by
 intro a w hs QQ hQ;refine wpList_step λK hK=>?_;rw [if_neg (by rw [xL hs hw];decide),hd];exact hK _ _ (h _ _ (hs.put hn (.raw _)) QQ λe a' w' st' q s' k=>hQ e a' w' st' q s' ⟨k.keep,k.ls,k.bl,k.T⟩)
def Xf{ops:Array Oper}{o:Oper}{l:List Oper}{st:AS}{Q:Exit -> AS -> Prop}(hw:d6 ops o st=some true)(h:db P st.T o st λs=>cN P ops l s Q):cN P ops (o::l) st Q:=by
 intro a w hs QQ hQ;refine wpList_step λK hK=>?_;rw [if_pos (xL hs hw)];refine h a w hs K QQ λa' w' st' q s' k _=>hK _ _ (q a' w' s' QQ λe a2 w2 st2 q2 s2 k2=>hQ e a2 w2 st2 q2 s2 (k.trans k2))
def Ed{md:Region.Mode}{ops:Array Oper}{Q:Exit -> Act -> aa -> Prop}{S S':aa -> Prop}(hS:∀w,S' w -> S w):∀(fuel:Nat)(listed:Array Bool)(a:Act)(w:aa),wpAnyH P md ops Q S' fuel listed a w -> wpAnyH P md ops Q S fuel listed a w
 |0,_,_,_,h=>h
 |fuel+1,_,_,_,h=>⟨h.1,λi hi=>wpOp_mono (λ_ _ h'=>⟨hS _ h'.1,Ed hS fuel _ _ _ h'.2⟩) (h.2 i hi)⟩
def fq(s:aH)(Z:List Nat):List Nat:=s.bl.filter λb=>!Z.contains b
def gZ{s:aH}{Z:List Nat}{b:Nat}:b∈fq s Z↔b∈s.bl /\ b∉Z:=by unfold fq;simp
def Yr{s:aH}{Z:List Nat}:∀b,b∈fq s Z -> b∈s.bl:=λ_ h=>(gZ.1 h).1
def dq(P:Program)(ops:Array Oper)(Z:List Nat)(fuel:Nat)(listed:Array Bool)(st:AS)(Q:AS -> Prop):Prop:=
 ∀a w,e0 st a w -> ∀QQ:Exit -> Act -> World -> Prop,(∀c a w,¬QQ (.panic c) a w) -> (∀a' w' st',Q st' -> e0 st' a' w' -> iT st w st' w' -> QQ .normal a' w') ->
  wpAnyH P .any ops QQ (λw'=>cQ (fq st.s Z) w w') fuel listed a w
def Rj{id:Nat}{ops:Array Oper}{st:AS}{Q:Exit -> AS -> Prop}(Z:List Nat)(hm:P.follows .mixedOrders=true)(h:dq P ops Z ops.size (Array.replicate ops.size false) st (Q .normal)):bi P (.region id ops true) st Q:=by
 intro a w hs QQ hQ;refine Code.wp_mono (Q:=λe a' w'=>match e with|.normal=>QQ .normal a' w'|_=>False) Ji ?_;refine wp_region_held_drew (S:=λw'=>cQ (fq st.s Z) w.drew w') hm (cQ.refl _ _) λ_=>?_;refine h a w.drew hs.drew _ (λ_ _ _ q=>q) λa' w' st' q s' k=>hQ _ a' w' st' q s' ⟨⟨k.keep.os,k.keep.tape,k.keep.output,k.keep.size,k.keep.block⟩,⟨k.ls.os,k.ls.tape,k.ls.output,k.ls.size,k.ls.block⟩,k.bl,k.T⟩
def ZM{ops:Array Oper}{Z:List Nat}{fuel:Nat}{listed:Array Bool}{st:AS}{Q:AS -> Prop}(hr:Region.ready .any ops listed=[])(h:Q st):dq P ops Z fuel listed st Q:=
 λa w hs QQ _ hQ=>wpAnyH_done hr (hQ a w st h hs (iT.refl _ _)) _
def PT(i:Nat){ops:Array Oper}{Z:List Nat}{fuel:Nat}{listed:Array Bool}{st:AS}{Q:AS -> Prop}{o:Oper}{d:Nat}{t:AT}(hr:(Region.ready .any ops listed).contains i=true)(hi:ops.toList[i]?=some o)(hf:Region.free .any ops listed i=true)(hsel:Region.noSelect ops=true)
  (hw:d6 ops o st=some true) (hd:o.dst=some d) (hn:d<st.n) (hy:cp P (fq st.s Z) o st t) (h:dq P ops Z fuel (listed.setIfInBounds i true) {st with ts:=(d,t)::st.ts} Q):dq P ops Z (fuel+1) listed st Q:=by
 intro a w hs QQ hp hQ;obtain ⟨v,hrep,hx⟩:=hy a w hs Yr;refine wpAnyH_take (v:=v) Fu hsel hf hr (λc a w q=>(hp _ _ _ q).elim) (Or.inl ⟨xL hs hw,hx⟩) (cQ.refl _ _) ?_;rw [hd];exact h _ _ (hs.put hn hrep) QQ hp λa' w' st' q s' k=>hQ a' w' st' q s' ⟨k.keep,k.ls,k.bl,k.T⟩
def Vu(i:Nat){ops:Array Oper}{Z:List Nat}{fuel:Nat}{listed:Array Bool}{st:AS}{Q:AS -> Prop}{o:Oper}{d:Nat}(hr:(Region.ready .any ops listed).contains i=true)(hi:ops.toList[i]?=some o)(hf:Region.free .any ops listed i=true)(hsel:Region.noSelect ops=true)
  (hw:d6 ops o st=some false) (hd:o.dst=some d) (hn:d<st.n) (h:dq P ops Z fuel (listed.setIfInBounds i true) {st with ts:=(d,.raw undef)::st.ts} Q):dq P ops Z (fuel+1) listed st Q:=by
 intro a w hs QQ hp hQ;refine wpAnyH_take (v:=undef) Fu hsel hf hr (λc a w q=>(hp _ _ _ q).elim) (Or.inr ⟨xL hs hw,J⟩) (cQ.refl _ _) ?_;rw [hd];exact h _ _ (hs.put hn (.raw _)) QQ hp λa' w' st' q s' k=>hQ a' w' st' q s' ⟨k.keep,k.ls,k.bl,k.T⟩
def Ar(P:Program)(ops:Array Oper)(Z:List Nat)(fuel:Nat)(listed:Array Bool)(st:AS)(Q:AS -> Prop)(rs:List Nat):Prop:=
 ∀a w,e0 st a w -> ∀QQ:Exit -> Act -> World -> Prop,(∀c a w,¬QQ (.panic c) a w) -> (∀a' w' st',Q st' -> e0 st' a' w' -> iT st w st' w' -> QQ .normal a' w') ->
  AllReadyH P .any ops QQ (λw'=>cQ (fq st.s Z) w w') fuel listed a w rs
def Dg{rs:List Nat}{ops:Array Oper}{Z:List Nat}{fuel:Nat}{listed:Array Bool}{st:AS}{Q:AS -> Prop}(hr:Region.ready .any ops listed=rs)(hne:rs.isEmpty=false)(h:Ar P ops Z fuel listed st Q rs):dq P ops Z (fuel+1) listed st Q:=
 λa w hs QQ hp hQ=>wpAnyH_ready hr (by cases rs;cases hne;simp) (h a w hs QQ hp hQ)
def D'{ops:Array Oper}{Z:List Nat}{fuel:Nat}{listed:Array Bool}{st:AS}{Q:AS -> Prop}:Ar P ops Z fuel listed st Q []:=λa w hs QQ hp hQ=>AllReadyH.nil
def uc{i:Nat}{rs:List Nat}{ops:Array Oper}{Z:List Nat}{fuel:Nat}{listed:Array Bool}{st:AS}{Q:AS -> Prop}{o:Oper}(hi:ops.toList[i]?=some o)(hw:d6 ops o st=some true)
  (h:db P (fq st.s Z) o st λs=>dq P ops Z fuel (listed.setIfInBounds i true) s Q) (hs2:Ar P ops Z fuel listed st Q rs):Ar P ops Z fuel listed st Q (i::rs):=by
 intro a w hs QQ hp hQ;refine AllReadyH.cons Fu (λK' hK=>?_) (hs2 a w hs QQ hp hQ);rw [if_pos (xL hs hw)];refine h a w hs K' QQ λa' w' st' q s' k hk=>?_;refine hK.out a' w' hk λ_=>?_;refine Ed (S':=λw2=>cQ (fq st'.s Z) w' w2) (λw2 h2=>Gj hk h2 λb hb=>?_) _ _ _ _ ?_
 ·obtain ⟨h3,h4⟩:=gZ.1 hb;exact (k.bl b h3).imp (λh5=>gZ.2 ⟨h5,h4⟩) id
 exact q a' w' s' QQ hp λa2 w2 st2 q2 s2 k2=>hQ a2 w2 st2 q2 s2 (k.trans k2)
def aT(P:Program)(F:FuncId)(args:List AT)(T:List Nat)(s:aH)(Q:AT -> aH -> Prop):Prop:=
 ∀(vs:List Value)(w:World),Mem s w -> (∀b,b∈T -> b∈s.bl) -> vs.length=args.length -> (∀i (h:i<args.length) (h':i<vs.length),cS (bh s.bl w) args[i] vs[i]) ->
  Calls P F vs.toArray w λen w'=>∃r v s',en=.returned v /\ Q r s' /\ cS (bh s'.bl w') r v /\ Mem s' w' /\ cQ T w w' /\ ∀b,b∈s'.bl -> b∈s.bl∨w.heap.size <= b
def aT.mono{F:FuncId}{args:List AT}{T:List Nat}{s:aH}{Q Q':AT -> aH -> Prop}(h:aT P F args T s Q)(hq:∀r s,Q r s -> Q' r s):aT P F args T s Q':=
 λvs w hm hT hl hr=>(h vs w hm hT hl hr).mono λ_ _ ⟨r,v,s',h1,h2,h3⟩=>⟨r,v,s',h1,hq _ _ h2,h3⟩
def J_{α β:Type}(f:α -> List β){l m:List α}(h:l.Sublist m):(l.flatMap f).Sublist (m.flatMap f):=by
 induction h with
 |slnil=>exact List.Sublist.slnil
 |cons a _ ih=>rw [eZ];exact ih.trans (List.sublist_append_right _ _)
 |cons_cons a _ ih=>rw [eZ,eZ];exact CU (wR _) ih
def jJ(s s':aH):Prop:=∀w,Mem s w -> Mem s' w /\ ∀b,b∈s'.bl -> b∈s.bl
def jJ.refl(s:aH):jJ s s:=λ_ h=>⟨h,λ_ h=>h⟩
def ah{s s':aH}(h1:s'.boxes.Sublist s.boxes)(h2:s'.rows.Sublist s.rows):jJ s s':=by
 intro w hm;have hbl:s'.bl.Sublist s.bl:=CU (h1.map _) (J_ _ h2);have hu:f7 (bh s.bl w) (bh s'.bl w):=up_sub λb hb=>hbl.subset hb;exact ⟨⟨hbl.nodup hm.nodup,λb hb=>hm.lt b (hbl.subset hb),λx hx=>let ⟨us,e,r⟩:=hm.box x (h1.subset hx);⟨us,e,r.mono hu⟩,λx hx=>let ⟨us,e,r⟩:=hm.row x (h2.subset hx);⟨us,e,r.mono hu⟩⟩,λb hb=>hbl.subset hb⟩
def nb(P:Program)(fn:Func)(st:AS)(r:AT):Prop:=∀a w,e0 st a w -> ∃v,cS (bh st.s.bl w) r v /\ (results fn a.tmps).run P w=.ok v w
def ux:Nat -> List AT -> List (Nat×AT)
 |_,[]=>[]
 |k,t::ts=>(k,t)::ux (k+1) ts
def Pd:∀(ts:List AT)(k i:Nat)(t:AT),look (ux k ts) i=some t -> k <= i /\ ts[i-k]?=some t
 |[],_,_,_,h=>gQ
 |u::ts,k,i,t,h=>by
  simp only [ux,look] at h;split at h
  ·rename_i he;subst he;cases h;simp
  obtain ⟨h1,h2⟩:=Pd ts (k+1) i t h;refine ⟨Y,?_⟩;obtain ⟨j,rfl⟩:∃j,i=k+1+j:=⟨i-(k+1),Y⟩;have ae:k+1+j-k=j+1:=Y;have e2:k+1+j-(k+1)=j:=Y;rw [ae];rw [e2] at h2;simpa using h2
def LE{F:FuncId}{fn:Func}{c:Code}{args:List AT}{T:List Nat}{s:aH}{Q:AT -> aH -> Prop}(hf:P.funcs[F]?=some fn)(hb:fn.body=some c)(hl:args.length <= fn.ntmps)
  (h:bi P c ⟨fn.ntmps,T,s,ux 0 args⟩ λe st=>(e=.normal∨e=.ret) /\ ∃r s',nb P fn st r /\ jJ st.s s' /\ Q r s'):aT P F args T s Q:=by
 intro vs w hm hT hvl hr;refine calls_of_wp hf hb ?_;refine h _ w ⟨J,?_,λi t ht=>?_,hm⟩ _ ?_
 ·simp;omega
 ·obtain ⟨-,h2⟩:=Pd args 0 i t ht;simp only [yi] at h2;obtain ⟨hi,rfl⟩:=mN.1 h2;have hi':i<vs.length:=Y;refine ⟨vs[i],?_,hr i hi hi'⟩;rw [E3 (by simpa using hi')];simp [hi']
 intro e a' w' st' q s' k;obtain ⟨he,r,s2,hres,hsub,hq⟩:=q;obtain ⟨v,h1,h2⟩:=hres a' w' s';obtain ⟨hm2,hbl⟩:=hsub w' s'.mem;rcases he with rfl|rfl;rotate_left;all_goals
  exact ⟨s'.df,v,h2,⟨r,v,s2,J,hq,h1.mono (up_sub hbl) (AR (bY _)),hm2,k.ls,λb hb=>k.bl b (hbl b hb)⟩⟩
end
end
section
open Go.RowKit
def D7(op:BinOp)(k:IntKind)(m n:Int):Option Int:=match op with|.add=>some (k.wrap (m+n))|.sub=>some (k.wrap (m-n))|.mul=>some (k.wrap (m*n))|_=>none
def ef(op:BinOp)(m n:Int):Option Bool:=match op with|.eql=>some (m == n)|.neq=>some (m != n)|.lss=>some (decide (m<n))|.leq=>some (decide (m <= n))|.gtr=>some (decide (n<m))|.geq=>some (decide (n <= m))|_=>none
def Kz(op:BinOp)(k:IntKind)(m n:Int):Option Int:=match op with|.quo=>some (k.wrap (m.tdiv n))|.rem=>some (m.tmod n)|_=>none
def l8(op:BinOp)(m n:ByteArray):Option Bool:=match op with|.eql=>some (decide (m=n))|.neq=>some (!decide (m=n))|_=>none
def ya(op:BinOp)(m n:Bool):Option Bool:=match op with|.eql=>some (m == n)|.neq=>some (m != n)|_=>none
section
variable {P:Program}{U:List Nat}{o:Oper}{st:AS}
def cS.val{w:aa}{x v:aN}(h:cS w (.c (.val x)) v):v=x:=by cases h with|c _ _ h=>cases h;rfl
def oh{x:bb}{t:AT}(ho:o.op=.move x)(hx:aw st x=some t):cp P U o st t:=by
 intro a w hs _;exact ⟨a.eval x,hs.ev hx,λw' _=>by simp only [execOp,ho];rfl⟩
def Ag{x:bb}{t:AT}(ho:o.op=.assign x)(hx:aw st x=some t):cp P U o st t:=by
 intro a w hs _;exact ⟨a.eval x,hs.ev hx,λw' _=>by simp only [execOp,ho];rfl⟩
def N4{c x y:bb}{b:Bool}{t:AT}(ho:o.op=.pick c x y)(hc:aw st c=some (.c (.val (.bool b))))(hx:aw st (if b then x else y)=some t):cp P U o st t:=by
 intro a w hs _;refine ⟨a.eval (if b then x else y),hs.ev hx,λw' _=>?_⟩;simp only [execOp,ho,hs.val hc];cases b<;>simp [go_sem]
def iM{v:aN}(h1:v.oneCell'=true)(h:∀a w,e0 st a w -> ∀w',(execOp a.eval o).run P w'=.ok (.value v) w'):cp P U o st (.c (.val v)):=
 λa w hs _=>⟨v,.c _ _ (.val _ h1),λw' _=>h a w hs w'⟩
def Jc{op:BinOp}{k:IntKind}{t yt:ax}{x y:bb}{m n r:Int}(ho:o.op=.binOp op t x y yt)(hx:aw st x=some (.c (.val (.int k m))))(hy:aw st y=some (.c (.val (.int k n))))
  (hr:D7 op k m n=some r):cp P U o st (.c (.val (.int k r))):=
 iM rfl λa w hs w'=>by
  simp only [execOp,ho,hs.val hx,hs.val hy];cases op<;>simp_all [go_sem,eqGuard,binOp,Op.intArith,D7]
def ei{op:BinOp}{k:IntKind}{t yt:ax}{x y:bb}{m n:Int}(r:Bool)(ho:o.op=.binOp op t x y yt)(hx:aw st x=some (.c (.val (.int k m))))(hy:aw st y=some (.c (.val (.int k n))))
  (hr:ef op m n=some r):cp P U o st (.c (.val (.bool r))):=
 iM rfl λa w hs w'=>by
  simp only [execOp,ho,hs.val hx,hs.val hy];cases op<;>simp_all [go_sem,eqGuard,binOp,Op.intCmp,ef]
def E7{op:BinOp}{k:IntKind}{t yt:ax}{x y:bb}{m n r:Int}(ho:o.op=.binOp op t x y yt)(hx:aw st x=some (.c (.val (.int k m))))(hy:aw st y=some (.c (.val (.int k n))))(hn:n≠0)
  (hr:Kz op k m n=some r):cp P U o st (.c (.val (.int k r))):=
 iM rfl λa w hs w'=>by
  simp only [execOp,ho,hs.val hx,hs.val hy];cases op<;>simp_all [go_sem,eqGuard,binOp,Op.intDiv,Kz]
def fS{op:BinOp}{t yt:ax}{x y:bb}{m n:aI}(r:Bool)(ho:o.op=.binOp op t x y yt)(hx:aw st x=some (.c (.val (.string m))))(hy:aw st y=some (.c (.val (.string n))))
  (hr:l8 op m n=some r):cp P U o st (.c (.val (.bool r))):=
 iM rfl λa w hs w'=>by
  have e:(m.toList == n.toList)=decide (m=n):=by
   by_cases h:m=n
   ·rw [Ke h,decide_eq_true h]
   rw [Jo h,decide_eq_false h]
  simp only [execOp,ho,hs.val hx,hs.val hy];cases op<;>simp_all [go_sem,eqGuard,binOp,Op.stringOp,l8]
def I4{t yt:ax}{x y:bb}{m n:aI}(ho:o.op=.binOp .add t x y yt)(hx:aw st x=some (.c (.val (.string m))))(hy:aw st y=some (.c (.val (.string n))))(hl:m.size+n.size <= 9223372036854775807):cp P U o st (.c (.val (.string (m++n)))):=
 iM rfl λa w hs w'=>by
  have h:¬(((m.size+n.size:Nat):Int)>IntKind.i64.max):=by rw [show IntKind.i64.max=9223372036854775807 from by decide];omega
  simp only [execOp,ho,hs.val hx,hs.val hy];simp [go_sem,eqGuard,binOp,Op.stringOp];omega
def run_equal_bool(d:Nat){t:ax}(m n:Bool)(w:aa)(hu:∀w,(underlying t).run P w=.ok .bool w):(Op.equalIn (d+1) t (.bool m) (.bool n)).run P w=.ok (m == n) w:=by
 simp [Op.equalIn,go_sem,hu]
def jY{op:BinOp}{t yt:ax}{x y:bb}{m n:Bool}(r:Bool)(ho:o.op=.binOp op t x y yt)(hx:aw st x=some (.c (.val (.bool m))))(hy:aw st y=some (.c (.val (.bool n))))
  (hu:∀w,(underlying t).run P w=.ok .bool w) (hr:ya op m n=some r):cp P U o st (.c (.val (.bool r))):=
 iM rfl λa w hs w'=>by
  have e2:(Op.equal t (.bool m) (.bool n)).run P w'=.ok (m == n) w':=run_equal_bool _ m n w' hu;generalize hg:Op.equal t (.bool m) (.bool n)=E at e2;simp only [execOp,ho,hs.val hx,hs.val hy];cases op<;>simp_all [go_sem,eqGuard,binOp,bne,ya]
def jK{t:ax}{x:bb}{m:Bool}(ho:o.op=.unOp .not t x)(hx:aw st x=some (.c (.val (.bool m)))):cp P U o st (.c (.val (.bool (!m)))):=
 iM rfl λa w hs w'=>by
  simp only [execOp,ho,hs.val hx];simp [go_sem,Op.unary]
def Rh{t:ax}{x:bb}{k:IntKind}{m:Int}(ho:o.op=.unOp .neg t x)(hx:aw st x=some (.c (.val (.int k m)))):cp P U o st (.c (.val (.int k (k.wrap (0-m))))):=
 iM rfl λa w hs w'=>by
  simp only [execOp,ho,hs.val hx];simp [go_sem,Op.unary,Op.intArith]
def TM{x:bb}{b off:Nat}(ho:o.op=.nilCheck x)(hx:aw st x=some (.c (.val (.pointer (some ⟨b,off,none⟩))))):cp P U o st (.c (.val (.pointer (some ⟨b,off,none⟩)))):=
 iM rfl λa w hs w'=>by
  simp only [execOp,ho,hs.val hx]
  rfl
def Zh{x:bb}{cs:List aO}(ho:o.op=.nilCheck x)(hx:aw st x=some (.el cs)):cp P U o st (.el cs):=by
 intro a w hs _;have h:=hs.ev hx;generalize he:a.eval x=u at h;refine ⟨u,h,λw' _=>?_⟩;cases h with
 |el _ b of us h1 h2 h3=>
  simp only [execOp,ho,he]
  rfl
def Sq{x:bb}{t:ax}{s:aI}(ho:o.op=.call {callee:=.builtin .len,args:=#[x],argTypes:=#[t]})(hx:aw st x=some (.c (.val (.string s))))(hu:∀w,(underlying t).run P w=.ok .string w):cp P U o st (.c (.val (.int .i64 s.size))):=
 iM rfl λa w hs w'=>by
  simp only [execOp,ho,resolve,mH,ca,d7,hs.val hx];simp [go_sem,invoke,builtin,Builtin.len_,hu,goInt]
def Ss{x:bb}{t e:ax}{p:Option Addr}{n m:Nat}(ho:o.op=.call {callee:=.builtin .len,args:=#[x],argTypes:=#[t]})(hx:aw st x=some (.c (.val (.slice p n m))))(hu:∀w,(underlying t).run P w=.ok (.slice e) w):cp P U o st (.c (.val (.int .i64 n))):=
 iM rfl λa w hs w'=>by
  simp only [execOp,ho,resolve,mH,ca,d7,hs.val hx];simp [go_sem,invoke,builtin,Builtin.len_,hu,goInt]
def X0{x:bb}{t e:ax}{n:Nat}{cs:List aO}(ho:o.op=.call {callee:=.builtin .len,args:=#[x],argTypes:=#[t]})(hx:aw st x=some (.c (.sl n cs)))(hu:∀w,(underlying t).run P w=.ok (.slice e) w):cp P U o st (.c (.val (.int .i64 n))):=
 iM rfl λa w hs w'=>by
  have h:=hs.ev hx;generalize he:a.eval x=u at h;cases h with
  |c _ _ h=>cases h with
   |sl n cs us v hr hl hh=>
    obtain ⟨p,cap,rfl,-⟩:=hr;simp only [execOp,ho,resolve,mH,ca,d7,he];simp [go_sem,invoke,builtin,Builtin.len_,hu,goInt]
end
end
section
open Go.RowKit
section
variable {P:Program}{U:List Nat}{o:Oper}{st:AS}
def fi(ag:Bool)(z:Nat)(cs:List aO)(off:Nat):Option AT:=
 if ag then (if off+z <= cs.length then some (.agg ((cs.drop off).take z)) else none) else (cs[off]?).map .c
def tZ(b o k:Nat):(⟨b,o,none⟩:Addr).add k=⟨b,o+k,none⟩:=Aq
def run_loadCells{w:aa}{b o:Nat}{us:List aN}(hc:∀j u,us[j]?=some u -> w.cell? ⟨b,o+j,none⟩=some u):∀(n i:Nat)(acc:Array aN),i+n <= us.length -> (loadCellsFrom ⟨b,o,none⟩ i n acc).run P w=.ok (acc++((us.drop i).take n).toArray) w
 |0,i,acc,_=>by simp [loadCellsFrom,go_sem]
 |n+1,i,acc,h=>by
  have hi:i<us.length:=Y;have h1:=hc i us[i] (by simp [hi]);have ih:=run_loadCells hc n (i+1) (acc.push us[i]) Y;rw [loadCellsFrom];have e:(load ((⟨b,o,none⟩:Addr).add i)).run P w=.ok us[i] w:=by
   rw [tZ];simp only [load,Sem.run,h1]
  rw [dK,e,eu,ih]
  congr 1
  rw [ii hi,jb];simp
def Do{w:aa}{bl:List Nat}{t:ax}{ag:Bool}{z b o off:Nat}{cs:List aO}{us:List aN}{r:AT}(hA:∀w,(isAgg t).run P w=.ok ag w)(hS:∀w,(sizeOf t).run P w=.ok z w)(hr:dA (bh bl w) cs us)(hp:fi ag z cs off=some r):
  ∃v,cS (bh bl w) r v /\ ∀w',(∀j u,us[j]?=some u -> w'.cell? ⟨b,o+j,none⟩=some u) -> (loadVar t ⟨b,o+off,none⟩).run P w'=.ok v w':=by
 unfold fi at hp;cases ag with
 |true=>
  simp only [if_true] at hp;split at hp
  ·rename_i hl;cases hp;refine ⟨_,.agg _ _ ((hr.drop off).take z),λw' hc=>?_⟩;have h2:=run_loadCells (P:=P) (w:=w') (b:=b) (o:=o+off) (us:=us.drop off) (λj u hj=>by rw [rK] at hj;rw [qQ];exact hc _ _ hj) z 0 #[] (by simp [hr.len];omega);simp only [loadVar,dK,hA,eu,if_true,hS,loadCells,h2];simp [go_sem]
  ·cases hp
 |false=>
  simp only [m4,if_false,zn] at hp;obtain ⟨x,hx,rfl⟩:=hp;obtain ⟨u,hu,hrep⟩:=hr.get hx;refine ⟨u,.c _ _ hrep,λw' hc=>?_⟩;have h1:=hc off u hu;simp only [loadVar,dK,hA,eu,m4,if_false,load,Sem.run,h1]
def kh{t:ax}{x:bb}{cs:List aO}{ag:Bool}{z:Nat}{r:AT}(ho:o.op=.load t x)(hx:aw st x=some (.el cs))(hA:∀w,(isAgg t).run P w=.ok ag w)(hS:∀w,(sizeOf t).run P w=.ok z w)(hp:fi ag z cs 0=some r):cp P U o st r:=by
 intro a w hs hU;have h:=hs.ev hx;generalize he:a.eval x=u at h;cases h with
 |el _ b of us h1 h2 h3=>
  obtain ⟨v,hv,hl⟩:=Do (P:=P) (b:=b) (o:=of) hA hS h1 hp;refine ⟨v,hv,λw' hk=>?_⟩;have hl2:=hl w' (λj u hj=>by
   obtain ⟨h4,h5⟩:=qL (h2 j u hj);rw [hk.cell (mj h4) (λhm=>h5 (hU _ hm))];exact h4)
  simp only [execOp,ho,he,Instr.loadAt,Instr.sureAddr,dK,fo,eu,ui] at hl2⊢;rw [hl2];rfl
def cW{t:ax}{x:bb}{b off:Nat}{T:ax}{cs:List aO}{ag:Bool}{z:Nat}{r:AT}(A:List aV){B:List aV}(hA:∀w,(isAgg t).run P w=.ok ag w)(hS:∀w,(sizeOf t).run P w=.ok z w)(ho:o.op=.load t x:=by exact rfl)(hx:aw st x=some (.c (.val (.pointer (some ⟨b,off,none⟩)))):=by exact rfl)(hb:st.s.boxes=A++⟨b,T,cs⟩::B:=by exact rfl)(hp:fi ag z cs off=some r:=by exact rfl)(hU:st.s.bl.Nodup -> b∉U:=by exact λ_ h=>gQ):cp P U o st r:=by
 intro a w hs hU2;have hmem:(⟨b,T,cs⟩:aV)∈st.s.boxes:=ub;obtain ⟨us,⟨fz,-,h1⟩,h2⟩:=hs.mem.box _ hmem;obtain ⟨v,hv,hl⟩:=Do (P:=P) (b:=b) (o:=0) hA hS h2 hp;refine ⟨v,hv,λw' hk=>?_⟩;have hlt:b<w.heap.size:=hs.mem.lt b (gW _ (k_.2 ⟨_,hmem,J⟩));have hh:=hk.block b hlt (hU hs.mem.nodup);have hl2:=hl w' (λj u hj=>by
  unfold World.cell?;simp only [hh,h1];simpa using hj)
 simp only [cq] at hl2;simp only [execOp,ho,hs.val hx,Instr.loadAt,Instr.sureAddr,dK,fo,eu];rw [hl2];rfl
def uK(fs:Array Field)(f:Nat):Option (Nat×TypeId):=(fs[f]?).map λx=>(x.offset,x.type)
def J0{t ft:ax}{fs:Array Field}{f off z b p:Nat}{w:aa}(hu:∀w,(underlying t).run P w=.ok (.struct fs) w)(hf:uK fs f=some (off,ft))(hS:∀w,(sizeOf ft).run P w=.ok z w)(hz:z≠0):
  (Instr.fieldAt t (.pointer (some ⟨b,p,none⟩)) f).run P w=.ok (.pointer (some ⟨b,p+off,none⟩)) w:=by
 unfold uK at hf;cases hx:fs[f]? with
 |none=>rw [hx] at hf;cases hf
 |some x=>
  rw [hx] at hf;simp only [o4,zJ,jB] at hf;obtain ⟨rfl,rfl⟩:=hf;simp only [Instr.fieldAt,dK,hu,eu,hx,Instr.sureAddr,fo,fieldPlace,hS,if_neg hz,tZ]
def jX(off q:Nat){t ft:ax}{x:bb}{fs:Array Field}{f z b p:Nat}(hu:∀w,(underlying t).run P w=.ok (.struct fs) w)(hS:∀w,(sizeOf ft).run P w=.ok z w)(ho:o.op=.fieldAddr t x f:=by exact rfl)(hx:aw st x=some (.c (.val (.pointer (some ⟨b,p,none⟩)))):=by exact rfl)(hf:uK fs f=some (off,ft):=by exact rfl)(hz:z≠0:=by decide)(hq:p+off=q:=by exact rfl):cp P U o st (.c (.val (.pointer (some ⟨b,q,none⟩)))):=
 iM rfl λa w hs w'=>by
  subst hq;simp only [execOp,ho,hs.val hx,dK,J0 hu hf hS hz];rfl
def cS.aIe{w:aa}{cs:List aO}{b p:Nat}(k:Nat)(h:cS w (.el cs) (.pointer (some ⟨b,p,none⟩))):cS w (.el (cs.drop k)) (.pointer (some ⟨b,p+k,none⟩)):=by
 cases h with
 |el _ _ _ us h1 h2 h3=>exact .el _ b (p+k) (us.drop k) (h1.drop k) (λj u hj=>by rw [rK] at hj;rw [qQ];exact h2 _ _ hj) h3
def Tg(off:Nat){t ft:ax}{x:bb}{fs:Array Field}{f z:Nat}{cs:List aO}(ho:o.op=.fieldAddr t x f)(hx:aw st x=some (.el cs))(hu:∀w,(underlying t).run P w=.ok (.struct fs) w)(hf:uK fs f=some (off,ft))(hS:∀w,(sizeOf ft).run P w=.ok z w)(hz:z≠0):cp P U o st (.el (cs.drop off)):=by
 intro a w hs _;have h:=hs.ev hx;generalize he:a.eval x=u at h;have h9:=h;cases h with
 |el _ b of us h1 h2 h3=>
  refine ⟨_,h9.aIe off,λw' _=>?_⟩;simp only [execOp,ho,he,dK,J0 hu hf hS hz];rfl
def W3(off:Nat){t ft:ax}{x:bb}{fs:Array Field}{f z:Nat}{cs:List aO}{ag:Bool}{r:AT}(ho:o.op=.field t x f)(hx:aw st x=some (.agg cs))(hu:∀w,(underlying t).run P w=.ok (.struct fs) w)(hf:uK fs f=some (off,ft))(hA:∀w,(isAgg ft).run P w=.ok ag w)(hS:∀w,(sizeOf ft).run P w=.ok z w)(hp:fi ag z cs off=some r):cp P U o st r:=by
 intro a w hs _;have h:=hs.ev hx;generalize he:a.eval x=u at h;cases h with
 |agg _ us h1=>
  unfold uK at hf;cases hxx:fs[f]? with
  |none=>rw [hxx] at hf;cases hf
  |some y=>
   rw [hxx] at hf;simp only [o4,zJ,jB] at hf;obtain ⟨rfl,rfl⟩:=hf;unfold fi at hp;cases ag with
   |true=>
    simp only [if_true] at hp;split at hp
    ·cases hp;refine ⟨_,.agg _ _ ((h1.drop _).take z),λw' _=>?_⟩;simp only [execOp,ho,he,Instr.field,dK,hu,eu,hxx,asAgg,fo,part,hA,if_true,hS];simp [List.extract_eq_take_drop]
    ·cases hp
   |false=>
    simp only [m4,if_false,zn] at hp;obtain ⟨c,hc,rfl⟩:=hp;obtain ⟨v,hv,hrep⟩:=h1.get hc;refine ⟨v,.c _ _ hrep,λw' _=>?_⟩;simp only [execOp,ho,he,Instr.field,dK,hu,eu,hxx,asAgg,fo,part,hA,m4,if_false];simp [hv,go_sem]
def Od{t e:ax}{x y:bb}{n z:Nat}{cs:List aO}{k:IntKind}{i:Int}(j:Nat)(ho:o.op=.indexAddr t x y)(hx:aw st x=some (.c (.sl n cs)))(hy:aw st y=some (.c (.val (.int k i))))(hi:i=j)(hj:j<n)(hne:j*z<cs.length)
  (hu:∀w,(underlying t).run P w=.ok (.slice e) w) (hS:∀w,(sizeOf e).run P w=.ok z w):cp P U o st (.el (cs.drop (j*z))):=by
 intro a w hs _;subst hi;have h:=hs.ev hx;generalize he:a.eval x=u at h;cases h with
 |c _ _ h=>cases h with
  |sl n cs us v hr hl hh=>
   obtain ⟨p,cap,rfl,hcap,hr⟩:=hr;rcases hr with rfl|⟨b,of,rfl,hc⟩
   ·simp at hl;omega
   have hel:cS (bh st.s.bl w) (.el cs) (.pointer (some ⟨b,of,none⟩)):=by
    have h0:0<us.length:=Y;exact .el _ b of us ⟨hl,hh⟩ hc (mj (hc 0 us[0] (by simp [h0])))
   refine ⟨_,hel.aIe (j*z),λw' _=>?_⟩;simp only [execOp,ho,he,hs.val hy,Instr.indexAt,asIntOf,dK,fo,eu,hu];simp [go_sem,hS,hj,tZ]
def ez{t e:ax}{x y:bb}{n cap z b p:Nat}{k:IntKind}{i:Int}(j:Nat)(ho:o.op=.indexAddr t x y)(hx:aw st x=some (.c (.val (.slice (some ⟨b,p,none⟩) n cap))))(hy:aw st y=some (.c (.val (.int k i))))(hi:i=j)(hj:j<n)
  (hu:∀w,(underlying t).run P w=.ok (.slice e) w) (hS:∀w,(sizeOf e).run P w=.ok z w):cp P U o st (.c (.val (.pointer (some ⟨b,p+j*z,none⟩)))):=
 iM rfl λa w hs w'=>by
  subst hi;simp only [execOp,ho,hs.val hx,hs.val hy,Instr.indexAt,asIntOf,dK,fo,eu,hu];simp [go_sem,hS,hj,tZ]
def Vp{x:bb}{k:Nat}{ts:List AT}{t:AT}(ho:o.op=.extract x k)(hx:aw st x=some (.fd ts))(ht:ts[k]?=some t):cp P U o st t:=by
 intro a w hs _;have h:=hs.ev hx;generalize he:a.eval x=u at h;cases h with
 |fd _ vs hl hr=>
  obtain ⟨hk,rfl⟩:=mN.1 ht;have hk2:k<vs.length:=Y;refine ⟨vs[k],hr k hk hk2,λw' _=>?_⟩;simp only [execOp,ho,he,Instr.extract];simp [hk2,go_sem]
def J3{F:FuncId}{cap:Array bb}{vs:List aN}(ho:o.op=.makeFunc (.func F) #[] cap)(hc:cap.toList.map (aw st)=vs.map λv=>some (.c (.val v))):cp P U o st (.c (.val (.func (.func F) #[] vs.toArray))):=
 iM rfl λa w hs w'=>by
  have e:cap.map a.eval=vs.toArray:=by
   rw [←oZ,zx];have:∀(l:List bb)(vs:List aN),l.map (aw st)=vs.map (λv=>some (.c (.val v))) -> l.map a.eval=vs:=by
    intro l;induction l with
    |nil=>intro vs h;cases vs with|nil=>rfl|cons=>cases h
    |cons x l ih=>
     intro vs h;cases vs with
     |nil=>cases h
     |cons v vs=>
      simp only [ca,tN] at h⊢;exact ⟨hs.val h.1,ih vs h.2⟩
   exact this _ _ hc
  simp only [execOp,ho,Instr.makeFunc,e];simp [go_sem]
end
end
section
open Go.RowKit
section
variable {P:Program}{U:List Nat}{o:Oper}{st:AS}{K:AS -> Prop}
def kc:AT -> Option (List aO)
 |.c x=>some [x]
 |.agg cs=>some cs
 |_=>none
theorem uw{w:aa}{t:AT}{cs:List aO}{v:aN}(h:kc t=some cs)(hr:cS w t v):dA w cs v.cells.toList:=by
 cases hr with
 |c x v hx=>
  cases h;have:v.cells=#[v]:=by have:=hx.one;cases v<;>first|rfl|cases this
  rw [this];exact .cons hx (.nil _)
 |agg cs' us h1=>cases h;simpa [Value.cells] using h1
 |_=>cases h
theorem RF(b:Nat)(bl:List Nat)(w:aa)(o:Obj)(hb:b=w.heap.size):f7 (bh bl w) (bh (b::bl) (w.alloc o)):=
 l_ (T:=[]) ((cQ.refl _ _).alloc o) jf (λx hx=>by rcases oX.1 hx with rfl|hx;exact .inr Y;exact .inl hx)
theorem Mem.up{s:aH}{w w1:aa}{bl1:List Nat}(h:Mem s w)(hu:f7 (bh s.bl w) (bh bl1 w1))(hk:∀b,b∈s.bl -> w1.heap[b]?=w.heap[b]?):
  (∀x,x∈s.boxes -> ∃us,(∃fz:Nat×Nat,(fz=(0,0)∨us.length <= fz.1) /\ w1.heap[x.b]?=some (.cells us.toArray x.T fz)) /\ dA (bh bl1 w1) x.cs us) /\ (∀r,r∈s.rows -> ∃us,pB w1 r us /\ dA (bh bl1 w1) r.cs us):=by
 refine ⟨λx hx=>?_,λr hr=>?_⟩
 ·obtain ⟨us,h1,h2⟩:=h.box x hx;exact ⟨us,by rw [hk _ (gW _ (k_.2 ⟨x,hx,rfl⟩))];exact h1,h2.mono hu⟩
 obtain ⟨us,h1,h3⟩:=h.row r hr;exact ⟨us,h1.keep λg hg=>hk g (gz _ (kr.2 ⟨r,hr,hg⟩)),h3.mono hu⟩
theorem Mem.new{s:aH}{w:aa}(h:Mem s w)(T:ax)(cs:List aO)(us:List aN)(hr:dA (bh s.bl w) cs us):Mem ⟨⟨w.heap.size,T,cs⟩::s.boxes,s.rows⟩ (w.alloc (.cells us.toArray T)):=by
 have hu:=RF w.heap.size s.bl w (.cells us.toArray T) J;have hne:∀b,b∈s.bl -> (w.alloc (.cells us.toArray T)).heap[b]?=w.heap[b]?:=λb hb=>((cQ.refl [] w).alloc _).block b (h.lt b hb) (λh=>gQ);obtain ⟨h1,h2⟩:=h.up hu hne;refine ⟨mu.2 ⟨λhm=>Nat.lt_irrefl _ (h.lt _ hm),h.nodup⟩,λb hb=>?_,λx hx=>?_,h2⟩
 ·rcases oX.1 hb with rfl|hb
  ·simp
  have:=h.lt b hb;simp;omega
 rcases oX.1 hx with rfl|hx
 ·exact ⟨us,⟨(0,0),.inl J,Kj⟩,hr.mono hu⟩
 exact h1 x hx
theorem iT.new(st:AS)(w:aa)(o:Obj)(x:aV)(hx:x.b=w.heap.size)(ts:List (Nat×AT)):iT st w {st with s:=⟨x::st.s.boxes,st.s.rows⟩,T:=x.b::st.T,ts:=ts} (w.alloc o):=
 ⟨(cQ.refl _ _).alloc o,(cQ.refl _ _).alloc o,λb hb=>P3,λb hb=>P3⟩
theorem Mm{d:Nat}{T:ax}{cs:List aO}(hd:o.dst=some d)(hn:d<st.n)
  (hx:∀a w,e0 st a w -> ∃us,dA (bh st.s.bl w) cs us /\ (execOp a.eval o).run P w=.ok (.value (.pointer (some ⟨w.heap.size,0,none⟩))) (w.alloc (.cells us.toArray T)))
  (h:∀b,K {st with s:=⟨⟨b,T,cs⟩::st.s.boxes,st.s.rows⟩,T:=b::st.T,ts:=(d,.c (.val (.pointer (some ⟨b,0,none⟩))))::st.ts}):db P U o st K:=by
 intro a w hs KK QQ hK;obtain ⟨us,hr,hrun⟩:=hx a w hs;unfold Oper.wp;rw [hrun,Oper.upon_value,hd];have hm:=hs.mem.new T cs us hr;have s1:=hs.step (w1:=w.alloc (.cells us.toArray T)) (w.heap.size::st.T) ((cQ.refl _ _).alloc _) hm (λb hb=>by rcases oX.1 hb with rfl|hb;exact .inr (bY _);exact .inl hb);exact hK _ _ _ (h w.heap.size) (s1.put hn (.c _ _ (.val _ J))) (iT.new st w _ ⟨w.heap.size,T,cs⟩ J _) ((cQ.refl _ _).alloc _)
theorem RY{T:ax}{x:bb}{t:AT}{d:Nat}{cs:List aO}(ho:o.op=.box T x)(hd:o.dst=some d)(hn:d<st.n)(hx:aw st x=some t)(hc:kc t=some cs)
  (h:∀b,K {st with s:=⟨⟨b,T,cs⟩::st.s.boxes,st.s.rows⟩,T:=b::st.T,ts:=(d,.c (.val (.pointer (some ⟨b,0,none⟩))))::st.ts}):db P U o st K:=
 Mm hd hn (λa w hs=>⟨_,uw hc (hs.ev hx),by simp only [execOp,ho,Instr.box,newVar,newRow,dK,run_newObj_alloc,eu,fo,zb]⟩) h
theorem Su{T:ax}{d:Nat}{z:aN}{cs:List aO}(ho:o.op=.alloc T)(hd:o.dst=some d)(hn:d<st.n)(hz:∀w,(zeroValue T).run P w=.ok z w)(hc:kc (gO z)=some cs)
  (h:∀b,K {st with s:=⟨⟨b,T,cs⟩::st.s.boxes,st.s.rows⟩,T:=b::st.T,ts:=(d,.c (.val (.pointer (some ⟨b,0,none⟩))))::st.ts}):db P U o st K:=
 Mm hd hn (λa w hs=>⟨_,uw hc (AX _ z),by simp only [execOp,ho,Instr.alloc,newVar,newRow,dK,hz,run_newObj_alloc,eu,fo,zb]⟩) h
def splice(cs:List aO)(off:Nat)(ds:List aO):List aO:=cs.take off++ds++cs.drop (off+ds.length)
theorem dA.splice{w:aa}{cs ds:List aO}{us vs:List aN}(h:dA w cs us)(k:dA w ds vs)(off:Nat):dA w (splice cs off ds) (us.take off++vs++us.drop (off+vs.length)):=by
 unfold Go.Proofs.YtckelpefchdenaaGreatDoor.splice;rw [←k.len];exact ((h.take _).app k).app (h.drop _)
theorem zZ(w:aa)(g:Nat)(c:Array aN):cQ [g] w (w.setRow g c):=
 ⟨rfl,rfl,rfl,by simp [World.setRow],λk hk hn=>by
  unfold World.setRow;simp only [Dd];rw [if_neg (λh=>hn sq)]⟩
theorem Mem.setRow{s:aH}{w:aa}{A B:List aV}{b:Nat}{T:ax}{cs ds:List aO}{us vs:List aN}{fz:Nat×Nat}(h:Mem s w)(hb:s.boxes=A++⟨b,T,cs⟩::B)(hfz:fz=(0,0)∨us.length <= fz.1)(hlv:vs.length=us.length)(h1:w.heap[b]?=some (.cells us.toArray T fz))(hr:dA (bh s.bl w) ds vs):
  Mem ⟨A++⟨b,T,ds⟩::B,s.rows⟩ (w.setRow b vs.toArray):=by
 have hbl:(⟨A++⟨b,T,ds⟩::B,s.rows⟩:aH).bl=s.bl:=vE;have hmem:b∈s.bl:=vE;have hk:=zZ w b vs.toArray;have hu:f7 (bh s.bl w) (bh s.bl (w.setRow b vs.toArray)):=l_ hk IF (λx hx=>.inl hx);have hnd:=h.nodup;have hne:∀x,x∈A∨x∈B -> x.b≠b:=by
  intro x hx he;have h2:(s.boxes.map aV.b).Nodup:=(eF.1 hnd).1;rw [hb] at h2;simp only [e1,ca,eF,mu,oX,k_] at h2;rcases hx with hx|hx
  ·exact h2.2.2 x.b ⟨x,hx,J⟩ b (.inl J) he
  exact h2.2.1.1 ⟨x,hx,he⟩
 have hrow:∀r,r∈s.rows -> b∉aR r.v:=by
  intro r hr hm;have h2:=(eF.1 hnd).2.2 b ub b (kr.2 ⟨r,hr,hm⟩);exact h2 J
 refine ⟨by rw [hbl];exact hnd,λx hx=>Gr,λx hx=>?_,λr hr2=>?_⟩
 ·rw [hbl];simp only [nH,oX] at hx;have old:x∈A∨x∈B -> ∃us,(∃fz:Nat×Nat,(fz=(0,0)∨us.length <= fz.1) /\ (w.setRow b vs.toArray).heap[x.b]?=some (.cells us.toArray x.T fz)) /\ dA (bh s.bl (w.setRow b vs.toArray)) x.cs us:=λhx=>by
   have hx2:x∈s.boxes:=by rw [hb];simp only [nH,oX];rcases hx with h|h;exact .inl h;exact .inr (.inr h)
   obtain ⟨us',ae,e2⟩:=h.box x hx2;exact ⟨us',by rw [hk.block _ (h.lt _ (gW _ (k_.2 ⟨x,hx2,rfl⟩))) (by simp;exact hne x hx)];exact ae,e2.mono hu⟩
  rcases hx with hx|rfl|hx
  ·exact old (.inl hx)
  ·exact ⟨vs,⟨fz,by rw [hlv];exact hfz,setRow_heap w b us.toArray _ T fz h1⟩,hr.mono hu⟩
  exact old (.inr hx)
 rw [hbl];obtain ⟨us',ae,e3⟩:=h.row r hr2;exact ⟨us',ae.keep λg hgb=>hk.block g (h.lt g (gz _ (kr.2 ⟨r,hr2,hgb⟩))) (by simp;intro he;subst he;exact hrow r hr2 hgb),e3.mono hu⟩
theorem SH(P:Program)(g o:Nat)(t:ax)(fz:Nat×Nat)(vs:List aN):∀(i:Nat)(cur:Array aN)(w:aa),w.heap[g]?=some (.cells cur t fz) -> fz=(0,0)∨cur.size <= fz.1 -> o+i+vs.length <= cur.size -> (∀v∈vs,v.oneCell'=true) ->
  (storeCells ⟨g,o,none⟩ vs i).run P w=.ok () (w.setRow g (cur.toList.take (o+i)++vs++cur.toList.drop (o+i+vs.length)).toArray):=by
 induction vs with
 |nil=>
  intro i cur w hg _ _ _;simp only [storeCells,eY,List.length_nil,ui,ov,zb];rw [setRow_self w g cur t fz hg]
  rfl
 |cons v rest ih=>
  intro i cur w hg hfz hl h1;have hi:o+i<cur.size:=by simp only [y8] at hl;omega
  have hcell:w.cell? ⟨g,o+i,none⟩=some cur[o+i]:=by simp [World.cell?,hg,hi]
  have hfro:w.frozen? ⟨g,o+i,none⟩=false:=by
   obtain ⟨lo,up⟩:=fz;simp only [World.frozen?,hg,Bool.and_eq_false_iff,decide_eq_false_iff_not];rcases hfz with h|h
   ·cases h;exact .inr Y
   dsimp only at h;exact .inl Y
  have hst:(store ((⟨g,o,none⟩:Addr).add i) v).run P w=.ok () (w.setRow g (cur.setIfInBounds (o+i) v)):=by
   rw [tZ,run_store P w _ v _ (h1 v aM),hcell];simp [hfro,setCell_eq_setRow w g (o+i) cur t fz v hg]
  have e:=list_seg_step cur.toList (o+i) v rest (by simp only [y8] at hl;rw [sP];omega);have hn:=ih (i+1) (cur.setIfInBounds (o+i) v) (w.setRow g (cur.setIfInBounds (o+i) v)) (setRow_heap w g cur _ t _ hg) (by simpa using hfz) (by simp only [y8] at hl;rw [Array.size_setIfInBounds];omega) λx hx=>h1 x z_;simp only [storeCells,dK,hst,eu,hn,setRow_setRow]
  congr 3
  simpa [Array.toList_setIfInBounds,qQ] using e
theorem Co{ty:ax}{x y:bb}{b off z:Nat}{T:ax}{cs ds r:List aO}{t:AT}(A:List aV){B:List aV}(ho:o.op=.store ty x y)(hd:o.dst=none)(hx:aw st x=some (.c (.val (.pointer (some ⟨b,off,none⟩)))))(hy:aw st y=some t)(hc:kc t=some ds)
  (hb:st.s.boxes=A++⟨b,T,cs⟩::B) (hS:∀w,(sizeOf ty).run P w=.ok z w) (hz:ds.length=z) (hl:off+z <= cs.length) (hr:splice cs off ds=r) (hT:b∈st.T) (hU:st.s.bl.Nodup -> b∈U)
  (h:K {st with s:=⟨A++⟨b,T,r⟩::B,st.s.rows⟩}):db P U o st K:=by
 intro a w hs KK QQ hK;subst hr;have hmem:(⟨b,T,cs⟩:aV)∈st.s.boxes:=ub;obtain ⟨us,⟨fz,hfz,h1⟩,h2⟩:=hs.mem.box _ hmem;have hv:=uw hc (hs.ev hy);have hlen:=hv.len;have hl2:us.length=cs.length:=h2.len;have hbl:(⟨A++⟨b,T,splice cs off ds⟩::B,st.s.rows⟩:aH).bl=st.s.bl:=vE;have hbm:b∈st.s.bl:=vE;have hst:=SH P b off T fz (a.eval y).cells.toList 0 us.toArray w h1 (by simpa using hfz) (by simp only [xm];omega) hv.one;simp only [ui,zb] at hst;have hk:=zZ w b (us.take off++(a.eval y).cells.toList++us.drop (off+(a.eval y).cells.toList.length)).toArray;unfold Oper.wp;have hrun:(execOp a.eval o).run P w=.ok .skip (w.setRow b (us.take off++(a.eval y).cells.toList++us.drop (off+(a.eval y).cells.toList.length)).toArray):=by
  have hsz:(a.eval y).cells.size=z:=by rw [←sP,hlen,hz]
  simp only [execOp,ho,hs.val hx,Instr.storeAt,Instr.sureAddr,storeVar,dK,fo,eu,hS,hsz,ne_eq,not_true_eq_false,if_false];rw [hst];rfl
 rw [hrun,Oper.upon_skip,hd];have hm:=hs.mem.setRow hb hfz (by simp only [FI,kU,kA];omega) h1 (h2.splice hv off);refine hK _ _ _ h (hs.step st.T (hk.mono t_) hm (λx hx=>.inl tO)) ⟨hk.mono t_,hk.mono AA,λx hx=>.inl tO,λx hx=>.inl hx⟩ (hk.mono zN)
def nV(place:Nat -> Option (Nat×Nat))(cells:List aO):List (Nat×AT) -> Option (List aO)
 |[]=>some cells
 |(i,t)::rest=>
  match place i,kc t with
  |some (off,z),some cs=>if cs.length=z /\ off+z <= cells.length then nV place (splice cells off cs) rest else none
  |_,_=>none
theorem Rf(off:Nat)(vs:List aN)(cells:Array aN)(h:off+vs.length <= cells.size):((vs.zipIdx).foldl (λcs (x:aN×Nat)=>cs.setIfInBounds (off+x.2) x.1) cells).toList=cells.toList.take off++vs++cells.toList.drop (off+vs.length):=by
 obtain ⟨h1,h2⟩:=Great.foldl_set off vs 0 cells;generalize hF:(vs.zipIdx).foldl (λcs (x:aN×Nat)=>cs.setIfInBounds (off+x.2) x.1) cells=F at h1 h2;refine Bw λk=>?_;have h3:=h2 k;rw [←nd] at h3;rw [h3];by_cases hk:k<off
 ·rw [if_neg Y,List.append_assoc,qS dr,List.getElem?_take_of_lt hk];simp
 by_cases hk2:k<off+vs.length
 ·rw [if_pos ⟨Y,Y,Y⟩,List.append_assoc,oV dr,qS dr]
  congr 1;simp;omega
 rw [if_neg Y,oV dr,rK];have e:off+vs.length+(k-(cells.toList.take off++vs).length)=k:=dr;rw [e];simp
theorem A2{w:aa}{place:Nat -> Option (Nat×Nat)}{a:Act}:∀(ps:List (Nat×bb)) (ts:List (Nat×AT)) (cells:List aO) (us:Array aN) (r:List aO),ps.map Prod.fst=ts.map Prod.fst -> (∀i (h:i<ps.length) (h':i<ts.length),cS w ts[i].2 (a.eval ps[i].2)) -> dA w cells us.toList -> nV place cells ts=some r ->
  ∃vs:Array aN,Instr.fill place us (ps.map λx=>(x.1,a.eval x.2))=some vs /\ dA w r vs.toList
 |[],ts,cells,us,r,hf,_,hr,DQ=>by
  cases ts with
  |nil=>cases DQ;exact ⟨us,rfl,hr⟩
  |cons=>cases hf
 |(i,x)::ps,ts,cells,us,r,hf,hv,hr,DQ=>by
  cases ts with
  |nil=>cases hf
  |cons p ts=>
   obtain ⟨j,t⟩:=p;simp only [ca,tN] at hf;obtain ⟨rfl,hf⟩:=hf;have hv0:cS w t (a.eval x):=hv 0 aM aM;simp only [nV] at DQ;split at DQ
   ·rename_i off z cs hp hc;split at DQ
    ·rename_i hz;obtain ⟨hz1,hz2⟩:=hz;have hcr:=uw hc hv0;have hsz:(a.eval x).cells.size=z:=by rw [←sP,hcr.len,hz1]
     have hus:us.size=cells.length:=by rw [←sP,hr.len]
     have hfo:=Rf off (a.eval x).cells.toList us dr;have hrep:=hr.splice hcr off;rw [←hfo] at hrep;obtain ⟨vs,h1,h2⟩:=A2 ps ts _ _ r hf (λk h h'=>hv (k+1) iX (by simpa using h')) hrep DQ;refine ⟨vs,?_,h2⟩;simp only [ca,Instr.fill,hp];rw [if_neg (by simp only [hsz];simp;omega)];rw [←h1]
     congr 1
     rw [←Array.foldl_toList]
     congr 1
     simp
    cases DQ
   cases DQ
inductive pX (st:AS):List (Nat×Operand) -> List (Nat×AT) -> Prop
 |nil:pX st [] []
 |cons {i:Nat} {x:Operand} {t:AT} {ps:List (Nat×Operand)} {ts:List (Nat×AT)} (h:aw st x=some t) (r:pX st ps ts):pX st ((i,x)::ps) ((i,t)::ts)
theorem pX.map{ps:List (Nat×bb)}{ts:List (Nat×AT)}(h:pX st ps ts):ps.map (λp=>(aw st p.2).map (Prod.mk p.1))=ts.map some:=by
 induction h with
 |nil=>rfl
 |cons h _ ih=>simp [h,ih]
theorem G8{ps:List (Nat×bb)}{ts:List (Nat×AT)}(h:ps.map (λp=>(aw st p.2).map (Prod.mk p.1))=ts.map some):ps.map Prod.fst=ts.map Prod.fst /\ ∀i (h1:i<ps.length) (h2:i<ts.length),aw st ps[i].2=some ts[i].2:=by
 induction ps generalizing ts with
 |nil=>cases ts with|nil=>exact ⟨rfl,λi h=>absurd h aM⟩|cons=>cases h
 |cons p ps ih=>
  cases ts with
  |nil=>cases h
  |cons t ts=>
   simp only [ca,tN] at h;obtain ⟨h1,h2⟩:=ih h.2;have h3:=h.1;cases he:aw st p.2 with
   |none=>rw [he] at h3;cases h3
   |some u=>
    rw [he] at h3;simp only [o4,zJ] at h3;subst h3;refine ⟨by simp [h1],λi hi hi2=>?_⟩;cases i with
    |zero=>exact he
    |succ i=>exact h2 i pz (by simpa using hi2)
theorem yf{t:ax}{fs:Array Field}(i:TypeInfo){z:aN}{parts:Array (Nat×bb)}{ps:List (Nat×AT)}(pl:List (Nat×Nat)){zc r:List aO}(ho:o.op=.build t parts)(hps:pX st parts.toList ps)
  (hu:P.underlying t=some (.struct fs)) (hi:P.info? t=some i) (hz:i.zero=some z) (hpl:fs.toList.mapM (λf=>(P.info? f.type).map λi=>(f.offset,i.size))=some pl) (hzc:kc (gO z)=some zc)
  (hf:nV (pl.toArray[·]?) zc ps=some r):cp P U o st (.agg r):=by
 intro a w hs _;obtain ⟨h1,h2⟩:=G8 hps.map;obtain ⟨vs,ae,e2⟩:=A2 (w:=bh st.s.bl w) (a:=a) parts.toList ps zc z.cells r h1 (λi h h'=>hs.ev (h2 i h h')) (uw hzc (AX _ z)) hf;refine ⟨.agg vs,by simpa using cS.agg _ _ e2,λw' _=>?_⟩;have hb:P.built t (parts.map λp=>(p.1,a.eval p.2)).toList=some vs:=by
  unfold Program.built;rw [hi,hu];simp only [hz,hpl];rw [zx];exact ae
 simp only [execOp,ho,dK];rw [run_build w' t _ vs hb];rfl
theorem U2{t e:ax}(i:TypeInfo){z:aN}{len:Nat}{parts:Array (Nat×bb)}{ps:List (Nat×AT)}{zc r:List aO}{d:Nat}(ho:o.op=.buildSlice t len parts)(hd:o.dst=some d)(hn:d<st.n)(hps:pX st parts.toList ps)
  (hu:P.underlying t=some (.slice e)) (hi:P.info? e=some i) (hz:i.zero=some z) (hsmall:¬len*i.size>2 ^ 24) (hpos:¬len*i.size=0) (hzc:(((Array.range (len*i.size)).map (z.cells[·% z.cells.size]!)).toList.all (·.oneCell'))=true) (hzr:((Array.range (len*i.size)).map (z.cells[·% z.cells.size]!)).toList.map .val=zc)
  (hf:nV (λk=>some (k*i.size,i.size)) zc ps=some r) (h:K {st with ts:=(d,.c (.sl len r))::st.ts}):db P U o st K:=by
 intro a w hs KK QQ hK;obtain ⟨h1,h2⟩:=G8 hps.map;subst hzr;obtain ⟨vs,ae,e2⟩:=A2 (w:=bh st.s.bl w) (a:=a) (place:=λk=>some (k*i.size,i.size)) parts.toList ps _ ((Array.range (len*i.size)).map (z.cells[·% z.cells.size]!)) r h1 (λi h h'=>hs.ev (h2 i h h')) (oK _ _ λu hu=>Qq) hf
 unfold Oper.wp;have hrun:(execOp a.eval o).run P w=.ok (.value (.slice (some ⟨w.heap.size,0,none⟩) len len)) (w.alloc (.cells vs e)):=by
  simp only [execOp,ho,dK];rw [run_buildSlice w t e len _ vs i z hu hi hz hsmall hpos (by rw [zx];exact ae)];rfl
 rw [hrun,Oper.upon_value,hd];have hk:cQ [] w (w.alloc (.cells vs e)):=(cQ.refl _ _).alloc _;have hub:f7 (bh st.s.bl w) (bh st.s.bl (w.alloc (.cells vs e))):=l_ hk jf (λb h=>.inl h);obtain ⟨m1,m2⟩:=hs.mem.up hub GO;have hm:Mem st.s (w.alloc (.cells vs e)):=⟨hs.mem.nodup,λb hb=>mM (hs.mem.lt b hb) hk.size,m1,m2⟩;have s1:=hs.step (w1:=w.alloc (.cells vs e)) st.T (hk.mono aM) hm (λb hb=>.inl hb);have Pc:len <= 16777216:=by
  have h1:0<i.size:=Nat.pos_of_ne_zero λh0=>hpos Cz;have h2:=Nat.le_mul_of_pos_right len h1;omega
 have hrow:cS (bh st.s.bl (w.alloc (.cells vs e))) (.c (.sl len r)) (.slice (some ⟨w.heap.size,0,none⟩) len len):=by
  refine .c _ _ (.sl _ _ vs.toList _ ?_ e2.len (λi h h'=>(e2.at_ i h h').mono hub) (λ_ _ _ h=>by cases h;have:=Pc;omega));have:=eD.aJg st.s.bl w vs.toList e len w.heap.size rfl hs.mem.lt;rw [zb] at this;exact this
 exact hK _ _ _ h (s1.put hn hrow) ⟨hk.mono aM,hk.mono aM,λb hb=>.inl hb,λb hb=>.inl hb⟩ (hk.mono aM)
end
end
section
open Go.RowKit
section
variable {P:Program}{U:List Nat}{o:Oper}{st:AS}{K:AS -> Prop}
theorem B4{u:aN}{g:Nat}:g∈aR u↔u.ownBlock=some g:=by
 unfold aR;cases h:u.ownBlock with
 |none=>simp
 |some k=>simp [eq_comm]
theorem Yx(u:aN):(aR u).Nodup:=by unfold aR;cases u.ownBlock<;>simp
theorem Ry{L r r' R:List Nat}{N:Nat}(h:(L++(r++R)).Nodup)(hr:∀b,b∈r' -> b∈r∨N <= b)(hlt:∀b,b∈L++(r++R) -> b<N)(hn:r'.Nodup):(L++(r'++R)).Nodup:=by
 simp only [eF,nH] at h hlt⊢;obtain ⟨h1,⟨h2,h3,h4⟩,h5⟩:=h;refine ⟨h1,⟨hn,h3,λa ha b hb=>?_⟩,λa ha b hb=>?_⟩
 ·rcases hr a ha with h6|h6
  ·exact h4 a h6 b hb
  have:=hlt b (.inr (.inr hb));omega
 rcases hb with hb|hb
 ·rcases hr b hb with h6|h6
  ·exact h5 a ha b (.inl h6)
  have:=hlt a (.inl ha);omega
 exact h5 a ha b (.inr hb)
theorem Cq(bx:List aV)(A B:List aQ)(r:aQ):(⟨bx,A++r::B⟩:aH).bl=(bx.map aV.b++A.flatMap λr=>aR r.v)++(aR r.v++B.flatMap λr=>aR r.v):=by unfold aH.bl;simp
theorem I_{e:ax}{d n m z:Nat}{v:aN}{cs ds:List aO}(A:List aQ){B:List aQ}(hd:o.dst=some d)(hn:d<st.n)
  (hrow:st.s.rows=A++⟨v,e,z,n,cs⟩::B) (hz9:0<z)
  (hy:∀a w,e0 st a w -> ∀us,w.ownsRow 0 e z v n us -> ∃ys,dA (bh st.s.bl w) ds ys /\ ∀(KK:Act -> aa -> Prop)(QQ:Exit -> Act -> aa -> Prop),(∀v' w',w'.ownsRow 0 e z v' (n+m) (us++ys) -> w.grownBy w' v.ownBlock -> (∀g,v'.ownBlock=some g -> v.ownBlock=some g∨w.heap.size <= g) -> KK (a.put o.dst v') w') -> o.wp P a w KK QQ)
  (hU:st.s.bl.Nodup -> ∀b,b∈aR v -> b∈U) (hT:∀b,b∈aR v -> b∈st.T)
  (h:∀v',K {st with s:=⟨st.s.boxes,A++⟨v',e,z,n+m,cs++ds⟩::B⟩,T:=aR v'++st.T,ts:=(d,.c (.val v'))::st.ts}):db P U o st K:=by
 intro a w hs KK QQ hK;obtain ⟨us,la,hrep⟩:=hs.mem.row ⟨v,e,z,n,cs⟩ ti;have hown:=la.row hz9;obtain ⟨ys,DP,hgo⟩:=hy a w hs us hown
 skip
 refine hgo KK QQ ?_;intro v' w' hown' hgrow hfr;have hkr:cQ (aR v) w w':=⟨hgrow.os,hgrow.tape,hgrow.output,hgrow.size,λk hk hn=>hgrow.block k hk (λhe=>hn (B4.2 he.symm))⟩;have hfr2:∀g,g∈aR v' -> g∈aR v∨w.heap.size <= g:=λg hg=>(hfr g (B4.1 hg)).imp B4.2 id;have aIq:st.s.bl=(st.s.boxes.map aV.b++A.flatMap λr=>aR r.v)++(aR v++B.flatMap λr=>aR r.v):=by have:=Cq st.s.boxes A B ⟨v,e,z,n,cs⟩;rw [←hrow] at this;exact this
 have hbl1:=Cq st.s.boxes A B ⟨v',e,z,n+m,cs++ds⟩;generalize hs1:(⟨st.s.boxes,A++⟨v',e,z,n+m,cs++ds⟩::B⟩:aH)=s1 at hbl1;have hvb:∀g,g∈aR v -> g∈st.s.bl:=λg hg=>by rw [aIq];simp [hg]
 have hsub:∀g,g∈s1.bl -> g∈st.s.bl∨w.heap.size <= g:=λg hg=>by
  rw [hbl1] at hg;rw [aIq];simp only [nH] at hg⊢;rcases hg with (hg|hg)|hg|hg
  ·exact .inl (.inl (.inl hg))
  ·exact .inl (.inl (.inr hg))
  ·rcases hfr2 g hg with hg|hg
   ·exact .inl (.inr (.inl hg))
   exact .inr hg
  exact .inl (.inr (.inr hg))
 have hkb:cQ st.s.bl w w':=hkr.mono hvb;have hup:f7 (bh st.s.bl w) (bh s1.bl w'):=l_ hkb (λ_ h=>h) hsub;have hnd:=hs.mem.nodup;rw [aIq] at hnd;have aH8:∀g,g∈(st.s.boxes.map aV.b++A.flatMap λr=>aR r.v)++(aR v++B.flatMap λr=>aR r.v) -> g<w.heap.size:=by rw [←aIq];exact hs.mem.lt
 have aSj:s1.bl.Nodup:=by rw [hbl1];exact Ry hnd hfr2 aH8 (Yx _)
 have aSk:∀g,g∈aR v' -> g<w'.heap.size:=λg hg=>P5 hown' (B4.1 hg);have hmem:Mem s1 w':=by
  refine ⟨aSj,λg hg=>?_,λbx hbx=>?_,λr hr=>?_⟩
  ·rw [hbl1] at hg;simp only [nH] at hg;rcases hg with (hg|hg)|hg|hg
   ·exact mM (aH8 g (by simp [hg])) hkb.size
   ·exact mM (aH8 g (by simp only [nH];exact .inl (.inr hg))) hkb.size
   ·exact aSk g hg
   exact mM (aH8 g (by simp only [nH];exact .inr (.inr hg))) hkb.size
  ·have aOy:bx∈st.s.boxes:=by rw [←hs1] at hbx;exact hbx
   obtain ⟨us',ae,e2⟩:=hs.mem.box bx aOy;have hbb:bx.b∈st.s.boxes.map aV.b:=k_.2 ⟨bx,aOy,J⟩;refine ⟨us',?_,e2.mono hup⟩;rw [hkr.block _ (aH8 _ (by simp only [nH];exact .inl (.inl hbb))) (λhm=>?_)]
   ·exact ae
   exact (eF.1 hnd).2.2 bx.b (gW _ hbb) bx.b (gW _ hm) J
  rw [←hs1] at hr;simp only [nH,oX] at hr;have old:r∈A∨r∈B -> ∃us,pB w' r us /\ dA (bh s1.bl w') r.cs us:=λhr=>by
   obtain ⟨us',ae,e2⟩:=hs.mem.row r (by rw [hrow];simp only [nH,oX];rcases hr with h|h;exact .inl h;exact .inr (.inr h));refine ⟨us',ae.keep λg hg=>?_,e2.mono hup⟩;refine hkr.block g ?_ λhm=>?_
   ·rcases hr with hr|hr
    ·exact aH8 g (by simp only [nH];exact .inl (.inr (kr.2 ⟨r,hr,hg⟩)))
    exact aH8 g (by simp only [nH];exact .inr (.inr (kr.2 ⟨r,hr,hg⟩)))
   rcases hr with hr|hr
   ·exact (eF.1 hnd).2.2 g (gz _ (kr.2 ⟨r,hr,hg⟩)) g (gW _ hm) J
   exact (eF.1 (eF.1 hnd).2.1).2.2 g hm g (kr.2 ⟨r,hr,hg⟩) J
  rcases hr with hr|rfl|hr
  ·exact old (.inl hr)
  ·exact ⟨us++ys,.inl hown',(hrep.mono hup).app (DP.mono hup)⟩
  exact old (.inr hr)
 have s2:=hs.step (aR v'++st.T) hkb hmem hsub;rw [hd];have h9:=h v';rw [hs1] at h9;have h1c:v'.oneCell'=true:=by obtain ⟨_,_,he⟩:=Af hown';rw [he];rfl
 refine hK _ _ _ h9 (s2.put (v:=v') hn (.c _ _ (.val _ h1c))) ⟨hkb,hkr.mono hT,hsub,λg hg=>?_⟩ (hkr.mono (hU hs.mem.nodup));rcases nH.1 hg with hg|hg
 ·exact (hfr2 g hg).imp (hT g) id
 exact .inl hg
theorem Fl{t e:ax}{x y:bb}{d n m z bytes:Nat}{v zv:aN}{cs ds:List aO}{i:TypeInfo}(A:List aQ){B:List aQ}(ho:o.op=.call {callee:=.builtin .append,args:=#[x,y],argTypes:=#[t,t]})(hd:o.dst=some d)(hn:d<st.n)
  (hx:aw st x=some (.c (.val v))) (hrow:st.s.rows=A++⟨v,e,z,n,cs⟩::B) (hy:aw st y=some (.c (.sl m ds))) (hu:P.underlying t=some (.slice e)) (hi:P.info? e=some i) (hz:i.zero=some zv) (hsz:i.size=z) (hby:i.bytes=bytes) (hzs:zv.cells.size=z) (h0:0<z)
  (hm:ds.length=m*z) (hm0:0<m) (hlen:n+m <= maxLen) (hbytes:(n+m)*bytes <= 140737488355328) (hU:st.s.bl.Nodup -> ∀b,b∈aR v -> b∈U) (hT:∀b,b∈aR v -> b∈st.T)
  (h:∀v',K {st with s:=⟨st.s.boxes,A++⟨v',e,z,n+m,cs++ds⟩::B⟩,T:=aR v'++st.T,ts:=(d,.c (.val v'))::st.ts}):db P U o st K:=by
 refine I_ A hd hn hrow h0 (λa w hs us hown=>?_) hU hT h;have hye:=hs.ev hy;generalize hyv:a.eval y=yv at hye;cases hye with
 |c _ _ hye=>cases hye with
  |sl _ _ ys _ hra hyl hyr=>
   obtain ⟨p,cap,rfl,-,hra⟩:=hra;rcases hra with rfl|⟨b,of,rfl,hc⟩
   ·simp at hyl;have:0<m*z:=Nat.mul_pos hm0 h0;omega
   have DP:dA (bh st.s.bl w) ds ys:=⟨hyl,hyr⟩;exact ⟨ys,DP,λKK QQ hK=>M1 w x y t ho 0 e i zv z bytes hu hi hz hsz hby hzs h0 v n us (hs.val hx) hown ⟨b,of,none⟩ m cap ys hyv (by rw [hyl,hm]) (λj u hj=>by rw [tZ];exact (qL (hc j u hj)).1) DP.one hlen hbytes (eL _) hK⟩
theorem pZ{a:Act}{w:aa}(hs:e0 st a w):∀{ps:List bb} {ts:List AT},ps.map (aw st)=ts.map some -> (ps.map a.eval).length=ts.length /\ ∀i (h:i<ts.length) (h':i<(ps.map a.eval).length),cS (bh st.s.bl w) ts[i] (ps.map a.eval)[i]
 |[],ts,h=>by cases ts with|nil=>exact ⟨rfl,λi h=>absurd h aM⟩|cons=>cases h
 |p::ps,ts,h=>by
  cases ts with
  |nil=>cases h
  |cons t ts=>
   simp only [ca,tN] at h;obtain ⟨h1,h2⟩:=pZ hs h.2;refine ⟨ta,λi hi hi2=>?_⟩;cases i with
   |zero=>exact hs.ev h.1
   |succ i=>exact h2 i pz (by simpa using hi2)
theorem EW{F:FuncId}{d:Nat}{vs:List aN}{ts:List AT}{T':List Nat}{Q:AT -> aH -> Prop}{a:Act}{w:aa}(hs:e0 st a w)(hd:o.dst=some d)(hn:d<st.n)(hl:vs.length=ts.length)(hv:∀i (h:i<ts.length) (h':i<vs.length),cS (bh st.s.bl w) ts[i] vs[i])
  (hrun:(execOp a.eval o).run P w=.ok (.enter F vs.toArray) w) (hc:aT P F ts T' st.s Q) (hT:∀b,b∈T' -> b∈st.T) (ur:∀b,b∈T' -> b∈st.s.bl) (hU:st.s.bl.Nodup -> ∀b,b∈T' -> b∈U)
  (h:∀r s',Q r s' -> K {st with s:=s',ts:=(d,r)::st.ts}) (KK:Act -> aa -> Prop) (QQ:Exit -> Act -> aa -> Prop) (hK:∀a' w' st',K st' -> e0 st' a' w' -> iT st w st' w' -> cQ U w w' -> KK a' w'):o.wp P a w KK QQ:=by
 unfold Oper.wp;rw [hrun,Oper.upon_enter];refine (hc vs w hs.mem ur hl hv).mono ?_;rintro en w' ⟨r,v,s',rfl,hq,hr,hm,hk,hb⟩;dsimp only;rw [hd];have s1:=hs.step st.T (hk.mono ur) hm hb;exact hK _ _ _ (h r s' hq) (s1.put hn hr) ⟨hk.mono ur,hk.mono hT,hb,λb hb=>.inl hb⟩ (hk.mono (hU hs.mem.nodup))
theorem TF{F:FuncId}{d:Nat}{ks:Array bb}{rg:Array ax}{ts:List AT}(T':List Nat){Q:AT -> aH -> Prop}(ho:o.op=.call {callee:=.value (.func F),args:=ks,argTypes:=rg})(hd:o.dst=some d)(hn:d<st.n)
  (hcf:∀args w,(callFunc F args).run P w=.ok (.enter F args) w) (has:ks.toList.map (aw st)=ts.map some) (hc:aT P F ts T' st.s Q) (hT:∀b,b∈T' -> b∈st.T) (ur:∀b,b∈T' -> b∈st.s.bl) (hU:st.s.bl.Nodup -> ∀b,b∈T' -> b∈U)
  (h:∀r s',Q r s' -> K {st with s:=s',ts:=(d,r)::st.ts}):db P U o st K:=by
 intro a w hs KK QQ hK;obtain ⟨h1,h2⟩:=pZ hs has;refine EW hs hd hn h1 h2 ?_ hc hT ur hU h KK QQ hK;simp only [execOp,ho,resolve,Deferred.ofValue,Act.eval,dK,fo,eu,invoke];rw [hcf]
 congr 2
 rw [←oZ];simp
theorem EG{w:aa}{ts us:List AT}{vs xs:List aN}(h1:vs.length=ts.length)(h2:∀i (h:i<ts.length) (h':i<vs.length),cS w ts[i] vs[i])(k1:xs.length=us.length)(k2:∀i (h:i<us.length) (h':i<xs.length),cS w us[i] xs[i]):
  (vs++xs).length=(ts++us).length /\ ∀i (h:i<(ts++us).length) (h':i<(vs++xs).length),cS w (ts++us)[i] (vs++xs)[i]:=by
 refine ⟨by simp [h1,k1],λi hi hi'=>?_⟩;rcases jn i ts.length with h|h
 ·rw [sG h,sG (by rw [h1];exact h)];exact h2 _ _ _
 rw [rX h,rX (by rw [h1];exact h)];simp only [h1];exact k2 _ (by simp at hi;omega) (by simp at hi';omega)
theorem Bd(w:aa)(vs:List aN):vs.length=(vs.map gO).length /\ ∀i (h:i<(vs.map gO).length) (h':i<vs.length),cS w (vs.map gO)[i] vs[i]:=⟨aM,λi h h'=>by simp only [qe];exact AX _ _⟩
def m8(P:Program)(st:AS)(rv:ResultVar)(r:AT):Prop:=∀a w,e0 st a w -> ∃v,cS (bh st.s.bl w) r v /\ ((match rv with|.tmp t=>pure (a.tmps.getD t undef)|.cell x t=>do loadVar t (←asAddr (a.tmps.getD x undef))):Sem Value).run P w=.ok v w
theorem bO{t:Tmp}{r:AT}(h:look st.ts t=some r):m8 P st (.tmp t) r:=λa w hs=>by
 obtain ⟨v,h1,h2⟩:=hs.tm t r h;exact ⟨v,h2,by simp only [fo,jW,h1,xy]⟩
theorem bv{x:Tmp}{ty:ax}{r:AT}{b off z:Nat}{T:ax}{cs:List aO}{ag:Bool}(A:List aV){B:List aV}(h:look st.ts x=some (.c (.val (.pointer (some ⟨b,off,none⟩)))))(hb:st.s.boxes=A++⟨b,T,cs⟩::B)
  (hA:∀w,(isAgg ty).run P w=.ok ag w) (hS:∀w,(sizeOf ty).run P w=.ok z w) (hp:fi ag z cs off=some r):m8 P st (.cell x ty) r:=λa w hs=>by
 obtain ⟨v,h1,h2⟩:=hs.tm x _ h;have:=h2.val;subst this;obtain ⟨us,⟨fz,-,h3⟩,h4⟩:=hs.mem.box ⟨b,T,cs⟩ ub;obtain ⟨v,hv,hl⟩:=Do (P:=P) (b:=b) (o:=0) hA hS h4 hp;refine ⟨v,hv,?_⟩;have hl2:=hl w (λj u hj=>by unfold World.cell?;simp only [h3];simpa using hj);simp only [cq] at hl2;simp only [jW,h1,xy,asAddr,dK,fo,eu,hl2]
theorem fg{fn:Func}(h:fn.results=#[]):nb P fn st (.fd []):=λa w hs=>⟨.tuple #[],.fd [] [] rfl B3,results_none h _ _ _⟩
theorem Us{f:ResultVar -> Sem aN}{r1:ResultVar}{v1:aN}{w:aa}(ae:(f r1).run P w=.ok v1 w):(#[r1].mapM f).run P w=.ok #[v1] w:=by
 simp [dK,ae]
theorem YW{f:ResultVar -> Sem aN}{r1 r2:ResultVar}{v1 v2:aN}{w:aa}(ae:(f r1).run P w=.ok v1 w)(e2:(f r2).run P w=.ok v2 w):(#[r1,r2].mapM f).run P w=.ok #[v1,v2] w:=by
 simp [dK,ae,e2]
theorem SE{f:ResultVar -> Sem aN}{r1 r2 r3:ResultVar}{v1 v2 v3:aN}{w:aa}(ae:(f r1).run P w=.ok v1 w)(e2:(f r2).run P w=.ok v2 w)(e3:(f r3).run P w=.ok v3 w):(#[r1,r2,r3].mapM f).run P w=.ok #[v1,v2,v3] w:=by
 simp [dK,ae,e2,e3]
theorem bJ{fn:Func}{rv:ResultVar}{r:AT}(h:fn.results=#[rv])(h1:m8 P st rv r):nb P fn st r:=λa w hs=>by
 obtain ⟨v,ae,e2⟩:=h1 a w hs;refine ⟨v,ae,?_⟩;unfold results;rw [h,dK]
 erw [Us e2]
 simp [go_sem]
theorem Vq{w:aa}{r1 r2:AT}{v1 v2:aN}(h1:cS w r1 v1)(h2:cS w r2 v2):cS w (.fd [r1,r2]) (.tuple #[v1,v2]):=
 .fd [r1,r2] [v1,v2] rfl λi h h'=>by rcases i with _|_|i;exact h1;exact h2;simp at h;omega
theorem YE{w:aa}{r1 r2 r3:AT}{v1 v2 v3:aN}(h1:cS w r1 v1)(h2:cS w r2 v2)(h3:cS w r3 v3):cS w (.fd [r1,r2,r3]) (.tuple #[v1,v2,v3]):=
 .fd [r1,r2,r3] [v1,v2,v3] rfl λi h h'=>by rcases i with _|_|_|i;exact h1;exact h2;exact h3;simp at h;omega
theorem jA{fn:Func}{rv1 rv2:ResultVar}{r1 r2:AT}(h:fn.results=#[rv1,rv2])(h1:m8 P st rv1 r1)(h2:m8 P st rv2 r2):nb P fn st (.fd [r1,r2]):=λa w hs=>by
 obtain ⟨v1,ae,f1⟩:=h1 a w hs;obtain ⟨v2,e2,f2⟩:=h2 a w hs;refine ⟨_,Vq ae e2,?_⟩;unfold results;rw [h,dK]
 erw [YW f1 f2]
 simp [go_sem]
theorem rk{fn:Func}{rv1 rv2 rv3:ResultVar}{r1 r2 r3:AT}(h:fn.results=#[rv1,rv2,rv3])(h1:m8 P st rv1 r1)(h2:m8 P st rv2 r2)(h3:m8 P st rv3 r3):nb P fn st (.fd [r1,r2,r3]):=λa w hs=>by
 obtain ⟨v1,ae,f1⟩:=h1 a w hs;obtain ⟨v2,e2,f2⟩:=h2 a w hs;obtain ⟨v3,e3,f3⟩:=h3 a w hs;refine ⟨_,YE ae e2 e3,?_⟩;unfold results;rw [h,dK]
 erw [SE f1 f2 f3]
 simp [go_sem]
def bI(r r':AT):Prop:=∀w v,cS w r v -> cS w r' v
def xH(x y:aO):Prop:=∀w v,j7 w x v -> j7 w y v
theorem xH.refl(x:aO):xH x x:=λ_ _ h=>h
theorem tz:xH (.val (.slice none 0 0)) (.sl 0 []):=λw v h=>by cases h;exact .sl 0 [] [] _ (eD.nil w) rfl B3 (λ_ _ _ h=>by cases h;decide)
theorem bI.refl(r:AT):bI r r:=λ_ _ h=>h
theorem bI.c{x y:aO}(h:xH x y):bI (.c x) (.c y):=λw v hr=>by cases hr with|c _ _ hr=>exact .c _ _ (h _ _ hr)
inductive mV:List aO -> List aO -> Prop
 |nil:mV [] []
 |cons {x y:aO} {xs ys:List aO} (h:xH x y) (t:mV xs ys):mV (x::xs) (y::ys)
theorem mV.refl:∀xs:List aO,mV xs xs
 |[]=>.nil
 |x::xs=>.cons (.refl x) (mV.refl xs)
theorem mV.rep{w:aa}{xs ys:List aO}(h:mV xs ys):∀{us:List aN},dA w xs us -> dA w ys us:=by
 induction h with
 |nil=>exact λh=>h
 |cons h t ih=>
  intro us hr;cases us with
  |nil=>have:=hr.len;simp at this
  |cons u us=>exact .cons (h _ _ (hr.at_ 0 aM aM)) (ih ⟨by have:=hr.len;simpa using this,λi h1 h2=>hr.at_ (i+1) ta qD⟩)
theorem bI.agg{xs ys:List aO}(h:mV xs ys):bI (.agg xs) (.agg ys):=λw v hr=>by cases hr with|agg _ us hr=>exact .agg _ _ (h.rep hr)
theorem gK{fn:Func}{r r':AT}(h:bI r r')(hr:nb P fn st r):nb P fn st r':=λa w hs=>let ⟨v,ae,e2⟩:=hr a w hs;⟨v,h _ _ ae,e2⟩
theorem S5:Sub st {st with ts:=[]}:=λa w h=>⟨⟨h.df,h.sz,λi t ht=>(by cases ht),h.mem⟩,λ_ h=>h,λ_ h=>h⟩
theorem av{i:Nat}{t u:AT}{ts:List (Nat×AT)}(hl:look st.ts i=some u)(hw:bI u t)(h:Sub st {st with ts:=ts}):Sub st {st with ts:=(i,t)::ts}:=λa w hs=>by
 obtain ⟨h1,h2,h3⟩:=h a w hs;refine ⟨⟨h1.df,h1.sz,λj x hx=>?_,h1.mem⟩,h2,h3⟩;simp only [look] at hx;split at hx
 ·rename_i he;subst he;cases hx;obtain ⟨v,ae,e2⟩:=hs.tm i u hl;exact ⟨v,ae,hw _ _ e2⟩
 exact h1.tm j x hx
theorem JY(T':List Nat)(h:∀b,b∈T' -> b∈st.T):Sub st {st with T:=T'}:=λa w hs=>⟨⟨hs.df,hs.sz,hs.tm,hs.mem⟩,λ_ h=>h,h⟩
theorem rS{s':aH}(h:jJ st.s s'):Sub st {st with s:=s'}:=λa w hs=>by
 obtain ⟨h1,h2⟩:=h w hs.mem;exact ⟨⟨hs.df,hs.sz,λi t ht=>let ⟨v,ae,e2⟩:=hs.tm i t ht;⟨v,ae,e2.mono (up_sub h2) (AR (bY _))⟩,h1⟩,h2,λ_ h=>h⟩
theorem P8(E:ax)(z:Nat):Sub st {st with s:=⟨st.s.boxes,⟨.slice none 0 0,E,z,0,[]⟩::st.s.rows⟩}:=λa w hs=>by
 have hbl:(⟨st.s.boxes,⟨.slice none 0 0,E,z,0,[]⟩::st.s.rows⟩:aH).bl=st.s.bl:=Im;refine ⟨⟨hs.df,hs.sz,?_,?_,?_,?_,?_⟩,?_,λ_ h=>h⟩
 ·rw [hbl];exact hs.tm
 ·rw [hbl];exact hs.mem.nodup
 ·rw [hbl];exact hs.mem.lt
 ·rw [hbl];exact hs.mem.box
 ·rw [hbl];intro r hr;rcases oX.1 hr with rfl|hr
  ·exact ⟨[],.inl (ownsRow_nil _ _ _ _),.nil _⟩
  exact hs.mem.row r hr
 rw [hbl];exact λ_ h=>h
theorem Cd{w:aa}{base:Nat}{e:ax}{size:Nat}{v:aN}{n:Nat}{xs:List aN}(h:w.ownsRow base e size v n xs):∀a k c,v=.slice a k c -> c <= 9223372036854775807:=by
 rintro a k c rfl;rcases h.2 with ⟨h1,_⟩|⟨g,cap,cur,h1,_,_,_,h2,_⟩
 ·cases h1;decide
 cases h1;unfold maxLen at h2;omega
theorem GJ{A B:List aQ}{v:aN}{E:ax}{z n:Nat}{cs:List aO}(i:Nat)(hi:look st.ts i=some (.c (.val v)))(hrow:st.s.rows=A++⟨v,E,z,n,cs⟩::B)(hz:0<z:=by decide):Sub st {st with s:=⟨st.s.boxes,A++B⟩,ts:=(i,.c (.sl n cs))::st.ts}:=λa w hs=>by
 have hsub:jJ st.s ⟨st.s.boxes,A++B⟩:=ah (wR _) (by rw [hrow];exact CU (wR _) (AJ _ _));obtain ⟨h1,h2,h3⟩:=rS hsub a w hs;refine ⟨⟨h1.df,h1.sz,λj x hx=>?_,h1.mem⟩,h2,h3⟩;simp only [look] at hx;split at hx
 ·rename_i he;subst he;cases hx;obtain ⟨u,ae,e2⟩:=hs.tm i _ hi;have:=e2.val;subst this;obtain ⟨us,la,hrep⟩:=hs.mem.row ⟨u,E,z,n,cs⟩ ti;have hown:=la.row hz;refine ⟨u,ae,.c _ _ (.sl _ _ us _ ?_ hrep.len (λk h h'=>(hrep.at_ k h h').mono (up_sub h2)) (Cd hown))⟩;obtain ⟨p,cap,he,hc,hr⟩:=eD.Fk hown;refine ⟨p,cap,he,hc,?_⟩;rcases hr with h0|⟨b,off,rfl,hr⟩
  ·exact .inl h0
  refine .inr ⟨b,off,J,λj x hj=>?_⟩;have hbv:b∈aR u:=by have he2:u=.slice (some ⟨b,off,none⟩) n cap:=he;rw [he2];simp [aR,Value.ownBlock]
  rw [pw]
  ·exact hr j x hj
  intro hm;have hnd:=hs.mem.nodup;have aIq:st.s.bl=(st.s.boxes.map aV.b++A.flatMap λr=>aR r.v)++(aR u++B.flatMap λr=>aR r.v):=by have:=Cq st.s.boxes A B ⟨u,E,z,n,cs⟩;rw [←hrow] at this;exact this
  rw [aIq] at hnd;have hm2:b∈(st.s.boxes.map aV.b++A.flatMap λr=>aR r.v)∨b∈B.flatMap λr=>aR r.v:=by
   unfold aH.bl at hm;simp only [dh,nH] at hm⊢;rcases hm with h|h|h
   ·exact .inl (.inl h)
   ·exact .inl (.inr h)
   exact .inr h
  rcases hm2 with hm2|hm2
  ·exact (eF.1 hnd).2.2 b hm2 b (gW _ hbv) J
  exact (eF.1 (eF.1 hnd).2.1).2.2 b hbv b hm2 J
 exact h1.tm j x hx
end
end
section
open Go.RowKit
section
variable {P:Program}{ops:Array Oper}{U Z:List Nat}{o:Oper}{l:List Oper}{n d:Nat}{T:List Nat}{s:aH}{bx:List aV}{rw:List aQ}{ts:List (Nat×AT)}{t:AT}{Q:Exit -> AS -> Prop}{KK:AS -> Prop}{K:AS -> Prop}
theorem Ct(hw:d6 ops o ⟨n,T,s,ts⟩=some true)(hd:o.dst=some d)(hn:d<n)(hy:cp P [] o ⟨n,T,s,ts⟩ t)(h:cN P ops l ⟨n,T,s,(d,t)::ts⟩ Q):cN P ops (o::l) ⟨n,T,s,ts⟩ Q:=VM hw hd hn hy h
theorem ZS(hw:d6 ops o ⟨n,T,s,ts⟩=some false)(hd:o.dst=some d)(hn:d<n)(h:cN P ops l ⟨n,T,s,(d,.raw undef)::ts⟩ Q):cN P ops (o::l) ⟨n,T,s,ts⟩ Q:=Wc hw hd hn h
theorem aW(hw:d6 ops o ⟨n,T,s,ts⟩=some true)(h:db P T o ⟨n,T,s,ts⟩ λs=>cN P ops l s Q):cN P ops (o::l) ⟨n,T,s,ts⟩ Q:=Xf hw h
theorem TK(i:Nat){fuel:Nat}{listed:Array Bool}(hr:(Region.ready .any ops listed).contains i=true)(hi:ops.toList[i]?=some o)(hf:Region.free .any ops listed i=true)(hsel:Region.noSelect ops=true)(hw:d6 ops o ⟨n,T,s,ts⟩=some true)(hd:o.dst=some d)(hn:d<n)(hy:cp P (fq s Z) o ⟨n,T,s,ts⟩ t)
  (h:dq P ops Z fuel (listed.setIfInBounds i true) ⟨n,T,s,(d,t)::ts⟩ K):dq P ops Z (fuel+1) listed ⟨n,T,s,ts⟩ K:=PT i hr hi hf hsel hw hd hn hy h
theorem one(i:Nat){fuel:Nat}{listed:Array Bool}(hr:Region.ready .any ops listed=[i])(hi:ops.toList[i]?=some o)(hw:d6 ops o ⟨n,T,s,ts⟩=some true)
  (h:db P (fq s Z) o ⟨n,T,s,ts⟩ λs=>dq P ops Z fuel (listed.setIfInBounds i true) s K):dq P ops Z (fuel+1) listed ⟨n,T,s,ts⟩ K:=Dg hr rfl (uc hi hw h D')
theorem two(i j:Nat){o2:Oper}{fuel:Nat}{listed:Array Bool}(hr:Region.ready .any ops listed=[i,j])(hi:ops.toList[i]?=some o)(hw:d6 ops o ⟨n,T,s,ts⟩=some true)(hi2:ops.toList[j]?=some o2)(hw2:d6 ops o2 ⟨n,T,s,ts⟩=some true)
  (h:db P (fq s Z) o ⟨n,T,s,ts⟩ λs=>dq P ops Z fuel (listed.setIfInBounds i true) s K) (h2:db P (fq s Z) o2 ⟨n,T,s,ts⟩ λs=>dq P ops Z fuel (listed.setIfInBounds j true) s K):dq P ops Z (fuel+1) listed ⟨n,T,s,ts⟩ K:=
 Dg hr rfl (uc hi hw h (uc hi2 hw2 h2 D'))
theorem ZD{st:AS}(hd:o.dst=some d)(hn:d<st.n)(hy:cp P [] o st t)(h:K {st with ts:=(d,t)::st.ts}):db P U o st K:=by
 intro a w hs KK QQ hK;obtain ⟨v,hr,hx⟩:=hy a w hs jf;unfold Oper.wp;rw [hx w (cQ.refl _ _),Oper.upon_value,hd];exact hK _ _ _ h (hs.put hn hr) ⟨cQ.refl _ _,cQ.refl _ _,λb hb=>.inl hb,λb hb=>.inl hb⟩ (cQ.refl _ _)
theorem Pf{E:ax}{x:bb}{cs:List aO}(ho:o.op=.box E x)(hd:o.dst=some d)(hn:d<n)(hx:aw ⟨n,T,⟨bx,rw⟩,ts⟩ x=some t)(hc:kc t=some cs)
  (h:∀b,K ⟨n,b::T,⟨⟨b,E,cs⟩::bx,rw⟩,(d,.c (.val (.pointer (some ⟨b,0,none⟩))))::ts⟩):db P U o ⟨n,T,⟨bx,rw⟩,ts⟩ K:=RY ho hd hn hx hc h
theorem iz{E:ax}{z:aN}{cs:List aO}(ho:o.op=.alloc E)(hd:o.dst=some d)(hn:d<n)(hz:∀w,(zeroValue E).run P w=.ok z w)(hc:kc (gO z)=some cs)
  (h:∀b,K ⟨n,b::T,⟨⟨b,E,cs⟩::bx,rw⟩,(d,.c (.val (.pointer (some ⟨b,0,none⟩))))::ts⟩):db P U o ⟨n,T,⟨bx,rw⟩,ts⟩ K:=Su ho hd hn hz hc h
section
variable {ty E:TypeId}{x y:Operand}{b off z:Nat}{cs ds r:List aO}{A B:List aV}{x1 x2 x3 x4:aV}
theorem M0(ho:o.op=.store ty x y)(hd:o.dst=none)(hx:aw ⟨n,T,⟨⟨b,E,cs⟩::B,rw⟩,ts⟩ x=some (.c (.val (.pointer (some ⟨b,off,none⟩)))))(hy:aw ⟨n,T,⟨⟨b,E,cs⟩::B,rw⟩,ts⟩ y=some t)(hc:kc t=some ds)
  (hS:∀w,(sizeOf ty).run P w=.ok z w) (hz:ds.length=z) (hl:off+z <= cs.length) (hr:splice cs off ds=r) (hT:b∈T) (hU:(⟨⟨b,E,cs⟩::B,rw⟩:aH).bl.Nodup -> b∈U) (h:K ⟨n,T,⟨⟨b,E,r⟩::B,rw⟩,ts⟩):db P U o ⟨n,T,⟨⟨b,E,cs⟩::B,rw⟩,ts⟩ K:=Co [] ho hd hx hy hc rfl hS hz hl hr hT hU h
end
theorem uM{E:ax}{e:ax}(i:TypeInfo){z:aN}{len:Nat}{parts:Array (Nat×bb)}{ps:List (Nat×AT)}(zc:List aO){r:List aO}(ho:o.op=.buildSlice E len parts)(hd:o.dst=some d)(hn:d<n)(hps:pX ⟨n,T,s,ts⟩ parts.toList ps)
  (hu:P.underlying E=some (.slice e)) (hi:P.info? e=some i) (hz:i.zero=some z) (hsmall:¬len*i.size>2 ^ 24) (hpos:¬len*i.size=0) (hzc:(((Array.range (len*i.size)).map (z.cells[·% z.cells.size]!)).toList.all (·.oneCell'))=true) (hzr:((Array.range (len*i.size)).map (z.cells[·% z.cells.size]!)).toList.map .val=zc)
  (hf:nV (λk=>some (k*i.size,i.size)) zc ps=some r) (h:K ⟨n,T,s,(d,.c (.sl len r))::ts⟩):db P U o ⟨n,T,s,ts⟩ K:=U2 i ho hd hn hps hu hi hz hsmall hpos hzc hzr hf h
theorem yO{E e:ax}{x y:bb}{k m z:Nat}{v zv:aN}{cs ds r:List aO}(i:TypeInfo)(bytes:Nat){B:List aQ}(ho:o.op=.call {callee:=.builtin .append,args:=#[x,y],argTypes:=#[E,E]})(hd:o.dst=some d)(hn:d<n)
  (hx:aw ⟨n,T,⟨bx,⟨v,e,z,k,cs⟩::B⟩,ts⟩ x=some (.c (.val v))) (hy:aw ⟨n,T,⟨bx,⟨v,e,z,k,cs⟩::B⟩,ts⟩ y=some (.c (.sl m ds))) (hu:P.underlying E=some (.slice e)) (hi:P.info? e=some i) (hz:i.zero=some zv) (hsz:i.size=z) (hby:i.bytes=bytes) (hzs:zv.cells.size=z) (h0:0<z)
  (hm:ds.length=m*z) (hm0:0<m) (hlen:k+m <= maxLen) (hbytes:(k+m)*bytes <= 140737488355328) {N:Nat} (hN:k+m=N) (hU:(⟨bx,⟨v,e,z,k,cs⟩::B⟩:aH).bl.Nodup -> ∀b,b∈aR v -> b∈U) (hT:∀b,b∈aR v -> b∈T) (hr:cs++ds=r)
  (h:∀v',K ⟨n,aR v'++T,⟨bx,⟨v',e,z,N,r⟩::B⟩,(d,.c (.val v'))::ts⟩):db P U o ⟨n,T,⟨bx,⟨v,e,z,k,cs⟩::B⟩,ts⟩ K:=by
 subst hr;subst hN;exact Fl [] ho hd hn hx J hy hu hi hz hsz hby hzs h0 hm hm0 hlen hbytes hU hT h
theorem bo{F:FuncId}{ks:Array bb}{rg:Array ax}{us:List AT}(T':List Nat){QQ:AT -> aH -> Prop}(ho:o.op=.call {callee:=.value (.func F),args:=ks,argTypes:=rg})(hd:o.dst=some d)(hn:d<n)
  (hcf:∀args w,(callFunc F args).run P w=.ok (.enter F args) w) (has:ks.toList.map (aw ⟨n,T,s,ts⟩)=us.map some) (hc:aT P F us T' s QQ) (hT:∀b,b∈T' -> b∈T) (ur:∀b,b∈T' -> b∈s.bl) (hU:s.bl.Nodup -> ∀b,b∈T' -> b∈U)
  (h:∀r s',QQ r s' -> K ⟨n,T,s',(d,r)::ts⟩):db P U o ⟨n,T,s,ts⟩ K:=TF T' ho hd hn hcf has hc hT ur hU h
theorem az{bx':List aV}{rw':List aQ}{T':List Nat}{ts':List (Nat×AT)}(h3:∀b,b∈T' -> b∈T)(h1:bx'.Sublist bx:=by exact (.refl _))(h2:rw'.Sublist rw:=by exact (.refl _))(h:Sub ⟨n,T',⟨bx',rw'⟩,ts⟩ ⟨n,T',⟨bx',rw'⟩,ts'⟩:=by exact (ao rfl)):Sub ⟨n,T,⟨bx,rw⟩,ts⟩ ⟨n,T',⟨bx',rw'⟩,ts'⟩:=
 Sub.trans (rS (st:=⟨n,T,⟨bx,rw⟩,ts⟩) (s':=⟨bx',rw'⟩) (ah h1 h2)) (Sub.trans (JY (st:=⟨n,T,⟨bx',rw'⟩,ts⟩) T' h3) h)
theorem Pn{b:Nat}(h:b∈s.bl):b∈fq s []:=gZ.2 ⟨h,aM⟩
theorem Ec{st:AS}(i:Nat){u t:AT}(hl:look st.ts i=some u)(hw:bI u t):Sub st {st with ts:=(i,t)::st.ts}:=λa w hs=>by
 refine ⟨⟨hs.df,hs.sz,λj x hx=>?_,hs.mem⟩,λ_ h=>h,λ_ h=>h⟩;simp only [look] at hx;split at hx
 ·rename_i he;subst he;cases hx;obtain ⟨v,ae,e2⟩:=hs.tm i u hl;exact ⟨v,ae,hw _ _ e2⟩
 exact hs.tm j x hx
theorem cx(i:Nat){u t:AT}(hl:look ts i=some u)(hw:bI u t)(h:cN P ops l ⟨n,T,s,(i,t)::ts⟩ Q):cN P ops l ⟨n,T,s,ts⟩ Q:=u' (Ec (st:=⟨n,T,s,ts⟩) i hl hw) h
theorem gA(E:ax)(z:Nat){c:Code}(h:bi P c ⟨n,T,⟨bx,⟨.slice none 0 0,E,z,0,[]⟩::rw⟩,ts⟩ Q):bi P c ⟨n,T,⟨bx,rw⟩,ts⟩ Q:=rY (P8 (st:=⟨n,T,⟨bx,rw⟩,ts⟩) E z) h
theorem oB(i:Nat){c:Code}{v:aN}{E:ax}{z k:Nat}{cs:List aO}(hi:look ts i=some (.c (.val v)))(h:bi P c ⟨n,T,⟨bx,rw⟩,(i,.c (.sl k cs))::ts⟩ Q)(hz:0<z:=by decide):bi P c ⟨n,T,⟨bx,⟨v,E,z,k,cs⟩::rw⟩,ts⟩ Q:=
 rY (GJ (st:=⟨n,T,⟨bx,⟨v,E,z,k,cs⟩::rw⟩,ts⟩) (A:=[]) i hi rfl hz) h
theorem HQ{y:Code}{st:AS}(h:bi P y st Q):lH (λs=>bi P y s Q) Q .normal st:=h
theorem X7{st:AS}{id:Nat}(h:Q .normal st):rQ id Q (.exit id) st:=by show (if id=id then _ else _);rw [if_pos rfl];exact h
theorem Tl{st:AS}{id id':Nat}(hne:id'≠id)(h:Q (.exit id') st):rQ id Q (.exit id') st:=by show (if id'=id then _ else _);rw [if_neg hne];exact h
theorem rR{c:bb}{x y:Code}{st:AS}{b:Bool}(hc:aw st c=some (.c (.val (.bool b))))(hb:b=true)(h:bi P x st Q):bi P (.cond c x y) st Q:=iD hc (λ_=>h) (λh=>by rw [hb] at h;cases h)
theorem UB{c:bb}{x y:Code}{st:AS}{b:Bool}(hc:aw st c=some (.c (.val (.bool b))))(hb:b=false)(h:bi P y st Q):bi P (.cond c x y) st Q:=iD hc (λh=>by rw [hb] at h;cases h) (λ_=>h)
theorem wrap64{m:Int}(h1:-9223372036854775808 <= m)(h2:m <= 9223372036854775807):IntKind.i64.wrap m=m:=IntWalk.i64_in _ ⟨h1,h2⟩
theorem ua{st:AS}{E yt:ax}{x y:bb}{m k:Int}(ho:o.op=.binOp .add E x y yt)(hx:aw st x=some (.c (.val (.int .i64 m))))(hy:aw st y=some (.c (.val (.int .i64 k))))(h1:-9223372036854775808 <= m+k)(h2:m+k <= 9223372036854775807):cp P U o st (.c (.val (.int .i64 (m+k)))):=
 Jc ho hx hy (by simp only [D7,wrap64 h1 h2])
theorem kM{st:AS}{E yt:ax}{x y:bb}{m k:Int}(ho:o.op=.binOp .sub E x y yt:=by exact rfl)(hx:aw st x=some (.c (.val (.int .i64 m))):=by exact rfl)(hy:aw st y=some (.c (.val (.int .i64 k))):=by exact rfl)(h1:-9223372036854775808 <= m-k:=by omega)(h2:m-k <= 9223372036854775807:=by omega):cp P U o st (.c (.val (.int .i64 (m-k)))):=
 Jc ho hx hy (by simp only [D7,wrap64 h1 h2])
theorem Js{α:Type}(enc:α -> List aO)(z:Nat)(hz:∀x,(enc x).length=z):∀(l:List α)(k:Nat)(hk:k<l.length),(l.flatMap enc).drop (k*z)=enc l[k]++(l.drop (k+1)).flatMap enc
 |[],k,hk=>absurd hk aM
 |x::l,0,_=>aM
 |x::l,k+1,hk=>by
  have ih:=Js enc z hz l k ql;rw [eZ,yg,sY (by rw [hz,wx];omega),hz,ck];have e:(k+1)*z-z=k*z:=by rw [wx];omega
  rw [e,ih];simp
theorem dF{α:Type}(enc:α -> List aO)(z:Nat)(hz:∀x,(enc x).length=z):∀l:List α,(l.flatMap enc).length=l.length*z
 |[]=>aM
 |x::l=>by rw [eZ,FI,hz,dF enc z hz l,y8,wx];omega
theorem bX{st:AS}{E e:ax}{x y:bb}{z:Nat}{α:Type}(enc enc':α -> List aO)(lst:List α)(hz:∀x,(enc x).length=z)(he:∀x,enc x=enc' x){k:IntKind}{i:Int}(j:Nat)(ho:o.op=.indexAddr E x y)(hx:aw st x=some (.c (.sl lst.length (lst.flatMap enc))))(hy:aw st y=some (.c (.val (.int k i))))(hi:i=j)(hj:j<lst.length)(h0:0<z)
  (hu:∀w,(underlying E).run P w=.ok (.slice e) w) (hS:∀w,(sizeOf e).run P w=.ok z w):cp P U o st (.el (enc' lst[j]++(lst.drop (j+1)).flatMap enc)):=by
 have h:=Od (P:=P) (U:=U) j ho hx hy hi hj (by rw [dF enc z hz];exact Nat.mul_lt_mul_of_pos_right hj h0) hu hS;rw [Js enc z hz lst j hj,he] at h;exact h
theorem Bh{cs ds:List aO}(h:ds.length=cs.length):splice cs 0 ds=ds:=by unfold splice;simp [h]
theorem Tk{ag:Bool}{z:Nat}{cs R:List aO}(h:cs.length=z)(ha:ag=true):fi ag z (cs++R) 0=some (.agg cs):=by
 subst ha;subst h;simp [fi]
theorem cG{ag:Bool}{z:Nat}{cs:List aO}(h:cs.length=z)(ha:ag=true):fi ag z cs 0=some (.agg cs):=by
 subst ha;subst h;simp [fi]
end
def mV.r{x:aO}{xs ys:List aO}(h:mV xs ys):mV (x::xs) (x::ys):=.cons (xH.refl _) h
def mV.n{xs ys:List aO}(h:mV xs ys):mV (.val (.slice none 0 0)::xs) (.sl 0 []::ys):=.cons tz h
section
variable {P:Program}{ops:Array Oper}{U Z:List Nat}{o:Oper}{n d:Nat}{T:List Nat}{s:aH}{ts:List (Nat×AT)}{Q:Exit -> AS -> Prop}{l:List Oper}{t:AT}{st:AS}
theorem aAw{x:bb}(hw:d6 ops o ⟨n,T,s,ts⟩=some true)(ho:o.op=.move x)(hd:o.dst=some d)(hn:Nat.blt d n=true)(hx:aw ⟨n,T,s,ts⟩ x=some t)(h:cN P ops l ⟨n,T,s,(d,t)::ts⟩ Q):cN P ops (o::l) ⟨n,T,s,ts⟩ Q:=Ct hw hd (fV hn) (oh ho hx) h
theorem aGs{x:bb}(hw:d6 ops o ⟨n,T,s,ts⟩=some true)(ho:o.op=.assign x)(hd:o.dst=some d)(hn:Nat.blt d n=true)(hx:aw ⟨n,T,s,ts⟩ x=some t)(h:cN P ops l ⟨n,T,s,(d,t)::ts⟩ Q):cN P ops (o::l) ⟨n,T,s,ts⟩ Q:=Ct hw hd (fV hn) (Ag ho hx) h
theorem I2(hw:d6 ops o ⟨n,T,s,ts⟩=some true)(hd:o.dst=some d)(hn:Nat.blt d n=true)(hy:cp P [] o ⟨n,T,s,ts⟩ t)(h:cN P ops l ⟨n,T,s,(d,t)::ts⟩ Q):cN P ops (o::l) ⟨n,T,s,ts⟩ Q:=Ct hw hd (fV hn) hy h
theorem X4{y:Code}(h:bi P y st Q):cN P ops [] st (lH (λs=>bi P y s Q) Q):=My (HQ h)
theorem VR{id:Nat}{l:List Oper}{y:Code}(h:cN P l.toArray l st (lH (λs=>bi P y s Q) Q)):bi P (.seq (.region id l.toArray false) y) st Q:=yy (O2 h)
theorem PL{id:Nat}{l:List Oper}{y:Code}(h:cN P l.toArray l st (lH (λs=>bi P y s Q) Q)):cN P ops [] st (lH (λs=>bi P (.seq (.region id l.toArray false) y) s Q) Q):=X4 (VR h)
theorem ba{p:Nat}{L:List Nat}(h:p∈L:=by simp):∀b,b∈[p] -> b∈L:=by intro b hb;simp at hb;subst hb;exact h
theorem Sx{p:Nat}{F:FuncId}{ks:Array bb}{rg:Array ax}{us:List AT}{QQ:AT -> aH -> Prop}(hw:d6 ops o ⟨n,T,s,ts⟩=some true)(ho:o.op=.call {callee:=.value (.func F),args:=ks,argTypes:=rg})(hd:o.dst=some d)(hn:Nat.blt d n=true)
  (hcf:∀args w,(callFunc F args).run P w=.ok (.enter F args) w) (has:ks.toList.map (aw ⟨n,T,s,ts⟩)=us.map some) (hc:aT P F us [p] s QQ) (hT:p∈T) (ur:p∈s.bl)
  (h:∀r s',QQ r s' -> cN P ops l ⟨n,T,s',(d,r)::ts⟩ Q):cN P ops (o::l) ⟨n,T,s,ts⟩ Q:=aW hw (bo [p] ho hd (fV hn) hcf has hc (ba (h:=hT)) (ba (h:=ur)) (λ_=>ba (h:=hT)) h)
theorem bE{p:Nat}{F:FuncId}{ks:Array bb}{rg:Array ax}{us:List AT}{QQ:AT -> aH -> Prop}(h0:(d6 ops o ⟨n,T,s,ts⟩,o.op,o.dst,Nat.blt d n)=(some true,.call {callee:=.value (.func F),args:=ks,argTypes:=rg},some d,true))
  (hcf:∀args w,(callFunc F args).run P w=.ok (.enter F args) w) (has:ks.toList.map (aw ⟨n,T,s,ts⟩)=us.map some) (hc:aT P F us [p] s QQ)
  (h:∀r s',QQ r s' -> cN P ops l ⟨n,T,s',(d,r)::ts⟩ Q) (hT:p∈T:=by simp) (ur:p∈s.bl:=by simp [aH.bl]):cN P ops (o::l) ⟨n,T,s,ts⟩ Q:=by
 simp only [jB] at h0;exact Sx h0.1 h0.2.1 h0.2.2.1 h0.2.2.2 hcf has hc hT ur h
theorem aC(h0:(d6 ops o ⟨n,T,s,ts⟩,o.dst,Nat.blt d n)=(some true,some d,true))(hy:cp P [] o ⟨n,T,s,ts⟩ t)(h:cN P ops l ⟨n,T,s,(d,t)::ts⟩ Q):cN P ops (o::l) ⟨n,T,s,ts⟩ Q:=by
 simp only [jB] at h0;exact I2 h0.1 h0.2.1 h0.2.2 hy h
theorem Uy(i:Nat){fuel:Nat}{listed:Array Bool}{Q:AS -> Prop}(hr:((Region.ready .any ops listed).contains i && Region.free .any ops listed i && Region.noSelect ops)=true)(hi:ops.toList[i]?=some o)
  (hw:d6 ops o ⟨n,T,s,ts⟩=some true) (hd:o.dst=some d) (hn:Nat.blt d n=true) (hy:cp P (fq s Z) o ⟨n,T,s,ts⟩ t) (h:dq P ops Z fuel (listed.setIfInBounds i true) ⟨n,T,s,(d,t)::ts⟩ Q):dq P ops Z (fuel+1) listed ⟨n,T,s,ts⟩ Q:=by
 simp only [dm] at hr;exact TK i hr.1.1 hi hr.1.2 hr.2 hw hd (fV hn) hy h
theorem Tn(i:Nat){fuel:Nat}{listed:Array Bool}{Q:AS -> Prop}(hr:((Region.ready .any ops listed).contains i && Region.free .any ops listed i && Region.noSelect ops)=true)
  (h0:(ops.toList[i]?,d6 ops o ⟨n,T,s,ts⟩,o.dst,Nat.blt d n)=(some o,some true,some d,true)) (hy:cp P (fq s Z) o ⟨n,T,s,ts⟩ t) (h:dq P ops Z fuel (listed.setIfInBounds i true) ⟨n,T,s,(d,t)::ts⟩ Q):dq P ops Z (fuel+1) listed ⟨n,T,s,ts⟩ Q:=by
 simp only [jB] at h0;exact Uy i hr h0.1 h0.2.1 h0.2.2.1 h0.2.2.2 hy h
theorem bK{E yt:ax}{x y:bb}{m k:Int}(h0:(d6 ops o ⟨n,T,s,ts⟩,o.dst,Nat.blt d n,o.op,aw ⟨n,T,s,ts⟩ x,aw ⟨n,T,s,ts⟩ y)=(some true,some d,true,.binOp .add E x y yt,some (.c (.val (.int .i64 m))),some (.c (.val (.int .i64 k)))))
  (h:cN P ops l ⟨n,T,s,(d,.c (.val (.int .i64 (m+k))))::ts⟩ Q) (h1:-9223372036854775808 <= m+k:=by omega) (h2:m+k <= 9223372036854775807:=by omega):cN P ops (o::l) ⟨n,T,s,ts⟩ Q:=by
 simp only [jB] at h0;exact I2 h0.1 h0.2.1 h0.2.2.1 (ua h0.2.2.2.1 h0.2.2.2.2.1 h0.2.2.2.2.2 h1 h2) h
theorem cf{F:FuncId}{ks:Array bb}{rg:Array ax}{us:List AT}{QQ:AT -> aH -> Prop}(h0:(d6 ops o ⟨n,T,s,ts⟩,o.op,o.dst,Nat.blt d n)=(some true,.call {callee:=.value (.func F),args:=ks,argTypes:=rg},some d,true))
  (hcf:∀args w,(callFunc F args).run P w=.ok (.enter F args) w) (has:ks.toList.map (aw ⟨n,T,s,ts⟩)=us.map some) (hc:aT P F us [] s QQ) (h:∀r s',QQ r s' -> cN P ops l ⟨n,T,s',(d,r)::ts⟩ Q):cN P ops (o::l) ⟨n,T,s,ts⟩ Q:=by
 simp only [jB] at h0;exact aW h0.1 (bo [] h0.2.1 h0.2.2.1 (fV h0.2.2.2) hcf has hc jf jf (λ_ _ h=>gQ) h)
theorem aAj{F:FuncId}{fn:Func}{c:Code}{args:List AT}{Q:AT -> aH -> Prop}(hf:P.funcs[F]?=some fn)(hb:(fn.body,Nat.ble args.length fn.ntmps)=(some c,true))
  (h:bi P c ⟨fn.ntmps,T,s,ux 0 args⟩ λe st=>(e=.normal∨e=.ret) /\ ∃r s',nb P fn st r /\ jJ st.s s' /\ Q r s'):aT P F args T s Q:=by
 simp only [jB] at hb;exact LE hf hb.1 (fV hb.2) h
theorem bM(m:Nat){F:FuncId}{fn:Func}{c:Code}{args:List AT}{Q:AT -> aH -> Prop}(hf:P.funcs[F]?=some fn)
  (h:bi P c ⟨m,T,s,ts⟩ λe st=>(e=.normal∨e=.ret) /\ ∃r s',nb P fn st r /\ jJ st.s s' /\ Q r s') (hb:(fn.body,fn.ntmps,Nat.ble args.length fn.ntmps)=(some c,m,true):=by exact rfl) (ht:ux 0 args=ts:=by dsimp only [ux,Nat.reduceAdd]):aT P F args T s Q:=by
 simp only [jB] at hb;obtain ⟨h1,rfl,h3⟩:=hb;subst ht;exact LE hf h1 (fV h3) h
theorem d3{s:aH}:jJ s s:=jJ.refl s
theorem cU{x:aV}{B:List aV}{r:List aQ}:jJ ⟨x::B,r⟩ ⟨B,r⟩:=ah bG (.refl _)
theorem fB{x y:aV}{B:List aV}{r:List aQ}:jJ ⟨x::y::B,r⟩ ⟨B,r⟩:=ah c_ (.refl _)
theorem ao{ts':List (Nat×AT)}(h:ts'.map (λp=>look st.ts p.1)=ts'.map (λp=>some p.2)):Sub st {st with ts:=ts'}:=by
 induction ts' with
 |nil=>exact S5
 |cons p ts' ih=>
  simp only [ca,tN] at h;exact av h.1 (bI.refl _) (ih h.2)
theorem Qy{op:BinOp}{k:IntKind}{E yt:ax}{x y:bb}{m q:Int}(r:Bool)(h0:(d6 ops o ⟨n,T,s,ts⟩,o.dst,Nat.blt d n,o.op,aw ⟨n,T,s,ts⟩ x,aw ⟨n,T,s,ts⟩ y)=(some true,some d,true,.binOp op E x y yt,some (.c (.val (.int k m))),some (.c (.val (.int k q)))))(hr:ef op m q=some r)
  (h:cN P ops l ⟨n,T,s,(d,.c (.val (.bool r)))::ts⟩ Q):cN P ops (o::l) ⟨n,T,s,ts⟩ Q:=by
 simp only [jB] at h0;exact I2 h0.1 h0.2.1 h0.2.2.1 (ei r h0.2.2.2.1 h0.2.2.2.2.1 h0.2.2.2.2.2 hr) h
theorem aJ{op:BinOp}{k:IntKind}{E yt:ax}{x y:bb}{m q:Int}(h0:(d6 ops o ⟨n,T,s,ts⟩,o.dst,Nat.blt d n,o.op,aw ⟨n,T,s,ts⟩ x,aw ⟨n,T,s,ts⟩ y)=(some true,some d,true,.binOp op E x y yt,some (.c (.val (.int k m))),some (.c (.val (.int k q)))))(hr:ef op m q=some true)
  (h:cN P ops l ⟨n,T,s,(d,.c (.val (.bool true)))::ts⟩ Q):cN P ops (o::l) ⟨n,T,s,ts⟩ Q:=Qy true h0 hr h
theorem aF{op:BinOp}{k:IntKind}{E yt:ax}{x y:bb}{m q:Int}(h0:(d6 ops o ⟨n,T,s,ts⟩,o.dst,Nat.blt d n,o.op,aw ⟨n,T,s,ts⟩ x,aw ⟨n,T,s,ts⟩ y)=(some true,some d,true,.binOp op E x y yt,some (.c (.val (.int k m))),some (.c (.val (.int k q)))))(hr:ef op m q=some false)
  (h:cN P ops l ⟨n,T,s,(d,.c (.val (.bool false)))::ts⟩ Q):cN P ops (o::l) ⟨n,T,s,ts⟩ Q:=Qy false h0 hr h
abbrev aE(b:Nat):AT:=.c (.val (.pointer (some ⟨b,0,none⟩)))
abbrev aG{α:Type}(f:α -> List aO)(l:List α):aO:=.sl l.length (l.flatMap f)
abbrev aK:aO:=.val (.slice none 0 0)
abbrev aA(x:Int):aO:=.val (.int .i64 x)
abbrev ac(x:ByteArray):aO:=.val (.string x)
abbrev bD(x:Bool):aO:=.val (.bool x)
abbrev aB(g:Nat):aO:=.val (.map (some g))
abbrev aj(x:Int):AT:=.c (.val (.int .i64 x))
abbrev cK(x:ByteArray):AT:=.c (.val (.string x))
abbrev au(x:Bool):AT:=.c (.val (.bool x))
abbrev ap(v:Value):AT:=.c (.val v)
abbrev am(k:Nat):aO:=.val (.int .i64 (k:Int))
abbrev ab(k:Nat):AT:=.c (.val (.int .i64 (k:Int)))
theorem Wi{fn:Func}{st:AS}{r:AT}{s':aH}{K:AT -> aH -> Prop}{rv:ResultVar}{e:Exit}(he:e=.normal∨e=.ret)(h1:fn.results=#[rv])(h2:m8 P st rv r)(hs:jJ st.s s')(hk:K r s'):(e=.normal∨e=.ret) /\ ∃r s',nb P fn st r /\ jJ st.s s' /\ K r s':=⟨he,r,s',bJ h1 h2,hs,hk⟩
theorem kR{fn:Func}{st:AS}{r:AT}{s':aH}{K:AT -> aH -> Prop}{t:Tmp}(h1:(fn.results,look st.ts t)=(#[.tmp t],some r))(hs:jJ st.s s')(hk:K r s'):(Exit.ret=.normal∨Exit.ret=.ret) /\ ∃r s',nb P fn st r /\ jJ st.s s' /\ K r s':=by
 simp only [jB] at h1;exact Wi (.inr J) h1.1 (bO h1.2) hs hk
theorem bF(bx:List aV)(rw:List aQ){fn:Func}{st:AS}{r:AT}{K:AT -> aH -> Prop}{t:Tmp}(h1:(fn.results,look st.ts t)=(#[.tmp t],some r))(hs:jJ st.s ⟨bx,rw⟩)(hk:K r ⟨bx,rw⟩):(Exit.ret=.normal∨Exit.ret=.ret) /\ ∃r s',nb P fn st r /\ jJ st.s s' /\ K r s':=kR (s':=⟨bx,rw⟩) h1 hs hk
theorem dX{L:List Nat}:∀b,b∈([]:List Nat) -> b∈L:=λ_ h=>gQ
end
end
end Go.Proofs.YtckelpefchdenaaGreatDoor
