import Derived.Test.YtjgeihmhppadaaaGreatDoorVA1J
import Derived.Deep.RegionHeld3
import Derived.Deep.LoopGhost
import Derived.Great.BuildSlice
set_option linter.all false
namespace Go.Proofs.YtjgeihmhppadaaaGreatDoor
section
inductive aS where
 |mk (op num:Int) (name:ByteArray) (args:List aS)
structure cL where
 name:ByteArray
 index:List aS
structure cI where
 mutex:Bool
 ref:cL
 expr:aS
inductive aE where
 |mk (kind:Int) (name:ByteArray) (expr:aS) (ref:cL) (args:List cI) (thn els:List aE)
structure bg where
 name:ByteArray
 mutex:Bool
structure bB where
 name:ByteArray
 params:List bg
 body:List aE
structure b_ where
 name:ByteArray
 init:Int
structure cn where
 name:ByteArray
 ex:Bool
 size:Int
structure aY where
 globals:List b_
 mutexes:List cn
 funcs:List bB
def aS.op:aS -> Int|.mk o _ _ _=>o
def aS.num:aS -> Int|.mk _ n _ _=>n
def aS.name:aS -> ByteArray|.mk _ _ n _=>n
def aS.args:aS -> List aS|.mk _ _ _ a=>a
def aE.kind:aE -> Int|.mk k _ _ _ _ _ _=>k
def aE.name:aE -> ByteArray|.mk _ n _ _ _ _ _=>n
def aE.expr:aE -> aS|.mk _ _ e _ _ _ _=>e
def aE.ref:aE -> cL|.mk _ _ _ r _ _ _=>r
def aE.args:aE -> List cI|.mk _ _ _ _ a _ _=>a
def aE.thn:aE -> List aE|.mk _ _ _ _ _ t _=>t
def aE.els:aE -> List aE|.mk _ _ _ _ _ _ e=>e
def a_:ByteArray:=⟨#[]⟩
def aS.zero:aS:=.mk 0 0 a_ []
def cL.zero:cL:=⟨a_,[]⟩
def dF(n:Nat):List UInt8:=if n<10 then [UInt8.ofNat (48+n)] else dF (n/10)++[UInt8.ofNat (48+n%10)]
def fT(n:Int):List UInt8:=if n<0 then 45::dF n.natAbs else dF n.natAbs
def dN(op:Int):Nat:=
 if op=17 then 0 else if op=16 then 1 else if 10 <= op /\ op <= 15 then 2 else if op=8∨op=9 then 3 else if 5 <= op /\ op <= 7 then 4 else if op=3∨op=4 then 5 else 6
def kA(b:Int)(k:Nat)(a:Int):Bool:=decide (dN a<dN b∨dN a=dN b /\ k=1)
def oF(op:Int):List UInt8:=
 if op=17 then [124,124] else if op=16 then [38,38] else if op=14 then [61,61] else if op=15 then [33,61] else if op=10 then [60] else if op=11 then [60,61] else if op=12 then [62] else if op=13 then [62,61] else
 if op=8 then [43] else if op=9 then [45] else if op=5 then [42] else if op=6 then [47] else if op=7 then [37] else []
def kH(op num:Int)(name:ByteArray)(ts:List (List UInt8)):List UInt8:=
 if op=1 then fT num else if op=2 then name.data.toList else if op=3 then 45::ts.getD 0 [] else if op=4 then 33::ts.getD 0 [] else
 if dN op<5 then ts.getD 0 []++[32]++oF op++[32]++ts.getD 1 [] else []
mutual
def bv:aS -> List UInt8
 |.mk op num name args=>kH op num name (kF op 0 args)
def kF(b:Int):Nat -> List aS -> List (List UInt8)
 |_,[]=>[]
 |k,e::es=>(if kA b k e.op then [40]++bv e++[41] else bv e)::kF b (k+1) es
end
def cG(s:ByteArray):Bool:=
 match s.data.toList with
 |[]=>false
 |c::r=>gC c && r.all dU && decide (s.size <= 16) && !fP s
def lh(op num:Int)(name:ByteArray):Bool:=(decide (op=1 /\ 0 <= num) && decide (name=a_))||(decide (op=2 /\ num=0) && cG name)
def arity(op:Int):Nat:=if dN op=6 then 0 else if dN op=5 then 1 else 2
mutual
def dv:aS -> Bool
 |.mk op num name args=>(if dN op=6 then lh op num name else decide (num=0) && decide (name=a_)) && decide (args.length=arity op) && fO args
def fO:List aS -> Bool
 |[]=>true
 |e::es=>dv e && fO es
end
mutual
def iJ:aS -> Nat
 |.mk op _ _ args=>jH op 0 args+if dN op=5 then 1 else 0
def jH(b:Int):Nat -> List aS -> Nat
 |_,[]=>0
 |k,e::es=>max (iJ e+if kA b k e.op then 1 else 0) (jH b (k+1) es)
end
def fJ(e:aS):Bool:=dv e && decide (iJ e <= 24)
end
section
def fi(r:cL):List UInt8:=match r.index with|[]=>r.name.data.toList|e::_=>r.name.data.toList++[91]++bv e++[93]
def eu(a:cI):List UInt8:=if a.mutex then [109,117,116,101,120,32]++fi a.ref else bv a.expr
def dL{α:Type}(f:α -> List UInt8):List α -> List UInt8
 |[]=>[]
 |x::r=>f x++(r.map λy=>[44,32]++f y).flatten
def Wv{α:Type}(f:α -> List UInt8)(l:List α)(x:α):dL f (l++[x])=dL f l++(if l=[] then [] else [44,32])++f x:=by
 cases l with
 |nil=>simp [dL]
 |cons a r=>simp [dL]
def rT{α:Type}(f:α -> List UInt8)(l:List α)(k:Nat)(hk:k<l.length):dL f (l.take (k+1))=dL f (l.take k)++(if k=0 then [] else [44,32])++f l[k]:=by
 rw [gz hk,Wv];have:(l.take k=[])↔k=0:=by
  rw [List.take_eq_nil_iff];constructor
  ·rintro (h|h)
   ·exact h
   subst h;simp at hk
  exact .inl
 by_cases h:k=0
 ·rw [if_pos (this.2 h),if_pos h]
 rw [if_neg (λh'=>h (this.1 h')),if_neg h]
def iI(l:List cI):List UInt8:=[40]++dL eu l++[41]
mutual
def d1(tabs:List UInt8):aE -> List UInt8
 |.mk kind name expr ref args thn els=>tabs++
  (if kind=1 then [118,97,114,32]++name.data.toList++[32,61,32]++bv expr++[59]
   else if kind=2 then name.data.toList++[32,61,32]++bv expr++[59]
   else if kind=3 then name.data.toList++iI args++[59]
   else if kind=4 then [103,111,32]++name.data.toList++iI args++[59]
   else if kind=5 then [108,111,99,107,32]++fi ref++[59]
   else if kind=6 then [117,110,108,111,99,107,32]++fi ref++[59]
   else if kind=7∨kind=8 then
    (if kind=8 then [119,104,105,108,101,32] else [105,102,32])++bv expr++[32,123,10]++bT (tabs++[9]) thn++tabs++[125]++
     (if els.length=0 then [] else [32,101,108,115,101,32,123,10]++bT (tabs++[9]) els++tabs++[125])
   else [114,101,116,117,114,110,59])++[10]
def bT(tabs:List UInt8):List aE -> List UInt8
 |[]=>[]
 |s::r=>d1 tabs s++bT tabs r
end
def Oh(tabs:List UInt8)(l m:List aE):bT tabs (l++m)=bT tabs l++bT tabs m:=by
 induction l with
 |nil=>simp [bT]
 |cons a r ih=>simp [bT,ih]
def cS(g:b_):List UInt8:=[118,97,114,32]++g.name.data.toList++(if g.init=0 then [] else [32,61,32]++fT g.init)++[59,10]
def cf(m:cn):List UInt8:=(if m.ex then [114] else [])++[109,117,116,101,120,32]++m.name.data.toList++(if 0<m.size then [91]++fT m.size++[93] else [])++[59,10]
def eY(x:bg):List UInt8:=(if x.mutex then [109,117,116,101,120,32] else [])++x.name.data.toList
def funcText(f:bB):List UInt8:=[102,117,110,99,32]++f.name.data.toList++[40]++dL eY f.params++[41,32,123,10]++bT [9] f.body++[125,10]
def iG(p:aY):List UInt8:=(p.globals.map cS).flatten++(p.mutexes.map cf).flatten++(p.funcs.map funcText).flatten
def kz(e:aS):Bool:=decide (e.op=0 /\ e.num=0) && decide (e.name=a_) && decide (e.args.length=0)
def lu(r:cL):Bool:=decide (r.name=a_) && decide (r.index.length=0)
def okRefB(r:cL):Bool:=cG r.name && (match r.index with|[]=>true|[e]=>fJ e|_=>false)
def fX(a:cI):Bool:=if a.mutex then okRefB a.ref && kz a.expr else lu a.ref && fJ a.expr
mutual
def fw(deep:Nat):aE -> Bool
 |.mk k name expr ref args thn els=>
  decide (1 <= k /\ k <= 9) && (if 1 <= k /\ k <= 4 then cG name else decide (name=a_)) &&
  (if k=1∨k=2∨k=7∨k=8 then fJ expr else kz expr) && (if k=5∨k=6 then okRefB ref else lu ref) &&
  (decide (k=3∨k=4)||decide (args.length=0)) && args.all fX &&
  (if k=7∨k=8 then dC (deep+1) thn else decide (thn.length=0)) &&
  (decide (els.length=0)||(decide (k=7) && dC (deep+1) els))
def dC(deep:Nat):List aE -> Bool
 |[]=>decide (deep<24)
 |s::r=>fw deep s && dC deep r
end
def lK(g:b_):Bool:=cG g.name && decide (g.init≠-9223372036854775808)
def iv(m:cn):Bool:=cG m.name && decide (0 <= m.size /\ m.size <= 64) && !(m.ex && decide (0<m.size))
def ga(f:bB):Bool:=cG f.name && decide (f.params.length <= 6) && dC 0 f.body && f.params.all λx=>cG x.name
def gS.isOk:gS -> Bool|.ok _=>true|.err _ _=>false
def gw(p:aY):Bool:=decide (p.globals.length <= 16 /\ p.mutexes.length <= 12 /\ p.funcs.length <= 16) && p.globals.all lK && p.mutexes.all iv && p.funcs.all ga && (ge (iG p)).isOk
end
section
open Go.RowKit
def lC{α:Type}(w:World)(R:α -> List Value -> Prop)(z:Nat)(v:Value)(l:List α):Prop:=
 ∃rows:List (List Value),d_ w v l.length rows.flatten /\ rows.length=l.length /\ ∀k (h:k<l.length) (h':k<rows.length),R l[k] rows[k] /\ rows[k].length=z
mutual
def jJ(w:World):aS -> List Value -> Prop
 |.mk op num name args,cs=>∃(v:Value) (rows:List (List Value)),cs=[.int .i64 op,.int .i64 num,.string name,v] /\ d_ w v args.length rows.flatten /\ mM w args rows
def mM(w:World):List aS -> List (List Value) -> Prop
 |[],rows=>rows=[]
 |e::es,rows=>∃r rs,rows=r::rs /\ jJ w e r /\ mM w es rs
end
def jJ.len{w:ab}{e:aS}{cs:List aN}(h:jJ w e cs):cs.length=4:=by
 cases e;rw [jJ] at h;obtain ⟨v,rows,rfl,_⟩:=h;rfl
mutual
def jJ.below{w w':ab}(hb:Below w.heap.size w w'):∀(e:aS) {cs:List aN},jJ w e cs -> jJ w' e cs
 |.mk op num name args,cs,h=>by
  rw [jJ] at h⊢;obtain ⟨v,rows,rfl,h1,h2⟩:=h;exact ⟨v,rows,J,h1.below hb (bX _),mM.below hb args h2⟩
def mM.below{w w':ab}(hb:Below w.heap.size w w'):∀(l:List aS) {rows:List (List aN)},mM w l rows -> mM w' l rows
 |[],rows,h=>by rw [mM] at h⊢;exact h
 |e::es,rows,h=>by
  rw [mM] at h⊢;obtain ⟨r,rs,rfl,h1,h2⟩:=h;exact ⟨r,rs,J,jJ.below hb e h1,mM.below hb es h2⟩
end
def lC.below{α:Type}{w w':ab}{R R':α -> List aN -> Prop}{z:Nat}{v:aN}{l:List α}(hb:Below w.heap.size w w')(h:lC w R z v l)(hR:∀a cs,a∈l -> R a cs -> R' a cs):lC w' R' z v l:=by
 obtain ⟨rows,h1,h2,h3⟩:=h;exact ⟨rows,h1.below hb (bX _),h2,λk h h'=>⟨hR _ _ (List.getElem_mem h) (h3 k h h').1,(h3 k h h').2⟩⟩
def lC.nil{α:Type}(w:ab)(R:α -> List aN -> Prop)(z:Nat):lC w R z (.slice none 0 0) []:=⟨[],d_.nil w,rfl,λk h=>absurd h aL⟩
def tJ(w:World)(r:cL)(cs:List Value):Prop:=∃v,cs=[.string r.name,v] /\ lC w (jJ w) 4 v r.index
def rz(w:World)(a:cI)(cs:List Value):Prop:=∃cr ce,cs=.bool a.mutex::(cr++ce) /\ tJ w a.ref cr /\ jJ w a.expr ce
def tJ.below{w w':ab}(hb:Below w.heap.size w w'){r:cL}{cs:List aN}(h:tJ w r cs):tJ w' r cs:=by
 obtain ⟨v,rfl,h⟩:=h;exact ⟨v,J,h.below hb λa cs _ h=>jJ.below hb a h⟩
def rz.below{w w':ab}(hb:Below w.heap.size w w'){a:cI}{cs:List aN}(h:rz w a cs):rz w' a cs:=by
 obtain ⟨cr,ce,rfl,h1,h2⟩:=h;exact ⟨cr,ce,J,h1.below hb,jJ.below hb _ h2⟩
mutual
def ln(w:World):aE -> List Value -> Prop
 |.mk k name e r args t el,cs=>∃(ce cr:List Value) (va vt ve:Value) (rt re:List (List Value)),cs=[.int .i64 k,.string name]++ce++cr++[va,vt,ve] /\ jJ w e ce /\ tJ w r cr /\ lC w (rz w) 7 va args /\
   d_ w vt t.length rt.flatten /\ lA w t rt /\ d_ w ve el.length re.flatten /\ lA w el re
def lA(w:World):List aE -> List (List Value) -> Prop
 |[],rows=>rows=[]
 |e::es,rows=>∃r rs,rows=r::rs /\ ln w e r /\ lA w es rs
end
mutual
def ln.below{w w':ab}(hb:Below w.heap.size w w'):∀(s:aE) {cs:List aN},ln w s cs -> ln w' s cs
 |.mk k name e r args t el,cs,h=>by
  rw [ln] at h⊢;obtain ⟨ce,cr,va,vt,ve,rt,re,rfl,h1,h2,h3,h4,h5,h6,h7⟩:=h;exact ⟨ce,cr,va,vt,ve,rt,re,J,jJ.below hb _ h1,h2.below hb,h3.below hb (λ_ _ _ h=>rz.below hb h),h4.below hb (bX _),lA.below hb t h5,h6.below hb (bX _),lA.below hb el h7⟩
def lA.below{w w':ab}(hb:Below w.heap.size w w'):∀(l:List aE) {rows:List (List aN)},lA w l rows -> lA w' l rows
 |[],rows,h=>by rw [lA] at h⊢;exact h
 |e::es,rows,h=>by
  rw [lA] at h⊢;obtain ⟨r,rs,rfl,h1,h2⟩:=h;exact ⟨r,rs,J,ln.below hb e h1,lA.below hb es h2⟩
end
def ln.len{w:ab}{s:aE}{cs:List aN}(h:ln w s cs):cs.length=11:=by
 cases s;rw [ln] at h;obtain ⟨ce,cr,va,vt,ve,rt,re,rfl,h1,⟨v,rfl,_⟩,_⟩:=h;simp [h1.len]
def Qq(x:bg)(cs:List Value):Prop:=cs=[.string x.name,.bool x.mutex]
def rW(w:World)(f:bB)(cs:List Value):Prop:=∃vp vb,cs=[.string f.name,vp,vb] /\ lC w Qq 2 vp f.params /\ lC w (ln w) 11 vb f.body
def Td(g:b_)(cs:List Value):Prop:=cs=[.string g.name,.int .i64 g.init]
def TN(m:cn)(cs:List Value):Prop:=cs=[.string m.name,.bool m.ex,.int .i64 m.size]
def xH(w:World)(p:aY)(cs:List Value):Prop:=∃vg vm vf,cs=[vg,vm,vf] /\ lC w Td 2 vg p.globals /\ lC w TN 3 vm p.mutexes /\ lC w (rW w) 3 vf p.funcs
def rW.below{w w':ab}(hb:Below w.heap.size w w'){f:bB}{cs:List aN}(h:rW w f cs):rW w' f cs:=by
 obtain ⟨vp,vb,rfl,h1,h2⟩:=h;exact ⟨vp,vb,J,h1.below hb (λ_ _ _ h=>h),h2.below hb (λ_ _ _ h=>ln.below hb _ h)⟩
def xH.below{w w':ab}(hb:Below w.heap.size w w'){p:aY}{cs:List aN}(h:xH w p cs):xH w' p cs:=by
 obtain ⟨vg,vm,vf,rfl,h1,h2,h3⟩:=h;exact ⟨vg,vm,vf,J,h1.below hb (λ_ _ _ h=>h),h2.below hb (λ_ _ _ h=>h),h3.below hb (λ_ _ _ h=>rW.below hb h)⟩
def GH{z:Nat}:∀(rows:List (List aN)),(∀r∈rows,r.length=z) -> ∀k f,(hk:k<rows.length) -> f<z -> (rows.flatten)[k*z+f]?=rows[k][f]?
 |[],_,k,f,hk,_=>by simp at hk
 |r::rs,hz,k,f,hk,hf=>by
  have hr:r.length=z:=hz r (me ..);rw [jZ];cases k with
  |zero=>rw [rO,cp,rJ Y];rfl
  |succ k=>
   rw [pZ (by rw [hr,sR];omega)];have:=GH rs (λr h=>hz r (eG _ h)) k f qm hf;rw [hr,show (k+1)*z+f-z=k*z+f by rw [sR];omega,this];rfl
def lC.get{α:Type}{w:ab}{R:α -> List aN -> Prop}{z:Nat}{v:aN}{l:List α}(h:lC w R z v l)(hz:0<z){k:Nat}(hk:k<l.length):
  ∃b off cap row,v=.slice (some ⟨b,off,none⟩) l.length cap /\ l.length <= cap /\ R l[k] row /\ row.length=z /\ b<w.heap.size /\ ∀f u,row[f]?=some u -> w.cell? ⟨b,off+k*z+f,none⟩=some u:=by
 obtain ⟨rows,⟨a,cap,rfl,hc,hr⟩,h2,h3⟩:=h;have hk':k<rows.length:=Y;obtain ⟨h4,h5⟩:=h3 k hk hk';have hall:∀r∈rows,r.length=z:=by
  intro r hr';obtain ⟨i,hi,rfl⟩:=mp hr';exact (h3 i Y hi).2
 rcases hr with h0|⟨b,off,rfl,hr⟩
 ·exfalso;have:=GH rows hall k 0 hk' hz;rw [h0] at this;simp at this;rw [this] at h5;simp at h5;omega
 have hcell:∀f u,rows[k][f]?=some u -> w.cell? ⟨b,off+k*z+f,none⟩=some u:=by
  intro f u hu;have hf:f<z:=by
   have:=(m6.1 hu).1;omega
  rw [ra];exact hr _ _ (by rw [GH rows hall k f hk' hf];exact hu)
 refine ⟨b,off,cap,rows[k],J,hc,h4,h5,?_,hcell⟩;have h0:(rows[k])[0]?=some ((rows[k])[0]'(by omega)):=aL;exact mq (hcell 0 _ h0)
def lC.slice{α:Type}{w:ab}{R:α -> List aN -> Prop}{z:Nat}{v:aN}{l:List α}(h:lC w R z v l):∃a cap,v=.slice a l.length cap /\ l.length <= cap:=by
 obtain ⟨rows,⟨a,cap,rfl,hc,_⟩,_⟩:=h;exact ⟨a,cap,J,hc⟩
def bj(H:List Nat)(w:World):World:={w with heap:=Array.ofFn (n:=w.heap.size) λi=>if i.1∈H then Obj.cells #[] 0 (0,0) else w.heap[i]}
def AO(H:List Nat)(w:ab):(bj H w).heap.size=w.heap.size:=by simp [bj]
def AP(H:List Nat)(w:ab)(k:Nat)(h:k∉H):(bj H w).heap[k]?=w.heap[k]?:=by
 unfold bj;by_cases hk:k<w.heap.size
 ·rw [Db,dif_pos hk,oH hk];simp [h]
 rw [Db,dif_neg hk,qC Y]
def Vw(H:List Nat)(w:ab)(k:Nat)(h:k∈H)(hk:k<w.heap.size):(bj H w).heap[k]?=some (Obj.cells #[] 0 (0,0)):=by
 unfold bj;rw [Db,dif_pos hk];simp [h]
def pH(H:List Nat)(w:ab)(a:Addr)(h:a.block∉H):(bj H w).cell? a=w.cell? a:=Cr (w:=w) (AP H w _ h)
def T9(H:List Nat)(w:ab)(a:Addr)(h:a.block∈H):(bj H w).cell? a=none:=by
 unfold World.cell?;by_cases hk:a.block<w.heap.size
 ·rw [Vw H w _ h hk];simp
 rw [qC (by rw [AO];omega)]
def pY{H:List Nat}{w:ab}{a:Addr}{u:aN}(h:(bj H w).cell? a=some u):w.cell? a=some u /\ a.block∉H:=by
 by_cases hm:a.block∈H
 ·rw [T9 H w a hm] at h;cases h
 rw [pH H w a hm] at h;exact ⟨h,hm⟩
structure cQ (H:List Nat) (w w':World):Prop where
 os:w'.os=w.os
 tape:w'.tape=w.tape
 output:w'.output=w.output
 size:w.heap.size <= w'.heap.size
 block:∀k,k<w.heap.size -> k∉H -> w'.heap[k]?=w.heap[k]?
def cQ.refl(H:List Nat)(w:ab):cQ H w w:=⟨rfl,rfl,rfl,bX _,λ_ _ _=>rfl⟩
def cQ.trans{H:List Nat}{a b c:ab}(h:cQ H a b)(k:cQ H b c):cQ H a c:=
 ⟨k.os.trans h.os,k.tape.trans h.tape,k.output.trans h.output,iS h.size k.size,λi hi hn=>(k.block i (mK hi h.size) hn).trans (h.block i hi hn)⟩
def cQ.mono{H H':List Nat}{a b:ab}(h:cQ H a b)(hs:∀x,x∈H -> x∈H'):cQ H' a b:=⟨h.os,h.tape,h.output,h.size,λi hi hn=>h.block i hi λhm=>hn (hs i hm)⟩
def cQ.of_below{H:List Nat}{w w':ab}(h:Below w.heap.size w w'):cQ H w w':=⟨h.os,h.tape,h.output,h.size,λk hk _=>h.block k hk⟩
def cQ.drew{H:List Nat}{a w:ab}(h:cQ H a w):cQ H a w.drew:=⟨h.os,h.tape,h.output,h.size,h.block⟩
def cQ.drewN{H:List Nat}{a w:ab}(h:cQ H a w)(k:Nat):cQ H a (w.drewN k):=⟨h.os,h.tape,h.output,h.size,h.block⟩
def cQ.alloc{H:List Nat}{a w:ab}(h:cQ H a w)(o:Obj):cQ H a (w.alloc o):=h.trans (cQ.of_below ((Below.refl _ _).alloc (bX _) o))
def cQ.step{H:List Nat}{a w w':ab}(h:cQ H a w)(hb:Below w.heap.size w w'):cQ H a w':=h.trans (cQ.of_below hb)
def cQ.setCell{H:List Nat}{a w:ab}(h:cQ H a w){p:Addr}(hp:p.block∈H∨a.heap.size <= p.block)(u:aN):cQ H a (w.setCell p u):=
 ⟨h.os,h.tape,h.output,by simpa [World.setCell] using h.size,λk hk hn=>(Below.heap_setCell w p u k (by rintro rfl;rcases hp with hp|hp;exact hn hp;omega)).trans (h.block k hk hn)⟩
def cQ.cell{H:List Nat}{w w':ab}(h:cQ H w w'){p:Addr}(hp:p.block<w.heap.size)(hn:p.block∉H):w'.cell? p=w.cell? p:=Cr (w:=w) (h.block p.block hp hn)
def cQ.frozen{H:List Nat}{w w':ab}(h:cQ H w w'){p:Addr}(hp:p.block<w.heap.size)(hn:p.block∉H):w'.frozen? p=w.frozen? p:=World.frozen?_of_block (w:=w) (h.block p.block hp hn)
def cQ.below{H:List Nat}{w w':ab}{B:Nat}(h:cQ H w w')(hB:B <= w.heap.size)(hH:∀x,x∈H -> B <= x):Below B w w':=
 ⟨h.os,h.tape,h.output,h.size,λk hk=>h.block k Y λhm=>by have:=hH k hm;omega⟩
def cQ.old{H:List Nat}{w w':ab}(h:cQ H w w'){p:Addr}{u:aN}(hc:(bj H w).cell? p=some u):w'.cell? p=some u:=by
 obtain ⟨h1,h2⟩:=pY hc;rw [h.cell (mq h1) h2];exact h1
def d_.mono{w w':ab}(hm:∀a u,w.cell? a=some u -> w'.cell? a=some u){v:aN}{n:Nat}{cells:List aN}(h:d_ w v n cells):d_ w' v n cells:=by
 obtain ⟨a,cap,rfl,hc,hr⟩:=h;refine ⟨a,cap,J,hc,?_⟩;rcases hr with h0|⟨b,off,rfl,hr⟩
 ·exact .inl h0
 exact .inr ⟨b,off,J,λj u hj=>hm _ _ (hr j u hj)⟩
def d_.aIa(H:List Nat)(w:ab)(l:List aN)(T:bA)(n k:Nat)(hk:k=w.heap.size)(hH:∀x,x∈H -> x<w.heap.size):d_ (bj H (w.alloc (Obj.cells l.toArray T))) (.slice (some ⟨k,0,none⟩) n n) n l:=by
 obtain ⟨a,cap,he,hc,hr⟩:=d_.aGv w l T n k hk;refine ⟨a,cap,he,hc,?_⟩;rcases hr with h0|⟨b,off,rfl,hr⟩
 ·exact .inl h0
 refine .inr ⟨b,off,J,λj u hj=>?_⟩;have hb:b=k:=by injection he with h1;injection h1 with h2;injection h2 with h3;exact h3.symm
 rw [pH]
 ·exact hr j u hj
 intro hm;have:=hH b hm;omega
mutual
def jJ.mono{w w':ab}(hm:∀a u,w.cell? a=some u -> w'.cell? a=some u):∀(e:aS) {cs:List aN},jJ w e cs -> jJ w' e cs
 |.mk op num name args,cs,h=>by
  rw [jJ] at h⊢;obtain ⟨v,rows,rfl,h1,h2⟩:=h;exact ⟨v,rows,J,h1.mono hm,mM.mono hm args h2⟩
def mM.mono{w w':ab}(hm:∀a u,w.cell? a=some u -> w'.cell? a=some u):∀(l:List aS) {rows:List (List aN)},mM w l rows -> mM w' l rows
 |[],rows,h=>by rw [mM] at h⊢;exact h
 |e::es,rows,h=>by
  rw [mM] at h⊢;obtain ⟨r,rs,rfl,h1,h2⟩:=h;exact ⟨r,rs,J,jJ.mono hm e h1,mM.mono hm es h2⟩
end
def lC.mono{α:Type}{w w':ab}(hm:∀a u,w.cell? a=some u -> w'.cell? a=some u){R R':α -> List aN -> Prop}{z:Nat}{v:aN}{l:List α}(h:lC w R z v l)(hR:∀a cs,a∈l -> R a cs -> R' a cs):lC w' R' z v l:=by
 obtain ⟨rows,h1,h2,h3⟩:=h;exact ⟨rows,h1.mono hm,h2,λk h h'=>⟨hR _ _ (List.getElem_mem h) (h3 k h h').1,(h3 k h h').2⟩⟩
def tJ.mono{w w':ab}(hm:∀a u,w.cell? a=some u -> w'.cell? a=some u){r:cL}{cs:List aN}(h:tJ w r cs):tJ w' r cs:=by
 obtain ⟨v,rfl,h⟩:=h;exact ⟨v,J,h.mono hm λa cs _ h=>jJ.mono hm a h⟩
def rz.mono{w w':ab}(hm:∀a u,w.cell? a=some u -> w'.cell? a=some u){a:cI}{cs:List aN}(h:rz w a cs):rz w' a cs:=by
 obtain ⟨cr,ce,rfl,h1,h2⟩:=h;exact ⟨cr,ce,J,h1.mono hm,jJ.mono hm _ h2⟩
mutual
def ln.mono{w w':ab}(hm:∀a u,w.cell? a=some u -> w'.cell? a=some u):∀(s:aE) {cs:List aN},ln w s cs -> ln w' s cs
 |.mk k name e r args t el,cs,h=>by
  rw [ln] at h⊢;obtain ⟨ce,cr,va,vt,ve,rt,re,rfl,h1,h2,h3,h4,h5,h6,h7⟩:=h;exact ⟨ce,cr,va,vt,ve,rt,re,J,jJ.mono hm _ h1,h2.mono hm,h3.mono hm (λ_ _ _ h=>rz.mono hm h),h4.mono hm,lA.mono hm t h5,h6.mono hm,lA.mono hm el h7⟩
def lA.mono{w w':ab}(hm:∀a u,w.cell? a=some u -> w'.cell? a=some u):∀(l:List aE) {rows:List (List aN)},lA w l rows -> lA w' l rows
 |[],rows,h=>by rw [lA] at h⊢;exact h
 |e::es,rows,h=>by
  rw [lA] at h⊢;obtain ⟨r,rs,rfl,h1,h2⟩:=h;exact ⟨r,rs,J,ln.mono hm e h1,lA.mono hm es h2⟩
end
def rW.mono{w w':ab}(hm:∀a u,w.cell? a=some u -> w'.cell? a=some u){f:bB}{cs:List aN}(h:rW w f cs):rW w' f cs:=by
 obtain ⟨vp,vb,rfl,h1,h2⟩:=h;exact ⟨vp,vb,J,h1.mono hm (λ_ _ _ h=>h),h2.mono hm (λ_ _ _ h=>ln.mono hm _ h)⟩
def xH.mono{w w':ab}(hm:∀a u,w.cell? a=some u -> w'.cell? a=some u){p:aY}{cs:List aN}(h:xH w p cs):xH w' p cs:=by
 obtain ⟨vg,vm,vf,rfl,h1,h2,h3⟩:=h;exact ⟨vg,vm,vf,J,h1.mono hm (λ_ _ _ h=>h),h2.mono hm (λ_ _ _ h=>h),h3.mono hm (λ_ _ _ h=>rW.mono hm h)⟩
def JC{P:Program}(w:ab){o:Oper}{a:Act}{K:Act -> ab -> Prop}{Q:Exit -> Act -> ab -> Prop}(s x:bb)(t:bA)
  (ho:o.op=.call {callee:=.builtin .append,args:=#[s,x],argTypes:=#[t,t]})
  (base:Nat) (e:bA) (i:TypeInfo) (z:aN) (size bytes:Nat) (ht:P.underlying t=some (.slice e)) (hi:P.info? e=some i) (hz:i.zero=some z)
  (hsize:i.size=size) (hby:i.bytes=bytes) (hzs:z.cells.size=size) (hsz:0<size)
  (v:aN) (n:Nat) (xs:List aN) (hs:a.eval s=v) (hown:w.ownsRow base e size v n xs)
  (ad:Addr) (m c:Nat) (news:List aN) (hx:a.eval x=.slice (some ad) m c) (hl:news.length=m*size) (hnews:∀j u,news[j]?=some u -> w.cell? (ad.add j)=some u) (h1:∀u∈news,u.oneCell'=true)
  (h63:n+m <= maxLen) (hbytes:(n+m)*bytes <= 140737488355328) (hbase:base <= w.heap.size)
  (h:∀v' w',w'.ownsRow base e size v' (n+m) (xs++news) -> w.grownBy w' v.ownBlock -> (∀g,v'.ownBlock=some g -> v.ownBlock=some g∨w.heap.size <= g) -> K (a.put o.dst v') w'):o.wp P a w K Q:=by
 obtain ⟨v',w',hr,h2,h3,h4⟩:=run_append_own (P:=P) w base t o.type e i z size bytes ht hi hz hsize hby hzs hsz v n xs hown ad m c news hl hnews h1 h63 hbytes hbase;have hfr:∀g,v'.ownBlock=some g -> v.ownBlock=some g∨w.heap.size <= g:=by
  rcases hown.2 with ⟨hv0,hn0⟩|⟨g,cap,cur,hv0,hbg,hg,hnc,hcm,hcs,htake⟩
  ·obtain ⟨v2,w2,hr2,h5,_,_⟩:=run_append_own (P:=P) w w.heap.size t o.type e i z size bytes ht hi hz hsize hby hzs hsz v n xs ⟨hown.1,.inl ⟨hv0,hn0⟩⟩ ad m c news hl hnews h1 h63 hbytes (bX _);rw [hr] at hr2;injection hr2 with aj e2
   subst aj;intro k hk;exact Or.inr (h5.lt k hk).1
  subst hv0;by_cases hroom:n+m <= cap
  ·have hr2:=run_append_room (P:=P) w t o.type e i ht hi g n cap cur hg ad m c news (by rw [hsize];exact hl) hnews h1 hroom (by rw [hsize,hl,hcs,←sR];exact Cl _ hroom);rw [hr] at hr2;injection hr2 with aj e2
   subst aj;intro k hk;exact .inl hk
  have holds:∀j u,xs[j]?=some u -> w.cell? ((⟨g,0,none⟩:Addr).add j)=some u:=hown.cells (g:=g) J;have hr2:=run_append_grow (P:=P) w t o.type e i z ht hi hz ⟨g,0,none⟩ n cap xs (by rw [hsize];exact hown.1) holds ad m c news (by rw [hsize];exact hl) hnews Y (by simp only [maxLen] at h63;omega) (by rw [hby];exact growslice_fits Y hbytes);rw [hr] at hr2;injection hr2 with aj e2
  subst aj;intro k hk;simp [Value.ownBlock] at hk;exact .inr Y
 unfold Oper.wp execOp;simp only [ho,resolve,invoke,builtin,dI,fj,ei,mI,dE,gH,hs,hx,hr];exact h v' w' h2 h3 hfr
inductive aO where
 |val (v:Value)
 |sl (n:Nat) (cs:List aO)
inductive jn (w:World):aO -> Value -> Prop
 |val (v:Value) (h:v.oneCell'=true):jn w (.val v) v
 |sl (n:Nat) (cs:List aO) (us:List Value) (v:Value) (h:d_ w v n us) (hl:us.length=cs.length) (hr:∀i (h:i<cs.length) (h':i<us.length),jn w cs[i] us[i]) (hcap:∀a k c,v=.slice a k c -> c <= 9223372036854775807):jn w (.sl n cs) v
structure dV (w:World) (cs:List aO) (us:List Value):Prop where
 len:us.length=cs.length
 at_:∀i (h:i<cs.length) (h':i<us.length),jn w cs[i] us[i]
inductive AT where
 |c (x:aO)
 |agg (cs:List aO)
 |fd (ts:List AT)
 |el (cs:List aO)
 |raw (v:Value)
 |fact (t:AT) (b o:Nat) (cs:List aO)
 |ride (t:AT) (p:World -> Prop)
def f7(w w':World):Prop:=(∀a u,w.cell? a=some u -> w'.cell? a=some u) /\ ∀(g:Nat)(cs:Array Value)(t:TypeId)(fz:Nat×Nat),w.heap[g]?=some (Obj.cells cs t fz) -> cs.size≠0 -> w'.heap[g]?=some (Obj.cells cs t fz)
def f7.trans{w w1 w2:ab}(h:f7 w w1)(k:f7 w1 w2):f7 w w2:=⟨λa u x=>k.1 a u (h.1 a u x),λg cs t fz x y=>k.2 g cs t fz (h.2 g cs t fz x y) y⟩
inductive cU (w:World):AT -> Value -> Prop
 |c (x:aO) (v:Value) (h:jn w x v):cU w (.c x) v
 |agg (cs:List aO) (us:List Value) (h:dV w cs us):cU w (.agg cs) (.agg us.toArray)
 |fd (ts:List AT) (vs:List Value) (hl:vs.length=ts.length) (h:∀i (h:i<ts.length) (h':i<vs.length),cU w ts[i] vs[i]):cU w (.fd ts) (.tuple vs.toArray)
 |el (cs:List aO) (b o:Nat) (us:List Value) (h:dV w cs us) (hc:∀j u,us[j]?=some u -> w.cell? ⟨b,o+j,none⟩=some u) (hb:b<w.heap.size):cU w (.el cs) (.pointer (some ⟨b,o,none⟩))
 |raw (v:Value):cU w (.raw v) v
 |fact (t:AT) (b o:Nat) (cs:List aO) (us:List Value) (v:Value) (h:cU w t v) (hc:dV w cs us) (ha:∀j u,us[j]?=some u -> w.cell? ⟨b,o+j,none⟩=some u):cU w (.fact t b o cs) v
 |ride (t:AT) (p:World -> Prop) (v:Value) (h:cU w t v) (hp:∀w',f7 w w' -> p w'):cU w (.ride t p) v
def jn.mono{w w':ab}(hm:f7 w w'){x:aO}{v:aN}(h:jn w x v):jn w' x v:=by
 induction h with
 |val v h=>exact .val v h
 |sl n cs us v h hl _ hcap ih=>exact .sl n cs us v (h.mono hm.1) hl ih hcap
def dV.mono{w w':ab}(hm:f7 w w'){cs:List aO}{us:List aN}(h:dV w cs us):dV w' cs us:=⟨h.len,λi h1 h2=>(h.at_ i h1 h2).mono hm⟩
def cU.mono{w w':ab}(hm:f7 w w')(hs:w.heap.size <= w'.heap.size){x:AT}{v:aN}(h:cU w x v):cU w' x v:=by
 induction h with
 |c x v h=>exact .c x v (h.mono hm)
 |agg cs us h=>exact .agg cs us (h.mono hm)
 |fd ts vs hl _ ih=>exact .fd ts vs hl ih
 |el cs b o us h hc hb=>exact .el cs b o us (h.mono hm) (λj u hj=>hm.1 _ _ (hc j u hj)) Y
 |raw v=>exact .raw v
 |fact t b o cs us v _ hc ha ih=>exact .fact t b o cs us v ih (hc.mono hm) (λj u hj=>hm.1 _ _ (ha j u hj))
 |ride t p v _ hp ih=>exact .ride t p v ih (λw'' h=>hp w'' (hm.trans h))
def dV.nil(w:ab):dV w [] []:=⟨rfl,λi h=>absurd h aL⟩
def dV.cons{w:ab}{c:aO}{u:aN}{cs:List aO}{us:List aN}(h:jn w c u)(t:dV w cs us):dV w (c::cs) (u::us):=
 ⟨by simp [t.len],λi h1 h2=>by cases i with|zero=>exact h|succ i=>exact t.at_ i sn pf⟩
def nc(w:ab):∀(us:List aN),(∀u,u∈us -> u.oneCell'=true) -> dV w (us.map .val) us
 |[],_=>.nil w
 |u::us,h=>.cons (.val u (h u aL)) (nc w us λx hx=>h x zu)
def jn.one{w:ab}{x:aO}{v:aN}(h:jn w x v):v.oneCell'=true:=by
 cases h with
 |val _ h=>exact h
 |sl n cs us v hr hl hh=>obtain ⟨a,cap,he,_⟩:=hr;rw [he];rfl
def dV.get{w:ab}{cs:List aO}{us:List aN}(h:dV w cs us){i:Nat}{x:aO}(hx:cs[i]?=some x):∃u,us[i]?=some u /\ jn w x u:=by
 obtain ⟨hi,rfl⟩:=m6.1 hx;have h2:i<us.length:=GA;exact ⟨us[i],by simp [h2],h.at_ i hi h2⟩
def dV.drop{w:ab}{cs:List aO}{us:List aN}(h:dV w cs us)(k:Nat):dV w (cs.drop k) (us.drop k):=
 ⟨by simp [h.len],λi h1 h2=>by simpa using h.at_ (k+i) GI EI⟩
def dV.take{w:ab}{cs:List aO}{us:List aN}(h:dV w cs us)(k:Nat):dV w (cs.take k) (us.take k):=
 ⟨by simp [h.len],λi h1 h2=>by simpa using h.at_ i GI EI⟩
def dV.app{w:ab}{cs ds:List aO}{us vs:List aN}(h:dV w cs us)(k:dV w ds vs):dV w (cs++ds) (us++vs):=by
 refine ⟨by simp [h.len,k.len],λi h1 h2=>?_⟩;rcases jv i cs.length with hi|hi
 ·rw [rD hi,rD GA];exact h.at_ _ _ _
 rw [qz hi,qz GA];have e:=h.len;simp only [e];exact k.at_ _ GI EI
def dV.set{w:ab}{cs:List aO}{us:List aN}(h:dV w cs us)(k:Nat){x:aO}{u:aN}(hx:jn w x u):dV w (cs.set k x) (us.set k u):=by
 refine ⟨by simp [h.len],λi h1 h2=>?_⟩;rw [G7,G7];split
 ·exact hx
 exact h.at_ _ _ _
def dV.one{w:ab}{cs:List aO}{us:List aN}(h:dV w cs us):∀u,u∈us -> u.oneCell'=true:=by
 intro u hu;obtain ⟨i,hi,rfl⟩:=mp hu;exact (h.at_ i (by rw [←h.len];exact hi) hi).one
def aR(u:Value):List Nat:=match u.ownBlock with|some g=>[g]|none=>[]
structure aV where
 b:Nat
 T:TypeId
 cs:List aO
structure aP where
 v:Value
 E:TypeId
 z:Nat
 n:Nat
 cs:List aO
def zN(g:Nat):Value:=.slice (some ⟨g,1,none⟩) 0 0
def om(e:MapEntry):List Value:=e.key::e.val.cells.toList
def qW(m:Nat)(e:MapEntry):Prop:=(∃k,e.key=.string k) /\ if m=0 then e.val.oneCell'=true else ∃us:List Value,e.val=.agg us.toArray /\ us.length=m
structure U7 (w:World) (r:aP) (us:List Value):Prop where
 z0:r.z=0
 is:∃g es clock,r.v=zN g /\ w.heap[g]?=some (.map es clock) /\ es.size=r.n /\ us=es.toList.flatMap om /\ ∀e,e∈es.toList -> qW r.E e
def pG(w:World)(r:aP)(us:List Value):Prop:=w.ownsRow 0 r.E r.z r.v r.n us∨U7 w r us
def pG.row{w:ab}{r:aP}{us:List aN}(h:pG w r us)(hz:0<r.z):w.ownsRow 0 r.E r.z r.v r.n us:=h.resolve_right λh=>by have:=h.z0;omega
def pG.row0{w:ab}{r:aP}{us:List aN}(h:pG w r us){g n c:Nat}(hv:r.v=.slice (some ⟨g,0,none⟩) n c):w.ownsRow 0 r.E r.z r.v r.n us:=h.resolve_right λh=>by
 obtain ⟨g',es,cl,e,-⟩:=h.is;rw [hv] at e;cases e
def pG.keep{w w1:ab}{r:aP}{us:List aN}(h:pG w r us)(hk:∀g,g∈aR r.v -> w1.heap[g]?=w.heap[g]?):pG w1 r us:=by
 rcases h with ⟨h1,h2⟩|⟨h0,g,es,cl,h1,h2,h3⟩
 ·refine .inl ⟨h1,?_⟩;rcases h2 with h2|⟨g,cap,cur,hv,hg,hh,r⟩
  ·exact .inl h2
  exact .inr ⟨g,cap,cur,hv,hg,by rw [hk g (by rw [hv];simp [aR,Value.ownBlock])];exact hh,r⟩
 exact .inr ⟨h0,g,es,cl,h1,by rw [hk g (by rw [h1];simp [aR,zN,Value.ownBlock])];exact h2,h3⟩
structure aJ where
 boxes:List aV
 rows:List aP
def aJ.bl(s:aJ):List Nat:=s.boxes.map aV.b++s.rows.flatMap λr=>aR r.v
structure Mem (s:aJ) (w:World):Prop where
 nodup:s.bl.Nodup
 lt:∀b,b∈s.bl -> b<w.heap.size
 box:∀x,x∈s.boxes -> ∃us,(∃fz:Nat×Nat,(fz=(0,0)∨us.length <= fz.1) /\ w.heap[x.b]?=some (.cells us.toArray x.T fz)) /\ dV (bj s.bl w) x.cs us
 row:∀r,r∈s.rows -> ∃us,pG w r us /\ dV (bj s.bl w) r.cs us
structure AS where
 n:Nat
 T:List Nat
 s:aJ
 ts:List (Nat×AT)
def look:List (Nat×AT) -> Nat -> Option AT
 |[],_=>none
 |(i,t)::r,j=>if i=j then some t else look r j
structure ep (st:AS) (a:Act) (w:World):Prop where
 df:a.defers=[]
 sz:a.tmps.size=st.n
 tm:∀i t,look st.ts i=some t -> ∃v,a.tmps[i]?=some v /\ cU (bj st.s.bl w) t v
 mem:Mem st.s w
structure iP (st:AS) (w:World) (st':AS) (w':World):Prop where
 keep:cQ st.s.bl w w'
 ls:cQ st.T w w'
 bl:∀b,b∈st'.s.bl -> b∈st.s.bl∨w.heap.size <= b
 T:∀b,b∈st'.T -> b∈st.T∨w.heap.size <= b
def Eu{T T1:List Nat}{w w1 w2:ab}(h:cQ T w w1)(k:cQ T1 w1 w2)(hT:∀b,b∈T1 -> b∈T∨w.heap.size <= b):cQ T w w2:=
 ⟨k.os.trans h.os,k.tape.trans h.tape,k.output.trans h.output,iS h.size k.size,λi hi hn=>(k.block i (mK hi h.size) (λhm=>(hT i hm).elim hn (λh=>Y))).trans (h.block i hi hn)⟩
def iP.trans{s0 s1 s2:AS}{w0 w1 w2:ab}(h:iP s0 w0 s1 w1)(k:iP s1 w1 s2 w2):iP s0 w0 s2 w2:=
 ⟨Eu h.keep k.keep h.bl,Eu h.ls k.ls h.T,λb hb=>(k.bl b hb).elim (h.bl b) (λh1=>.inr (iS h.keep.size h1)),λb hb=>(k.T b hb).elim (h.T b) (λh1=>.inr (iS h.keep.size h1))⟩
def iP.refl(st:AS)(w:ab):iP st w st w:=⟨cQ.refl _ _,cQ.refl _ _,λ_ h=>.inl h,λ_ h=>.inl h⟩
def NU{bl:List Nat}{w:ab}{g:Nat}{cs:Array aN}{t:bA}{fz:Nat×Nat}(h:(bj bl w).heap[g]?=some (.cells cs t fz))(h0:cs.size≠0):g∉bl /\ w.heap[g]?=some (.cells cs t fz):=by
 have hn:g∉bl:=λhm=>by
  have hlt:g<w.heap.size:=by
   have:=(vn.1 h).1;rwa [AO] at this
  unfold bj at h;rw [Db,dif_pos hlt] at h;simp only [if_pos hm,yV,Obj.cells.injEq] at h;exact h0 (by rw [←h.1];rfl)
 exact ⟨hn,by rw [AP _ _ _ hn] at h;exact h⟩
def lb{T bl Sh:List Nat}{w w1:ab}(hk:cQ T w w1)(hT:∀b,b∈T -> b∈bl)(hb:∀b,b∈Sh -> b∈bl∨w.heap.size <= b):f7 (bj bl w) (bj Sh w1):=by
 refine ⟨λa u h=>?_,λg cs t fz h h0=>?_⟩
 ·obtain ⟨h1,h2⟩:=pY h;have hl:=mq h1;rw [pH _ _ _ (λhm=>(hb _ hm).elim h2 (λh=>Y)),hk.cell hl (λhm=>h2 (hT _ hm))];exact h1
 obtain ⟨h2,h1⟩:=NU h h0;have hl:g<w.heap.size:=(vn.1 h1).1;rw [AP _ _ _ (λhm=>(hb _ hm).elim h2 (λh=>Y)),hk.block g hl (λhm=>h2 (hT _ hm))];exact h1
def Xg(bl:List Nat)(w:ab):f7 (bj bl w) w:=⟨λ_ _ h=>(pY h).1,λ_ _ _ _ h h0=>(NU h h0).2⟩
def up_sub{bl Sh:List Nat}{w:ab}(hb:∀b,b∈Sh -> b∈bl):f7 (bj bl w) (bj Sh w):=lb (T:=[]) (cQ.refl _ _) jM (λb h=>.inl (hb b h))
def BK{bl Sh:List Nat}{w w1:ab}(h:w.heap.size <= w1.heap.size):(bj bl w).heap.size <= (bj Sh w1).heap.size:=by rw [AO,AO];exact h
def cU.keep{T bl Sh:List Nat}{w w1:ab}{t:AT}{v:aN}(h:cU (bj bl w) t v)(hk:cQ T w w1)(hT:∀b,b∈T -> b∈bl)(hb:∀b,b∈Sh -> b∈bl∨w.heap.size <= b):cU (bj Sh w1) t v:=
 h.mono (lb hk hT hb) (BK hk.size)
def ep.put{st:AS}{a:Act}{w:ab}{d:Nat}{t:AT}{v:aN}(h:ep st a w)(hd:d<st.n)(hr:cU (bj st.s.bl w) t v):ep {st with ts:=(d,t)::st.ts} (a.put (some d) v) w:=by
 refine ⟨h.df,by simp [Act.put,h.sz],λi u hu=>?_,h.mem⟩;simp only [look] at hu;split at hu
 ·rename_i he;subst he;cases hu;exact ⟨v,by simp [Act.put,h.sz,hd],hr⟩
 rename_i he;obtain ⟨x,h1,h2⟩:=h.tm i u hu;exact ⟨x,by simp only [Act.put];rw [KS he];exact h1,h2⟩
def cU.aNb{bl Sh:List Nat}{w w1:ab}{t:AT}{v:aN}(h:cU (bj bl w) t v)(hk:cQ bl w w1)(hb:∀b,b∈Sh -> b∈bl∨w.heap.size <= b):cU (bj Sh w1) t v:=h.keep hk (λ_ h=>h) hb
def ep.step{st:AS}{a:Act}{w w1:ab}{s1:aJ}(T1:List Nat)(h:ep st a w)(hk:cQ st.s.bl w w1)(hm:Mem s1 w1)(hb:∀b,b∈s1.bl -> b∈st.s.bl∨w.heap.size <= b):ep {st with s:=s1,T:=T1} a w1:=
 ⟨h.df,h.sz,λi t ht=>let ⟨v,h1,h2⟩:=h.tm i t ht;⟨v,h1,h2.aNb hk hb⟩,hm⟩
def IC(bl:List Nat)(w:ab):f7 (bj bl w) (bj bl w.drew):=lb (T:=[]) (cQ.refl _ _).drew jM (λb h=>.inl h)
def Mem.drew{s:aJ}{w:ab}(h:Mem s w):Mem s w.drew:=
 ⟨h.nodup,h.lt,λx hx=>let ⟨us,h1,h2⟩:=h.box x hx;⟨us,h1,h2.mono (IC _ _)⟩,λr hr=>let ⟨us,h1,h2⟩:=h.row r hr;⟨us,h1.keep λ_ _=>rfl,h2.mono (IC _ _)⟩⟩
def ep.drew{st:AS}{a:Act}{w:ab}(h:ep st a w):ep st a w.drew:=⟨h.df,h.sz,λi t ht=>let ⟨v,h1,h2⟩:=h.tm i t ht;⟨v,h1,h2.mono (IC _ _) (BK (bX _))⟩,h.mem.drew⟩
def gb:Value -> AT
 |.agg cs=>if cs.toList.all (·.oneCell') then .agg (cs.toList.map .val) else .raw (.agg cs)
 |.tuple vs=>.raw (.tuple vs)
 |v=>.c (.val v)
def zS(w:ab)(v:aN):cU w (gb v) v:=by
 cases v with
 |agg cs=>
  show cU w (if cs.toList.all (·.oneCell') then .agg (cs.toList.map .val) else .raw (.agg cs)) _
  split
  ·rename_i h;exact cU.agg _ cs.toList (nc w _ λu hu=>by simpa using e0.1 h u hu)
  ·exact .raw _
 |tuple vs=>exact .raw _
 |_=>exact cU.c _ _ (.val _ rfl)
def AT.bare:AT -> AT
 |.fact (.fact t _ _ _) _ _ _=>t
 |.fact t _ _ _=>t
 |.ride t _=>t
 |t=>t
def cU.bare{w:ab}{t:AT}{v:aN}(h:cU w t v):cU w t.bare v:=by
 cases h with
 |fact t b o cs us v h _ _=>
  cases h with
  |fact t b o cs us v h _ _=>exact h
  |c x v h=>exact .c x v h
  |agg cs us h=>exact .agg cs us h
  |fd ts vs hl h=>exact .fd ts vs hl h
  |el cs b o us h hc hb=>exact .el cs b o us h hc hb
  |raw v=>exact .raw v
  |ride t p v h hp=>exact .ride t p v h hp
 |c x v h=>exact .c x v h
 |agg cs us h=>exact .agg cs us h
 |fd ts vs hl h=>exact .fd ts vs hl h
 |el cs b o us h hc hb=>exact .el cs b o us h hc hb
 |raw v=>exact .raw v
 |ride t p v h _=>exact h
def aw(st:AS):Operand -> Option AT
 |.tmp t=>(look st.ts t).map AT.bare
 |.const v=>some (gb v)
 |.global g=>some (.c (.val (.pointer (some ⟨g,0,none⟩))))
 |.func f=>some (.c (.val (.func (.func f) #[] #[])))
def ep.ev{st:AS}{a:Act}{w:ab}(h:ep st a w){x:bb}{t:AT}(hx:aw st x=some t):cU (bj st.s.bl w) t (a.eval x):=by
 cases x with
 |tmp i=>
  obtain ⟨t0,h0,rfl⟩:=zb.1 hx;obtain ⟨v,h1,h2⟩:=h.tm i t0 h0;show cU _ _ (a.tmps.getD i undef);rw [jQ,h1];exact h2.bare
 |const v=>cases hx;exact zS _ v
 |global g=>cases hx;exact cU.c _ _ (.val _ rfl)
 |func f=>cases hx;exact cU.c _ _ (.val _ rfl)
def ep.val{st:AS}{a:Act}{w:ab}(h:ep st a w){x:bb}{v:aN}(hx:aw st x=some (.c (.val v))):a.eval x=v:=by
 have:=h.ev hx;generalize a.eval x=u at this;cases this with|c _ _ h=>cases h;rfl
def xf(want:Bool):Value -> Bool
 |.bool b=>b == want
 |_=>false
def eJ(ops:Array Oper)(o:Oper)(st:AS):Option Bool:=
 match o.guard with
 |none=>some true
 |some (j,want)=>
  match (ops.toList[j]?).bind (·.dst) with
  |none=>none
  |some t=>match look st.ts t with
   |some (.c (.val v))=>some (xf want v)
   |some (.raw v)=>some (xf want v)
   |_=>none
def xF{ops:Array Oper}{o:Oper}{st:AS}{a:Act}{w:ab}{b:Bool}(h:ep st a w)(hw:eJ ops o st=some b):Region.wanted o (yielded ops a.tmps)=b:=by
 unfold eJ at hw;unfold Region.wanted;cases hg:o.guard with
 |none=>rw [hg] at hw;cases hw;rfl
 |some p=>
  obtain ⟨j,want⟩:=p;rw [hg] at hw;dsimp only at hw⊢;cases hd:(ops.toList[j]?).bind (·.dst) with
  |none=>rw [hd] at hw;cases hw
  |some t=>
   rw [hd] at hw;dsimp only at hw;cases hl:look st.ts t with
   |none=>rw [hl] at hw;cases hw
   |some x=>
    have key:∀v,(∀u,cU (bj st.s.bl w) x u -> u=v) -> some (xf want v)=some b -> ((yielded ops a.tmps j) == some want)=b:=by
     intro v hv hw;injection hw with hw
     obtain ⟨u,h1,h2⟩:=h.tm t _ hl;have hu:u=v:=hv u h2;subst hu;have hd':(ops[j]?).bind (·.dst)=some t:=by rw [←nT];exact hd
     rw [←hw];have hy:∀z:Option aN,a.tmps[t]?=z -> yielded ops a.tmps j=(match z with|some (.bool b)=>some b|_=>none):=by
      rintro _ rfl;unfold yielded;rw [hd'];rfl
     rw [hy _ h1];clear hy h2 hl hw h1 hv;cases u<;>simp [xf]
    cases x with
    |c y=>
     cases y with
     |val v=>
      rw [hl] at hw;exact key v (λu hu=>by cases hu with|c _ _ h=>cases h;rfl) hw
     |sl _ _=>rw [hl] at hw;cases hw
    |raw v=>
     rw [hl] at hw;exact key v (λu hu=>by cases hu;rfl) hw
    |_=>rw [hl] at hw;cases hw
section
variable {P:Program}
def br(P:Program)(c:Code)(st:AS)(Q:Exit -> AS -> Prop):Prop:=
 ∀a w,ep st a w -> ∀QQ:Exit -> Act -> World -> Prop,(∀e a' w' st',Q e st' -> ep st' a' w' -> iP st w st' w' -> QQ e a' w') -> c.wp P QQ a w
def cO(P:Program)(ops:Array Oper)(l:List Oper)(st:AS)(Q:Exit -> AS -> Prop):Prop:=
 ∀a w,ep st a w -> ∀QQ:Exit -> Act -> World -> Prop,(∀e a' w' st',Q e st' -> ep st' a' w' -> iP st w st' w' -> QQ e a' w') -> wpList P ops QQ l a w
def co(P:Program)(U:List Nat)(o:Oper)(st:AS)(t:AT):Prop:=
 ∀a w,ep st a w -> (∀b,b∈U -> b∈st.s.bl) -> ∃v,cU (bj st.s.bl w) t v /\ ∀w',cQ U w w' -> (execOp a.eval o).run P w'=.ok (.value v) w'
def dZ(P:Program)(U:List Nat)(o:Oper)(st:AS)(K:AS -> Prop):Prop:=
 ∀a w,ep st a w -> ∀(KK:Act -> World -> Prop)(QQ:Exit -> Act -> World -> Prop),(∀a' w' st',K st' -> ep st' a' w' -> iP st w st' w' -> cQ U w w' -> KK a' w') -> o.wp P a w KK QQ
def lX(K:AS -> Prop)(Q:Exit -> AS -> Prop):Exit -> AS -> Prop
 |.normal,s=>K s
 |e,s=>Q e s
def rI(id:Nat)(Q:Exit -> AS -> Prop):Exit -> AS -> Prop
 |.exit id',s=>if id'=id then Q .normal s else Q (.exit id') s
 |e,s=>Q e s
theorem sN{c:Code}{st:AS}{Q Q':Exit -> AS -> Prop}(h:br P c st Q)(hq:∀e s,Q e s -> Q' e s):br P c st Q':=
 λa w hs QQ hQ=>h a w hs QQ λe a' w' st' q=>hQ e a' w' st' (hq _ _ q)
def Sub(st st':AS):Prop:=∀a w,ep st a w -> ep st' a w /\ (∀b,b∈st'.s.bl -> b∈st.s.bl) /\ ∀b,b∈st'.T -> b∈st.T
theorem Sub.ext{st st':AS}(h:Sub st st'){a:Act}{w:ab}(hs:ep st a w):iP st w st' w:=⟨cQ.refl _ _,cQ.refl _ _,λb hb=>.inl ((h a w hs).2.1 b hb),λb hb=>.inl ((h a w hs).2.2 b hb)⟩
theorem Sub.refl(st:AS):Sub st st:=λa w h=>⟨h,λ_ h=>h,λ_ h=>h⟩
theorem Sub.trans{a b c:AS}(h:Sub a b)(k:Sub b c):Sub a c:=λx w hs=>⟨(k x w (h x w hs).1).1,λy hy=>(h x w hs).2.1 y ((k x w (h x w hs).1).2.1 y hy),λy hy=>(h x w hs).2.2 y ((k x w (h x w hs).1).2.2 y hy)⟩
theorem rp{c:Code}{st st':AS}{Q:Exit -> AS -> Prop}(hs:Sub st st')(h:br P c st' Q):br P c st Q:=
 λa w hS QQ hQ=>h a w (hs a w hS).1 QQ λe a' w' st2 q s2 k=>hQ e a' w' st2 q s2 ((hs.ext hS).trans k)
theorem uZ{ops:Array Oper}{l:List Oper}{st st':AS}{Q:Exit -> AS -> Prop}(hs:Sub st st')(h:cO P ops l st' Q):cO P ops l st Q:=
 λa w hS QQ hQ=>h a w (hs a w hS).1 QQ λe a' w' st2 q s2 k=>hQ e a' w' st2 q s2 ((hs.ext hS).trans k)
theorem zy{x y:Code}{st:AS}{Q:Exit -> AS -> Prop}(h:br P x st (lX (λs=>br P y s Q) Q)):br P (.seq x y) st Q:=by
 intro a w hs QQ hQ;refine wp_seq (h a w hs _ ?_);intro e a' w' st' q s' k;cases e with
 |normal=>exact q a' w' s' QQ λe a2 w2 st2 q2 s2 k2=>hQ e a2 w2 st2 q2 s2 (k.trans k2)
 |_=>exact hQ _ a' w' st' q s' k
theorem im{c:bb}{x y:Code}{st:AS}{Q:Exit -> AS -> Prop}{b:Bool}(hc:aw st c=some (.c (.val (.bool b))))(ht:b=true -> br P x st Q)(hf:b=false -> br P y st Q):br P (.cond c x y) st Q:=by
 intro a w hs QQ hQ;exact wp_cond_split (hs.val hc) (λh=>ht h a w hs QQ hQ) (λh=>hf h a w hs QQ hQ)
theorem Wc{id:Nat}{c:Code}{st:AS}{Q:Exit -> AS -> Prop}(h:br P c st (rI id Q)):br P (.block id c) st Q:=by
 intro a w hs QQ hQ;refine wp_block (h a w hs _ ?_);intro e a' w' st' q s' k;cases e with
 |exit id'=>
  simp only [rI] at q;simp only [Exit.inBlock];split
  ·rename_i he;rw [if_pos he] at q;exact hQ _ a' w' st' q s' k
  ·rename_i he;rw [if_neg he] at q;exact hQ _ a' w' st' q s' k
 |_=>exact hQ _ a' w' st' q s' k
theorem SH{id:Nat}{st:AS}{Q:Exit -> AS -> Prop}(h:Q (.exit id) st):br P (.exit id) st Q:=λa w hs QQ hQ=>wp_exit (hQ _ a w st h hs (iP.refl _ _))
theorem Ss{st:AS}{Q:Exit -> AS -> Prop}(h:Q .ret st):br P .ret st Q:=λa w hs QQ hQ=>wp_ret (hQ _ a w st h hs (iP.refl _ _))
theorem Va{st:AS}{Q:Exit -> AS -> Prop}(h:Q .normal st):br P .skip st Q:=λa w hs QQ hQ=>wp_skip (hQ _ a w st h hs (iP.refl _ _))
theorem f9{α:Type}(I:α -> AS)(p:α -> Prop)(μ:α -> Nat)(g0:α){c:Code}{st:AS}{Q:Exit -> AS -> Prop}(hs:Sub st (I g0))(hp:p g0)
  (round:∀g,p g -> br P c (I g) (lX (λs=>∃g',p g' /\ μ g'<μ g /\ Sub s (I g')) Q)):br P (.loop c) st Q:=by
 intro a w hS QQ hQ;refine wp_loop_ghost (λn a' w'=>∃g,p g /\ μ g=n /\ ep (I g) a' w' /\ iP st w (I g) w') (μ g0) ⟨g0,hp,J,(hs a w hS).1,hs.ext hS⟩ ?_;rintro n a1 w1 ⟨g,hg,rfl,s1,k1⟩;refine round g hg a1 w1 s1 _ ?_;intro e a' w' st' q s' k;cases e with
 |normal=>
  obtain ⟨g',hg',hlt,hsub⟩:=q;exact ⟨_,hlt,g',hg',J,(hsub a' w' s').1,(k1.trans k).trans (hsub.ext s')⟩
 |_=>exact hQ _ a' w' st' q s' (k1.trans k)
theorem P6{id:Nat}{l:List Oper}{st:AS}{Q:Exit -> AS -> Prop}(h:cO P l.toArray l st Q):br P (.region id l.toArray false) st Q:=
 λa w hs QQ hQ=>wp_region_lit (h a w hs QQ hQ)
theorem JW{ops:Array Oper}{st:AS}{Q:Exit -> AS -> Prop}(h:Q .normal st):cO P ops [] st Q:=λa w hs QQ hQ=>hQ _ a w st h hs (iP.refl _ _)
theorem Vd{ops:Array Oper}{o:Oper}{l:List Oper}{st:AS}{Q:Exit -> AS -> Prop}{d:Nat}{t:AT}(hw:eJ ops o st=some true)(hd:o.dst=some d)(hn:d<st.n)(hy:co P [] o st t)
  (h:cO P ops l {st with ts:=(d,t)::st.ts} Q):cO P ops (o::l) st Q:=by
 intro a w hs QQ hQ;obtain ⟨v,hr,hx⟩:=hy a w hs jM;refine wpList_step λK hK=>?_;rw [if_pos (xF hs hw)];unfold Oper.wp;rw [hx w (cQ.refl _ _),Oper.upon_value,hd];exact hK _ _ (h _ _ (hs.put hn hr) QQ λe a' w' st' q s' k=>hQ e a' w' st' q s' ⟨k.keep,k.ls,k.bl,k.T⟩)
theorem Vz{ops:Array Oper}{o:Oper}{l:List Oper}{st:AS}{Q:Exit -> AS -> Prop}{d:Nat}(hw:eJ ops o st=some false)(hd:o.dst=some d)(hn:d<st.n)
  (h:cO P ops l {st with ts:=(d,.raw undef)::st.ts} Q):cO P ops (o::l) st Q:=by
 intro a w hs QQ hQ;refine wpList_step λK hK=>?_;rw [if_neg (by rw [xF hs hw];decide),hd];exact hK _ _ (h _ _ (hs.put hn (.raw _)) QQ λe a' w' st' q s' k=>hQ e a' w' st' q s' ⟨k.keep,k.ls,k.bl,k.T⟩)
theorem Ye{ops:Array Oper}{o:Oper}{l:List Oper}{st:AS}{Q:Exit -> AS -> Prop}(hw:eJ ops o st=some true)(h:dZ P st.T o st λs=>cO P ops l s Q):cO P ops (o::l) st Q:=by
 intro a w hs QQ hQ;refine wpList_step λK hK=>?_;rw [if_pos (xF hs hw)];refine h a w hs K QQ λa' w' st' q s' k _=>hK _ _ (q a' w' s' QQ λe a2 w2 st2 q2 s2 k2=>hQ e a2 w2 st2 q2 s2 (k.trans k2))
theorem Fa{md:Region.Mode}{ops:Array Oper}{Q:Exit -> Act -> ab -> Prop}{S S':ab -> Prop}(hS:∀w,S' w -> S w):∀(fuel:Nat)(listed:Array Bool)(a:Act)(w:ab),wpAnyH P md ops Q S' fuel listed a w -> wpAnyH P md ops Q S fuel listed a w
 |0,_,_,_,h=>h
 |fuel+1,_,_,_,h=>⟨h.1,λi hi=>wpOp_mono (λ_ _ h'=>⟨hS _ h'.1,Fa hS fuel _ _ _ h'.2⟩) (h.2 i hi)⟩
def fe(s:aJ)(Z:List Nat):List Nat:=s.bl.filter λb=>!Z.contains b
theorem gh{s:aJ}{Z:List Nat}{b:Nat}:b∈fe s Z↔b∈s.bl /\ b∉Z:=by unfold fe;simp
theorem Uh{s:aJ}{Z:List Nat}:∀b,b∈fe s Z -> b∈s.bl:=λ_ h=>(gh.1 h).1
def dr(P:Program)(ops:Array Oper)(Z:List Nat)(fuel:Nat)(listed:Array Bool)(st:AS)(Q:AS -> Prop):Prop:=
 ∀a w,ep st a w -> ∀QQ:Exit -> Act -> World -> Prop,(∀c a w,¬QQ (.panic c) a w) -> (∀a' w' st',Q st' -> ep st' a' w' -> iP st w st' w' -> QQ .normal a' w') ->
  wpAnyH P .any ops QQ (λw'=>cQ (fe st.s Z) w w') fuel listed a w
theorem WT{id:Nat}{ops:Array Oper}{st:AS}{Q:Exit -> AS -> Prop}(Z:List Nat)(hm:P.follows .mixedOrders=true)(h:dr P ops Z ops.size (Array.replicate ops.size false) st (Q .normal)):br P (.region id ops true) st Q:=by
 intro a w hs QQ hQ;refine Code.wp_mono (Q:=λe a' w'=>match e with|.normal=>QQ .normal a' w'|_=>False) La ?_;refine wp_region_held_drew (S:=λw'=>cQ (fe st.s Z) w.drew w') hm (cQ.refl _ _) λ_=>?_;refine h a w.drew hs.drew _ (λ_ _ _ q=>q) λa' w' st' q s' k=>hQ _ a' w' st' q s' ⟨⟨k.keep.os,k.keep.tape,k.keep.output,k.keep.size,k.keep.block⟩,⟨k.ls.os,k.ls.tape,k.ls.output,k.ls.size,k.ls.block⟩,k.bl,k.T⟩
theorem QT{ops:Array Oper}{Z:List Nat}{fuel:Nat}{listed:Array Bool}{st:AS}{Q:AS -> Prop}(hr:Region.ready .any ops listed=[])(h:Q st):dr P ops Z fuel listed st Q:=
 λa w hs QQ _ hQ=>wpAnyH_done hr (hQ a w st h hs (iP.refl _ _)) _
theorem PV(i:Nat){ops:Array Oper}{Z:List Nat}{fuel:Nat}{listed:Array Bool}{st:AS}{Q:AS -> Prop}{o:Oper}{d:Nat}{t:AT}(hr:(Region.ready .any ops listed).contains i=true)(hi:ops.toList[i]?=some o)(hf:Region.free .any ops listed i=true)(hsel:Region.noSelect ops=true)
  (hw:eJ ops o st=some true) (hd:o.dst=some d) (hn:d<st.n) (hy:co P (fe st.s Z) o st t) (h:dr P ops Z fuel (listed.setIfInBounds i true) {st with ts:=(d,t)::st.ts} Q):dr P ops Z (fuel+1) listed st Q:=by
 intro a w hs QQ hp hQ;obtain ⟨v,hrep,hx⟩:=hy a w hs Uh;refine wpAnyH_take (v:=v) HQ hsel hf hr (λc a w q=>(hp _ _ _ q).elim) (Or.inl ⟨xF hs hw,hx⟩) (cQ.refl _ _) ?_;rw [hd];exact h _ _ (hs.put hn hrep) QQ hp λa' w' st' q s' k=>hQ a' w' st' q s' ⟨k.keep,k.ls,k.bl,k.T⟩
theorem Wn(i:Nat){ops:Array Oper}{Z:List Nat}{fuel:Nat}{listed:Array Bool}{st:AS}{Q:AS -> Prop}{o:Oper}{d:Nat}(hr:(Region.ready .any ops listed).contains i=true)(hi:ops.toList[i]?=some o)(hf:Region.free .any ops listed i=true)(hsel:Region.noSelect ops=true)
  (hw:eJ ops o st=some false) (hd:o.dst=some d) (hn:d<st.n) (h:dr P ops Z fuel (listed.setIfInBounds i true) {st with ts:=(d,.raw undef)::st.ts} Q):dr P ops Z (fuel+1) listed st Q:=by
 intro a w hs QQ hp hQ;refine wpAnyH_take (v:=undef) HQ hsel hf hr (λc a w q=>(hp _ _ _ q).elim) (Or.inr ⟨xF hs hw,J⟩) (cQ.refl _ _) ?_;rw [hd];exact h _ _ (hs.put hn (.raw _)) QQ hp λa' w' st' q s' k=>hQ a' w' st' q s' ⟨k.keep,k.ls,k.bl,k.T⟩
def A5(P:Program)(ops:Array Oper)(Z:List Nat)(fuel:Nat)(listed:Array Bool)(st:AS)(Q:AS -> Prop)(rs:List Nat):Prop:=
 ∀a w,ep st a w -> ∀QQ:Exit -> Act -> World -> Prop,(∀c a w,¬QQ (.panic c) a w) -> (∀a' w' st',Q st' -> ep st' a' w' -> iP st w st' w' -> QQ .normal a' w') ->
  AllReadyH P .any ops QQ (λw'=>cQ (fe st.s Z) w w') fuel listed a w rs
theorem B4{rs:List Nat}{ops:Array Oper}{Z:List Nat}{fuel:Nat}{listed:Array Bool}{st:AS}{Q:AS -> Prop}(hr:Region.ready .any ops listed=rs)(hne:rs.isEmpty=false)(h:A5 P ops Z fuel listed st Q rs):dr P ops Z (fuel+1) listed st Q:=
 λa w hs QQ hp hQ=>wpAnyH_ready hr (by cases rs;cases hne;simp) (h a w hs QQ hp hQ)
theorem Bd{ops:Array Oper}{Z:List Nat}{fuel:Nat}{listed:Array Bool}{st:AS}{Q:AS -> Prop}:A5 P ops Z fuel listed st Q []:=λa w hs QQ hp hQ=>AllReadyH.nil
theorem vA{i:Nat}{rs:List Nat}{ops:Array Oper}{Z:List Nat}{fuel:Nat}{listed:Array Bool}{st:AS}{Q:AS -> Prop}{o:Oper}(hi:ops.toList[i]?=some o)(hw:eJ ops o st=some true)
  (h:dZ P (fe st.s Z) o st λs=>dr P ops Z fuel (listed.setIfInBounds i true) s Q) (hs2:A5 P ops Z fuel listed st Q rs):A5 P ops Z fuel listed st Q (i::rs):=by
 intro a w hs QQ hp hQ;refine AllReadyH.cons HQ (λK' hK=>?_) (hs2 a w hs QQ hp hQ);rw [if_pos (xF hs hw)];refine h a w hs K' QQ λa' w' st' q s' k hk=>?_;refine hK.out a' w' hk λ_=>?_;refine Fa (S':=λw2=>cQ (fe st'.s Z) w' w2) (λw2 h2=>Eu hk h2 λb hb=>?_) _ _ _ _ ?_
 ·obtain ⟨h3,h4⟩:=gh.1 hb;exact (k.bl b h3).imp (λh5=>gh.2 ⟨h5,h4⟩) id
 exact q a' w' s' QQ hp λa2 w2 st2 q2 s2 k2=>hQ a2 w2 st2 q2 s2 (k.trans k2)
def aU(P:Program)(F:FuncId)(args:List AT)(T:List Nat)(s:aJ)(Q:AT -> aJ -> Prop):Prop:=
 ∀(vs:List Value)(w:World),Mem s w -> (∀b,b∈T -> b∈s.bl) -> vs.length=args.length -> (∀i (h:i<args.length) (h':i<vs.length),cU (bj s.bl w) args[i] vs[i]) ->
  Calls P F vs.toArray w λen w'=>∃r v s',en=.returned v /\ Q r s' /\ cU (bj s'.bl w') r v /\ Mem s' w' /\ cQ T w w' /\ ∀b,b∈s'.bl -> b∈s.bl∨w.heap.size <= b
theorem aU.mono{F:FuncId}{args:List AT}{T:List Nat}{s:aJ}{Q Q':AT -> aJ -> Prop}(h:aU P F args T s Q)(hq:∀r s,Q r s -> Q' r s):aU P F args T s Q':=
 λvs w hm hT hl hr=>(h vs w hm hT hl hr).mono λ_ _ ⟨r,v,s',h1,h2,h3⟩=>⟨r,v,s',h1,hq _ _ h2,h3⟩
theorem OY{α β:Type}(f:α -> List β){l m:List α}(h:l.Sublist m):(l.flatMap f).Sublist (m.flatMap f):=by
 induction h with
 |slnil=>exact List.Sublist.slnil
 |cons a _ ih=>rw [ec];exact ih.trans (List.sublist_append_right _ _)
 |cons_cons a _ ih=>rw [ec,ec];exact Dw (xI _) ih
def jj(s s':aJ):Prop:=∀w,Mem s w -> Mem s' w /\ ∀b,b∈s'.bl -> b∈s.bl
theorem jj.refl(s:aJ):jj s s:=λ_ h=>⟨h,λ_ h=>h⟩
theorem ai{s s':aJ}(h1:s'.boxes.Sublist s.boxes)(h2:s'.rows.Sublist s.rows):jj s s':=by
 intro w hm;have hbl:s'.bl.Sublist s.bl:=Dw (h1.map _) (OY _ h2);have hu:f7 (bj s.bl w) (bj s'.bl w):=up_sub λb hb=>hbl.subset hb;exact ⟨⟨hbl.nodup hm.nodup,λb hb=>hm.lt b (hbl.subset hb),λx hx=>let ⟨us,e,r⟩:=hm.box x (h1.subset hx);⟨us,e,r.mono hu⟩,λx hx=>let ⟨us,e,r⟩:=hm.row x (h2.subset hx);⟨us,e,r.mono hu⟩⟩,λb hb=>hbl.subset hb⟩
def oB(P:Program)(fn:Func)(st:AS)(r:AT):Prop:=∀a w,ep st a w -> ∃v,cU (bj st.s.bl w) r v /\ (results fn a.tmps).run P w=.ok v w
def um:Nat -> List AT -> List (Nat×AT)
 |_,[]=>[]
 |k,t::ts=>(k,t)::um (k+1) ts
theorem Ny:∀(ts:List AT)(k i:Nat)(t:AT),look (um k ts) i=some t -> k <= i /\ ts[i-k]?=some t
 |[],_,_,_,h=>iH
 |u::ts,k,i,t,h=>by
  simp only [um,look] at h;split at h
  ·rename_i he;subst he;cases h;simp
  obtain ⟨h1,h2⟩:=Ny ts (k+1) i t h;refine ⟨Y,?_⟩;obtain ⟨j,rfl⟩:∃j,i=k+1+j:=⟨i-(k+1),Y⟩;have aj:k+1+j-k=j+1:=Y;have e2:k+1+j-(k+1)=j:=Y;rw [aj];rw [e2] at h2;simpa using h2
theorem Lm{F:FuncId}{fn:Func}{c:Code}{args:List AT}{T:List Nat}{s:aJ}{Q:AT -> aJ -> Prop}(hf:P.funcs[F]?=some fn)(hb:fn.body=some c)(hl:args.length <= fn.ntmps)
  (h:br P c ⟨fn.ntmps,T,s,um 0 args⟩ λe st=>(e=.normal∨e=.ret) /\ ∃r s',oB P fn st r /\ jj st.s s' /\ Q r s'):aU P F args T s Q:=by
 intro vs w hm hT hvl hr;refine calls_of_wp hf hb ?_;refine h _ w ⟨J,?_,λi t ht=>?_,hm⟩ _ ?_
 ·simp;omega
 ·obtain ⟨-,h2⟩:=Ny args 0 i t ht;simp only [yr] at h2;obtain ⟨hi,rfl⟩:=m6.1 h2;have hi':i<vs.length:=Y;refine ⟨vs[i],?_,hr i hi hi'⟩;rw [He (by simpa using hi')];simp [hi']
 intro e a' w' st' q s' k;obtain ⟨he,r,s2,hres,hsub,hq⟩:=q;obtain ⟨v,h1,h2⟩:=hres a' w' s';obtain ⟨hm2,hbl⟩:=hsub w' s'.mem;rcases he with rfl|rfl;rotate_left;all_goals
  exact ⟨s'.df,v,h2,⟨r,v,s2,J,hq,h1.mono (up_sub hbl) (BK (bX _)),hm2,k.ls,λb hb=>k.bl b (hbl b hb)⟩⟩
end
end
section
open Go.RowKit
def Dt(op:BinOp)(k:IntKind)(m n:Int):Option Int:=match op with|.add=>some (k.wrap (m+n))|.sub=>some (k.wrap (m-n))|.mul=>some (k.wrap (m*n))|_=>none
def ed(op:BinOp)(m n:Int):Option Bool:=match op with|.eql=>some (m == n)|.neq=>some (m != n)|.lss=>some (decide (m<n))|.leq=>some (decide (m <= n))|.gtr=>some (decide (n<m))|.geq=>some (decide (n <= m))|_=>none
def LU(op:BinOp)(k:IntKind)(m n:Int):Option Int:=match op with|.quo=>some (k.wrap (m.tdiv n))|.rem=>some (m.tmod n)|_=>none
def m_(op:BinOp)(m n:ByteArray):Option Bool:=match op with|.eql=>some (decide (m=n))|.neq=>some (!decide (m=n))|_=>none
def PK(op:BinOp)(m n:Bool):Option Bool:=match op with|.eql=>some (m == n)|.neq=>some (m != n)|_=>none
section
variable {P:Program}{U:List Nat}{o:Oper}{st:AS}
theorem cU.val{w:ab}{x v:aN}(h:cU w (.c (.val x)) v):v=x:=by cases h with|c _ _ h=>cases h;rfl
theorem ot{x:bb}{t:AT}(ho:o.op=.move x)(hx:aw st x=some t):co P U o st t:=by
 intro a w hs _;exact ⟨a.eval x,hs.ev hx,λw' _=>by simp only [execOp,ho];rfl⟩
theorem xu{x:bb}{t:AT}(ho:o.op=.assign x)(hx:aw st x=some t):co P U o st t:=by
 intro a w hs _;exact ⟨a.eval x,hs.ev hx,λw' _=>by simp only [execOp,ho];rfl⟩
theorem Ml{c x y:bb}{b:Bool}{t:AT}(ho:o.op=.pick c x y)(hc:aw st c=some (.c (.val (.bool b))))(hx:aw st (if b then x else y)=some t):co P U o st t:=by
 intro a w hs _;refine ⟨a.eval (if b then x else y),hs.ev hx,λw' _=>?_⟩;simp only [execOp,ho,hs.val hc];cases b<;>simp [go_sem]
theorem iF{v:aN}(h1:v.oneCell'=true)(h:∀a w,ep st a w -> ∀w',(execOp a.eval o).run P w'=.ok (.value v) w'):co P U o st (.c (.val v)):=
 λa w hs _=>⟨v,.c _ _ (.val _ h1),λw' _=>h a w hs w'⟩
theorem L4{op:BinOp}{k:IntKind}{t yt:bA}{x y:bb}{m n r:Int}(ho:o.op=.binOp op t x y yt)(hx:aw st x=some (.c (.val (.int k m))))(hy:aw st y=some (.c (.val (.int k n))))
  (hr:Dt op k m n=some r):co P U o st (.c (.val (.int k r))):=
 iF rfl λa w hs w'=>by
  simp only [execOp,ho,hs.val hx,hs.val hy];cases op<;>simp_all [go_sem,eqGuard,binOp,Op.intArith,Dt]
theorem fC{op:BinOp}{k:IntKind}{t yt:bA}{x y:bb}{m n:Int}(r:Bool)(ho:o.op=.binOp op t x y yt)(hx:aw st x=some (.c (.val (.int k m))))(hy:aw st y=some (.c (.val (.int k n))))
  (hr:ed op m n=some r):co P U o st (.c (.val (.bool r))):=
 iF rfl λa w hs w'=>by
  simp only [execOp,ho,hs.val hx,hs.val hy];cases op<;>simp_all [go_sem,eqGuard,binOp,Op.intCmp,ed]
theorem FD{op:BinOp}{k:IntKind}{t yt:bA}{x y:bb}{m n r:Int}(ho:o.op=.binOp op t x y yt)(hx:aw st x=some (.c (.val (.int k m))))(hy:aw st y=some (.c (.val (.int k n))))(hn:n≠0)
  (hr:LU op k m n=some r):co P U o st (.c (.val (.int k r))):=
 iF rfl λa w hs w'=>by
  simp only [execOp,ho,hs.val hx,hs.val hy];cases op<;>simp_all [go_sem,eqGuard,binOp,Op.intDiv,LU]
theorem fc{op:BinOp}{t yt:bA}{x y:bb}{m n:aH}(r:Bool)(ho:o.op=.binOp op t x y yt)(hx:aw st x=some (.c (.val (.string m))))(hy:aw st y=some (.c (.val (.string n))))
  (hr:m_ op m n=some r):co P U o st (.c (.val (.bool r))):=
 iF rfl λa w hs w'=>by
  have e:(m.toList == n.toList)=decide (m=n):=by
   by_cases h:m=n
   ·rw [Iv h,decide_eq_true h]
   rw [Na h,decide_eq_false h]
  simp only [execOp,ho,hs.val hx,hs.val hy];cases op<;>simp_all [go_sem,eqGuard,binOp,Op.stringOp,m_]
theorem Ie{t yt:bA}{x y:bb}{m n:aH}(ho:o.op=.binOp .add t x y yt)(hx:aw st x=some (.c (.val (.string m))))(hy:aw st y=some (.c (.val (.string n))))(hl:m.size+n.size <= 9223372036854775807):co P U o st (.c (.val (.string (m++n)))):=
 iF rfl λa w hs w'=>by
  have h:¬(((m.size+n.size:Nat):Int)>IntKind.i64.max):=by rw [show IntKind.i64.max=9223372036854775807 from by decide];omega
  simp only [execOp,ho,hs.val hx,hs.val hy];simp [go_sem,eqGuard,binOp,Op.stringOp];omega
theorem run_equal_bool(d:Nat){t:bA}(m n:Bool)(w:ab)(hu:∀w,(underlying t).run P w=.ok .bool w):(Op.equalIn (d+1) t (.bool m) (.bool n)).run P w=.ok (m == n) w:=by
 simp [Op.equalIn,go_sem,hu]
theorem kY{op:BinOp}{t yt:bA}{x y:bb}{m n:Bool}(r:Bool)(ho:o.op=.binOp op t x y yt)(hx:aw st x=some (.c (.val (.bool m))))(hy:aw st y=some (.c (.val (.bool n))))
  (hu:∀w,(underlying t).run P w=.ok .bool w) (hr:PK op m n=some r):co P U o st (.c (.val (.bool r))):=
 iF rfl λa w hs w'=>by
  have e2:(Op.equal t (.bool m) (.bool n)).run P w'=.ok (m == n) w':=run_equal_bool _ m n w' hu;generalize hg:Op.equal t (.bool m) (.bool n)=E at e2;simp only [execOp,ho,hs.val hx,hs.val hy];cases op<;>simp_all [go_sem,eqGuard,binOp,bne,PK]
theorem jE{t:bA}{x:bb}{m:Bool}(ho:o.op=.unOp .not t x)(hx:aw st x=some (.c (.val (.bool m)))):co P U o st (.c (.val (.bool (!m)))):=
 iF rfl λa w hs w'=>by
  simp only [execOp,ho,hs.val hx];simp [go_sem,Op.unary]
theorem Ul{t:bA}{x:bb}{k:IntKind}{m:Int}(ho:o.op=.unOp .neg t x)(hx:aw st x=some (.c (.val (.int k m)))):co P U o st (.c (.val (.int k (k.wrap (0-m))))):=
 iF rfl λa w hs w'=>by
  simp only [execOp,ho,hs.val hx];simp [go_sem,Op.unary,Op.intArith]
theorem T4{x:bb}{b off:Nat}(ho:o.op=.nilCheck x)(hx:aw st x=some (.c (.val (.pointer (some ⟨b,off,none⟩))))):co P U o st (.c (.val (.pointer (some ⟨b,off,none⟩)))):=
 iF rfl λa w hs w'=>by
  simp only [execOp,ho,hs.val hx]
  rfl
theorem WB{x:bb}{cs:List aO}(ho:o.op=.nilCheck x)(hx:aw st x=some (.el cs)):co P U o st (.el cs):=by
 intro a w hs _;have h:=hs.ev hx;generalize he:a.eval x=u at h;refine ⟨u,h,λw' _=>?_⟩;cases h with
 |el _ b of us h1 h2 h3=>
  simp only [execOp,ho,he]
  rfl
theorem Vk{x:bb}{t:bA}{s:aH}(ho:o.op=.call {callee:=.builtin .len,args:=#[x],argTypes:=#[t]})(hx:aw st x=some (.c (.val (.string s))))(hu:∀w,(underlying t).run P w=.ok .string w):co P U o st (.c (.val (.int .i64 s.size))):=
 iF rfl λa w hs w'=>by
  simp only [execOp,ho,resolve,mI,dE,gH,hs.val hx];simp [go_sem,invoke,builtin,Builtin.len_,hu,goInt]
theorem Tg{x:bb}{t e:bA}{p:Option Addr}{n m:Nat}(ho:o.op=.call {callee:=.builtin .len,args:=#[x],argTypes:=#[t]})(hx:aw st x=some (.c (.val (.slice p n m))))(hu:∀w,(underlying t).run P w=.ok (.slice e) w):co P U o st (.c (.val (.int .i64 n))):=
 iF rfl λa w hs w'=>by
  simp only [execOp,ho,resolve,mI,dE,gH,hs.val hx];simp [go_sem,invoke,builtin,Builtin.len_,hu,goInt]
theorem YH{x:bb}{t e:bA}{n:Nat}{cs:List aO}(ho:o.op=.call {callee:=.builtin .len,args:=#[x],argTypes:=#[t]})(hx:aw st x=some (.c (.sl n cs)))(hu:∀w,(underlying t).run P w=.ok (.slice e) w):co P U o st (.c (.val (.int .i64 n))):=
 iF rfl λa w hs w'=>by
  have h:=hs.ev hx;generalize he:a.eval x=u at h;cases h with
  |c _ _ h=>cases h with
   |sl n cs us v hr hl hh=>
    obtain ⟨p,cap,rfl,-⟩:=hr;simp only [execOp,ho,resolve,mI,dE,gH,he];simp [go_sem,invoke,builtin,Builtin.len_,hu,goInt]
end
end
section
open Go.RowKit
section
variable {P:Program}{U:List Nat}{o:Oper}{st:AS}
def fg(ag:Bool)(z:Nat)(cs:List aO)(off:Nat):Option AT:=
 if ag then (if off+z <= cs.length then some (.agg ((cs.drop off).take z)) else none) else (cs[off]?).map .c
theorem tO(b o k:Nat):(⟨b,o,none⟩:Addr).add k=⟨b,o+k,none⟩:=Af
theorem run_loadCells{w:ab}{b o:Nat}{us:List aN}(hc:∀j u,us[j]?=some u -> w.cell? ⟨b,o+j,none⟩=some u):∀(n i:Nat)(acc:Array aN),i+n <= us.length -> (loadCellsFrom ⟨b,o,none⟩ i n acc).run P w=.ok (acc++((us.drop i).take n).toArray) w
 |0,i,acc,_=>by simp [loadCellsFrom,go_sem]
 |n+1,i,acc,h=>by
  have hi:i<us.length:=Y;have h1:=hc i us[i] (by simp [hi]);have ih:=run_loadCells hc n (i+1) (acc.push us[i]) Y;rw [loadCellsFrom];have e:(load ((⟨b,o,none⟩:Addr).add i)).run P w=.ok us[i] w:=by
   rw [tO];simp only [load,Sem.run,h1]
  rw [dI,e,ei,ih]
  congr 1
  rw [ic hi,jW];simp
theorem Ak{w:ab}{bl:List Nat}{t:bA}{ag:Bool}{z b o off:Nat}{cs:List aO}{us:List aN}{r:AT}(hA:∀w,(isAgg t).run P w=.ok ag w)(hS:∀w,(sizeOf t).run P w=.ok z w)(hr:dV (bj bl w) cs us)(hp:fg ag z cs off=some r):
  ∃v,cU (bj bl w) r v /\ ∀w',(∀j u,us[j]?=some u -> w'.cell? ⟨b,o+j,none⟩=some u) -> (loadVar t ⟨b,o+off,none⟩).run P w'=.ok v w':=by
 unfold fg at hp;cases ag with
 |true=>
  simp only [if_true] at hp;split at hp
  ·rename_i hl;cases hp;refine ⟨_,.agg _ _ ((hr.drop off).take z),λw' hc=>?_⟩;have h2:=run_loadCells (P:=P) (w:=w') (b:=b) (o:=o+off) (us:=us.drop off) (λj u hj=>by rw [qX] at hj;rw [ra];exact hc _ _ hj) z 0 #[] (by simp [hr.len];omega);simp only [loadVar,dI,hA,ei,if_true,hS,loadCells,h2];simp [go_sem]
  ·cases hp
 |false=>
  simp only [mz,if_false,zb] at hp;obtain ⟨x,hx,rfl⟩:=hp;obtain ⟨u,hu,hrep⟩:=hr.get hx;refine ⟨u,.c _ _ hrep,λw' hc=>?_⟩;have h1:=hc off u hu;simp only [loadVar,dI,hA,ei,mz,if_false,load,Sem.run,h1]
theorem ka{t:bA}{x:bb}{cs:List aO}{ag:Bool}{z:Nat}{r:AT}(ho:o.op=.load t x)(hx:aw st x=some (.el cs))(hA:∀w,(isAgg t).run P w=.ok ag w)(hS:∀w,(sizeOf t).run P w=.ok z w)(hp:fg ag z cs 0=some r):co P U o st r:=by
 intro a w hs hU;have h:=hs.ev hx;generalize he:a.eval x=u at h;cases h with
 |el _ b of us h1 h2 h3=>
  obtain ⟨v,hv,hl⟩:=Ak (P:=P) (b:=b) (o:=of) hA hS h1 hp;refine ⟨v,hv,λw' hk=>?_⟩;have hl2:=hl w' (λj u hj=>by
   obtain ⟨h4,h5⟩:=pY (h2 j u hj);rw [hk.cell (mq h4) (λhm=>h5 (hU _ hm))];exact h4)
  simp only [execOp,ho,he,Instr.loadAt,Instr.sureAddr,dI,fj,ei,vX] at hl2⊢;rw [hl2];rfl
theorem cV{t:bA}{x:bb}{b off:Nat}{T:bA}{cs:List aO}{ag:Bool}{z:Nat}{r:AT}(A:List aV){B:List aV}(hA:∀w,(isAgg t).run P w=.ok ag w)(hS:∀w,(sizeOf t).run P w=.ok z w)(ho:o.op=.load t x:=by exact rfl)(hx:aw st x=some (.c (.val (.pointer (some ⟨b,off,none⟩)))):=by exact rfl)(hb:st.s.boxes=A++⟨b,T,cs⟩::B:=by exact rfl)(hp:fg ag z cs off=some r:=by exact rfl)(hU:st.s.bl.Nodup -> b∉U:=by exact λ_ h=>iH):co P U o st r:=by
 intro a w hs hU2;have hmem:(⟨b,T,cs⟩:aV)∈st.s.boxes:=uX;obtain ⟨us,⟨fz,-,h1⟩,h2⟩:=hs.mem.box _ hmem;obtain ⟨v,hv,hl⟩:=Ak (P:=P) (b:=b) (o:=0) hA hS h2 hp;refine ⟨v,hv,λw' hk=>?_⟩;have hlt:b<w.heap.size:=hs.mem.lt b (gR _ (lP.2 ⟨_,hmem,J⟩));have hh:=hk.block b hlt (hU hs.mem.nodup);have hl2:=hl w' (λj u hj=>by
  unfold World.cell?;simp only [hh,h1];simpa using hj)
 simp only [cp] at hl2;simp only [execOp,ho,hs.val hx,Instr.loadAt,Instr.sureAddr,dI,fj,ei];rw [hl2];rfl
def s_(fs:Array Field)(f:Nat):Option (Nat×TypeId):=(fs[f]?).map λx=>(x.offset,x.type)
theorem NZ{t ft:bA}{fs:Array Field}{f off z b p:Nat}{w:ab}(hu:∀w,(underlying t).run P w=.ok (.struct fs) w)(hf:s_ fs f=some (off,ft))(hS:∀w,(sizeOf ft).run P w=.ok z w)(hz:z≠0):
  (Instr.fieldAt t (.pointer (some ⟨b,p,none⟩)) f).run P w=.ok (.pointer (some ⟨b,p+off,none⟩)) w:=by
 unfold s_ at hf;cases hx:fs[f]? with
 |none=>rw [hx] at hf;cases hf
 |some x=>
  rw [hx] at hf;simp only [oi,yV,jC] at hf;obtain ⟨rfl,rfl⟩:=hf;simp only [Instr.fieldAt,dI,hu,ei,hx,Instr.sureAddr,fj,fieldPlace,hS,if_neg hz,tO]
theorem jO(off q:Nat){t ft:bA}{x:bb}{fs:Array Field}{f z b p:Nat}(hu:∀w,(underlying t).run P w=.ok (.struct fs) w)(hS:∀w,(sizeOf ft).run P w=.ok z w)(ho:o.op=.fieldAddr t x f:=by exact rfl)(hx:aw st x=some (.c (.val (.pointer (some ⟨b,p,none⟩)))):=by exact rfl)(hf:s_ fs f=some (off,ft):=by exact rfl)(hz:z≠0:=by decide)(hq:p+off=q:=by exact rfl):co P U o st (.c (.val (.pointer (some ⟨b,q,none⟩)))):=
 iF rfl λa w hs w'=>by
  subst hq;simp only [execOp,ho,hs.val hx,dI,NZ hu hf hS hz];rfl
theorem cU.aG8{w:ab}{cs:List aO}{b p:Nat}(k:Nat)(h:cU w (.el cs) (.pointer (some ⟨b,p,none⟩))):cU w (.el (cs.drop k)) (.pointer (some ⟨b,p+k,none⟩)):=by
 cases h with
 |el _ _ _ us h1 h2 h3=>exact .el _ b (p+k) (us.drop k) (h1.drop k) (λj u hj=>by rw [qX] at hj;rw [ra];exact h2 _ _ hj) h3
theorem WF(off:Nat){t ft:bA}{x:bb}{fs:Array Field}{f z:Nat}{cs:List aO}(ho:o.op=.fieldAddr t x f)(hx:aw st x=some (.el cs))(hu:∀w,(underlying t).run P w=.ok (.struct fs) w)(hf:s_ fs f=some (off,ft))(hS:∀w,(sizeOf ft).run P w=.ok z w)(hz:z≠0):co P U o st (.el (cs.drop off)):=by
 intro a w hs _;have h:=hs.ev hx;generalize he:a.eval x=u at h;have h9:=h;cases h with
 |el _ b of us h1 h2 h3=>
  refine ⟨_,h9.aG8 off,λw' _=>?_⟩;simp only [execOp,ho,he,dI,NZ hu hf hS hz];rfl
theorem TS(off:Nat){t ft:bA}{x:bb}{fs:Array Field}{f z:Nat}{cs:List aO}{ag:Bool}{r:AT}(ho:o.op=.field t x f)(hx:aw st x=some (.agg cs))(hu:∀w,(underlying t).run P w=.ok (.struct fs) w)(hf:s_ fs f=some (off,ft))(hA:∀w,(isAgg ft).run P w=.ok ag w)(hS:∀w,(sizeOf ft).run P w=.ok z w)(hp:fg ag z cs off=some r):co P U o st r:=by
 intro a w hs _;have h:=hs.ev hx;generalize he:a.eval x=u at h;cases h with
 |agg _ us h1=>
  unfold s_ at hf;cases hxx:fs[f]? with
  |none=>rw [hxx] at hf;cases hf
  |some y=>
   rw [hxx] at hf;simp only [oi,yV,jC] at hf;obtain ⟨rfl,rfl⟩:=hf;unfold fg at hp;cases ag with
   |true=>
    simp only [if_true] at hp;split at hp
    ·cases hp;refine ⟨_,.agg _ _ ((h1.drop _).take z),λw' _=>?_⟩;simp only [execOp,ho,he,Instr.field,dI,hu,ei,hxx,asAgg,fj,part,hA,if_true,hS];simp [List.extract_eq_take_drop]
    ·cases hp
   |false=>
    simp only [mz,if_false,zb] at hp;obtain ⟨c,hc,rfl⟩:=hp;obtain ⟨v,hv,hrep⟩:=h1.get hc;refine ⟨v,.c _ _ hrep,λw' _=>?_⟩;simp only [execOp,ho,he,Instr.field,dI,hu,ei,hxx,asAgg,fj,part,hA,mz,if_false];simp [hv,go_sem]
theorem Mj{t e:bA}{x y:bb}{n z:Nat}{cs:List aO}{k:IntKind}{i:Int}(j:Nat)(ho:o.op=.indexAddr t x y)(hx:aw st x=some (.c (.sl n cs)))(hy:aw st y=some (.c (.val (.int k i))))(hi:i=j)(hj:j<n)(hne:j*z<cs.length)
  (hu:∀w,(underlying t).run P w=.ok (.slice e) w) (hS:∀w,(sizeOf e).run P w=.ok z w):co P U o st (.el (cs.drop (j*z))):=by
 intro a w hs _;subst hi;have h:=hs.ev hx;generalize he:a.eval x=u at h;cases h with
 |c _ _ h=>cases h with
  |sl n cs us v hr hl hh=>
   obtain ⟨p,cap,rfl,hcap,hr⟩:=hr;rcases hr with rfl|⟨b,of,rfl,hc⟩
   ·simp at hl;omega
   have hel:cU (bj st.s.bl w) (.el cs) (.pointer (some ⟨b,of,none⟩)):=by
    have h0:0<us.length:=Y;exact .el _ b of us ⟨hl,hh⟩ hc (mq (hc 0 us[0] (by simp [h0])))
   refine ⟨_,hel.aG8 (j*z),λw' _=>?_⟩;simp only [execOp,ho,he,hs.val hy,Instr.indexAt,asIntOf,dI,fj,ei,hu];simp [go_sem,hS,hj,tO]
theorem ey{t e:bA}{x y:bb}{n cap z b p:Nat}{k:IntKind}{i:Int}(j:Nat)(ho:o.op=.indexAddr t x y)(hx:aw st x=some (.c (.val (.slice (some ⟨b,p,none⟩) n cap))))(hy:aw st y=some (.c (.val (.int k i))))(hi:i=j)(hj:j<n)
  (hu:∀w,(underlying t).run P w=.ok (.slice e) w) (hS:∀w,(sizeOf e).run P w=.ok z w):co P U o st (.c (.val (.pointer (some ⟨b,p+j*z,none⟩)))):=
 iF rfl λa w hs w'=>by
  subst hi;simp only [execOp,ho,hs.val hx,hs.val hy,Instr.indexAt,asIntOf,dI,fj,ei,hu];simp [go_sem,hS,hj,tO]
theorem T5{x:bb}{k:Nat}{ts:List AT}{t:AT}(ho:o.op=.extract x k)(hx:aw st x=some (.fd ts))(ht:ts[k]?=some t):co P U o st t:=by
 intro a w hs _;have h:=hs.ev hx;generalize he:a.eval x=u at h;cases h with
 |fd _ vs hl hr=>
  obtain ⟨hk,rfl⟩:=m6.1 ht;have hk2:k<vs.length:=Y;refine ⟨vs[k],hr k hk hk2,λw' _=>?_⟩;simp only [execOp,ho,he,Instr.extract];simp [hk2,go_sem]
theorem Oy{F:FuncId}{cap:Array bb}{vs:List aN}(ho:o.op=.makeFunc (.func F) #[] cap)(hc:cap.toList.map (aw st)=vs.map λv=>some (.c (.val v))):co P U o st (.c (.val (.func (.func F) #[] vs.toArray))):=
 iF rfl λa w hs w'=>by
  have e:cap.map a.eval=vs.toArray:=by
   rw [←oj,yS];have:∀(l:List bb)(vs:List aN),l.map (aw st)=vs.map (λv=>some (.c (.val v))) -> l.map a.eval=vs:=by
    intro l;induction l with
    |nil=>intro vs h;cases vs with|nil=>rfl|cons=>cases h
    |cons x l ih=>
     intro vs h;cases vs with
     |nil=>cases h
     |cons v vs=>
      simp only [dE,sV] at h⊢;exact ⟨hs.val h.1,ih vs h.2⟩
   exact this _ _ hc
  simp only [execOp,ho,Instr.makeFunc,e];simp [go_sem]
end
end
section
open Go.RowKit
section
variable {P:Program}{U:List Nat}{o:Oper}{st:AS}{K:AS -> Prop}
def lV:AT -> Option (List aO)
 |.c x=>some [x]
 |.agg cs=>some cs
 |_=>none
theorem uq{w:ab}{t:AT}{cs:List aO}{v:aN}(h:lV t=some cs)(hr:cU w t v):dV w cs v.cells.toList:=by
 cases hr with
 |c x v hx=>
  cases h;have:v.cells=#[v]:=by have:=hx.one;cases v<;>first|rfl|cases this
  rw [this];exact .cons hx (.nil _)
 |agg cs' us h1=>cases h;simpa [Value.cells] using h1
 |_=>cases h
theorem VK(b:Nat)(bl:List Nat)(w:ab)(o:Obj)(hb:b=w.heap.size):f7 (bj bl w) (bj (b::bl) (w.alloc o)):=
 lb (T:=[]) ((cQ.refl _ _).alloc o) jM (λx hx=>by rcases oo.1 hx with rfl|hx;exact .inr Y;exact .inl hx)
theorem Mem.up{s:aJ}{w w1:ab}{Sh:List Nat}(h:Mem s w)(hu:f7 (bj s.bl w) (bj Sh w1))(hk:∀b,b∈s.bl -> w1.heap[b]?=w.heap[b]?):
  (∀x,x∈s.boxes -> ∃us,(∃fz:Nat×Nat,(fz=(0,0)∨us.length <= fz.1) /\ w1.heap[x.b]?=some (.cells us.toArray x.T fz)) /\ dV (bj Sh w1) x.cs us) /\ (∀r,r∈s.rows -> ∃us,pG w1 r us /\ dV (bj Sh w1) r.cs us):=by
 refine ⟨λx hx=>?_,λr hr=>?_⟩
 ·obtain ⟨us,h1,h2⟩:=h.box x hx;exact ⟨us,by rw [hk _ (gR _ (lP.2 ⟨x,hx,rfl⟩))];exact h1,h2.mono hu⟩
 obtain ⟨us,h1,h3⟩:=h.row r hr;exact ⟨us,h1.keep λg hg=>hk g (gx _ (ky.2 ⟨r,hr,hg⟩)),h3.mono hu⟩
theorem Mem.new{s:aJ}{w:ab}(h:Mem s w)(T:bA)(cs:List aO)(us:List aN)(hr:dV (bj s.bl w) cs us):Mem ⟨⟨w.heap.size,T,cs⟩::s.boxes,s.rows⟩ (w.alloc (.cells us.toArray T)):=by
 have hu:=VK w.heap.size s.bl w (.cells us.toArray T) J;have hne:∀b,b∈s.bl -> (w.alloc (.cells us.toArray T)).heap[b]?=w.heap[b]?:=λb hb=>((cQ.refl [] w).alloc _).block b (h.lt b hb) (λh=>iH);obtain ⟨h1,h2⟩:=h.up hu hne;refine ⟨m5.2 ⟨λhm=>Nat.lt_irrefl _ (h.lt _ hm),h.nodup⟩,λb hb=>?_,λx hx=>?_,h2⟩
 ·rcases oo.1 hb with rfl|hb
  ·simp
  have:=h.lt b hb;simp;omega
 rcases oo.1 hx with rfl|hx
 ·exact ⟨us,⟨(0,0),.inl J,Lr⟩,hr.mono hu⟩
 exact h1 x hx
theorem iP.new(st:AS)(w:ab)(o:Obj)(x:aV)(hx:x.b=w.heap.size)(ts:List (Nat×AT)):iP st w {st with s:=⟨x::st.s.boxes,st.s.rows⟩,T:=x.b::st.T,ts:=ts} (w.alloc o):=
 ⟨(cQ.refl _ _).alloc o,(cQ.refl _ _).alloc o,λb hb=>JR,λb hb=>JR⟩
theorem Ku{d:Nat}{T:bA}{cs:List aO}(hd:o.dst=some d)(hn:d<st.n)
  (hx:∀a w,ep st a w -> ∃us,dV (bj st.s.bl w) cs us /\ (execOp a.eval o).run P w=.ok (.value (.pointer (some ⟨w.heap.size,0,none⟩))) (w.alloc (.cells us.toArray T)))
  (h:∀b,K {st with s:=⟨⟨b,T,cs⟩::st.s.boxes,st.s.rows⟩,T:=b::st.T,ts:=(d,.c (.val (.pointer (some ⟨b,0,none⟩))))::st.ts}):dZ P U o st K:=by
 intro a w hs KK QQ hK;obtain ⟨us,hr,hrun⟩:=hx a w hs;unfold Oper.wp;rw [hrun,Oper.upon_value,hd];have hm:=hs.mem.new T cs us hr;have s1:=hs.step (w1:=w.alloc (.cells us.toArray T)) (w.heap.size::st.T) ((cQ.refl _ _).alloc _) hm (λb hb=>by rcases oo.1 hb with rfl|hb;exact .inr (bX _);exact .inl hb);exact hK _ _ _ (h w.heap.size) (s1.put hn (.c _ _ (.val _ J))) (iP.new st w _ ⟨w.heap.size,T,cs⟩ J _) ((cQ.refl _ _).alloc _)
theorem Xv{T:bA}{x:bb}{t:AT}{d:Nat}{cs:List aO}(ho:o.op=.box T x)(hd:o.dst=some d)(hn:d<st.n)(hx:aw st x=some t)(hc:lV t=some cs)
  (h:∀b,K {st with s:=⟨⟨b,T,cs⟩::st.s.boxes,st.s.rows⟩,T:=b::st.T,ts:=(d,.c (.val (.pointer (some ⟨b,0,none⟩))))::st.ts}):dZ P U o st K:=
 Ku hd hn (λa w hs=>⟨_,uq hc (hs.ev hx),by simp only [execOp,ho,Instr.box,newVar,newRow,dI,run_newObj_alloc,ei,fj,zT]⟩) h
theorem Tm{T:bA}{d:Nat}{z:aN}{cs:List aO}(ho:o.op=.alloc T)(hd:o.dst=some d)(hn:d<st.n)(hz:∀w,(zeroValue T).run P w=.ok z w)(hc:lV (gb z)=some cs)
  (h:∀b,K {st with s:=⟨⟨b,T,cs⟩::st.s.boxes,st.s.rows⟩,T:=b::st.T,ts:=(d,.c (.val (.pointer (some ⟨b,0,none⟩))))::st.ts}):dZ P U o st K:=
 Ku hd hn (λa w hs=>⟨_,uq hc (zS _ z),by simp only [execOp,ho,Instr.alloc,newVar,newRow,dI,hz,run_newObj_alloc,ei,fj,zT]⟩) h
def splice(cs:List aO)(off:Nat)(ds:List aO):List aO:=cs.take off++ds++cs.drop (off+ds.length)
theorem dV.splice{w:ab}{cs ds:List aO}{us vs:List aN}(h:dV w cs us)(k:dV w ds vs)(off:Nat):dV w (splice cs off ds) (us.take off++vs++us.drop (off+vs.length)):=by
 unfold Go.Proofs.YtjgeihmhppadaaaGreatDoor.splice;rw [←k.len];exact ((h.take _).app k).app (h.drop _)
theorem zI(w:ab)(g:Nat)(c:Array aN):cQ [g] w (w.setRow g c):=
 ⟨rfl,rfl,rfl,by simp [World.setRow],λk hk hn=>by
  unfold World.setRow;simp only [Dy];rw [if_neg (λh=>hn sf)]⟩
theorem Mem.setRow{s:aJ}{w:ab}{A B:List aV}{b:Nat}{T:bA}{cs ds:List aO}{us vs:List aN}{fz:Nat×Nat}(h:Mem s w)(hb:s.boxes=A++⟨b,T,cs⟩::B)(hfz:fz=(0,0)∨us.length <= fz.1)(hlv:vs.length=us.length)(h1:w.heap[b]?=some (.cells us.toArray T fz))(hr:dV (bj s.bl w) ds vs):
  Mem ⟨A++⟨b,T,ds⟩::B,s.rows⟩ (w.setRow b vs.toArray):=by
 have hbl:(⟨A++⟨b,T,ds⟩::B,s.rows⟩:aJ).bl=s.bl:=vV;have hmem:b∈s.bl:=vV;have hk:=zI w b vs.toArray;have hu:f7 (bj s.bl w) (bj s.bl (w.setRow b vs.toArray)):=lb hk Hd (λx hx=>.inl hx);have hnd:=h.nodup;have hne:∀x,x∈A∨x∈B -> x.b≠b:=by
  intro x hx he;have h2:(s.boxes.map aV.b).Nodup:=(eN.1 hnd).1;rw [hb] at h2;simp only [fL,dE,eN,m5,oo,lP] at h2;rcases hx with hx|hx
  ·exact h2.2.2 x.b ⟨x,hx,J⟩ b (.inl J) he
  exact h2.2.1.1 ⟨x,hx,he⟩
 have hrow:∀r,r∈s.rows -> b∉aR r.v:=by
  intro r hr hm;have h2:=(eN.1 hnd).2.2 b uX b (ky.2 ⟨r,hr,hm⟩);exact h2 J
 refine ⟨by rw [hbl];exact hnd,λx hx=>ED,λx hx=>?_,λr hr2=>?_⟩
 ·rw [hbl];simp only [nO,oo] at hx;have old:x∈A∨x∈B -> ∃us,(∃fz:Nat×Nat,(fz=(0,0)∨us.length <= fz.1) /\ (w.setRow b vs.toArray).heap[x.b]?=some (.cells us.toArray x.T fz)) /\ dV (bj s.bl (w.setRow b vs.toArray)) x.cs us:=λhx=>by
   have hx2:x∈s.boxes:=by rw [hb];simp only [nO,oo];rcases hx with h|h;exact .inl h;exact .inr (.inr h)
   obtain ⟨us',aj,e2⟩:=h.box x hx2;exact ⟨us',by rw [hk.block _ (h.lt _ (gR _ (lP.2 ⟨x,hx2,rfl⟩))) (by simp;exact hne x hx)];exact aj,e2.mono hu⟩
  rcases hx with hx|rfl|hx
  ·exact old (.inl hx)
  ·exact ⟨vs,⟨fz,by rw [hlv];exact hfz,setRow_heap w b us.toArray _ T fz h1⟩,hr.mono hu⟩
  exact old (.inr hx)
 rw [hbl];obtain ⟨us',aj,e3⟩:=h.row r hr2;exact ⟨us',aj.keep λg hgb=>hk.block g (h.lt g (gx _ (ky.2 ⟨r,hr2,hgb⟩))) (by simp;intro he;subst he;exact hrow r hr2 hgb),e3.mono hu⟩
theorem Ts(P:Program)(g o:Nat)(t:bA)(fz:Nat×Nat)(vs:List aN):∀(i:Nat)(cur:Array aN)(w:ab),w.heap[g]?=some (.cells cur t fz) -> fz=(0,0)∨cur.size <= fz.1 -> o+i+vs.length <= cur.size -> (∀v∈vs,v.oneCell'=true) ->
  (storeCells ⟨g,o,none⟩ vs i).run P w=.ok () (w.setRow g (cur.toList.take (o+i)++vs++cur.toList.drop (o+i+vs.length)).toArray):=by
 induction vs with
 |nil=>
  intro i cur w hg _ _ _;simp only [storeCells,eV,List.length_nil,vX,pT,zT];rw [setRow_self w g cur t fz hg]
  rfl
 |cons v rest ih=>
  intro i cur w hg hfz hl h1;have hi:o+i<cur.size:=by simp only [zE] at hl;omega
  have hcell:w.cell? ⟨g,o+i,none⟩=some cur[o+i]:=by simp [World.cell?,hg,hi]
  have hfro:w.frozen? ⟨g,o+i,none⟩=false:=by
   obtain ⟨lo,up⟩:=fz;simp only [World.frozen?,hg,Bool.and_eq_false_iff,decide_eq_false_iff_not];rcases hfz with h|h
   ·cases h;exact .inr Y
   dsimp only at h;exact .inl Y
  have hst:(store ((⟨g,o,none⟩:Addr).add i) v).run P w=.ok () (w.setRow g (cur.setIfInBounds (o+i) v)):=by
   rw [tO,run_store P w _ v _ (h1 v aL),hcell];simp [hfro,setCell_eq_setRow w g (o+i) cur t fz v hg]
  have e:=list_seg_step cur.toList (o+i) v rest (by simp only [zE] at hl;rw [rG];omega);have hn:=ih (i+1) (cur.setIfInBounds (o+i) v) (w.setRow g (cur.setIfInBounds (o+i) v)) (setRow_heap w g cur _ t _ hg) (by simpa using hfz) (by simp only [zE] at hl;rw [Array.size_setIfInBounds];omega) λx hx=>h1 x zu;simp only [storeCells,dI,hst,ei,hn,setRow_setRow]
  congr 3
  simpa [Array.toList_setIfInBounds,ra] using e
theorem Az{ty:bA}{x y:bb}{b off z:Nat}{T:bA}{cs ds r:List aO}{t:AT}(A:List aV){B:List aV}(ho:o.op=.store ty x y)(hd:o.dst=none)(hx:aw st x=some (.c (.val (.pointer (some ⟨b,off,none⟩)))))(hy:aw st y=some t)(hc:lV t=some ds)
  (hb:st.s.boxes=A++⟨b,T,cs⟩::B) (hS:∀w,(sizeOf ty).run P w=.ok z w) (hz:ds.length=z) (hl:off+z <= cs.length) (hr:splice cs off ds=r) (hT:b∈st.T) (hU:st.s.bl.Nodup -> b∈U)
  (h:K {st with s:=⟨A++⟨b,T,r⟩::B,st.s.rows⟩}):dZ P U o st K:=by
 intro a w hs KK QQ hK;subst hr;have hmem:(⟨b,T,cs⟩:aV)∈st.s.boxes:=uX;obtain ⟨us,⟨fz,hfz,h1⟩,h2⟩:=hs.mem.box _ hmem;have hv:=uq hc (hs.ev hy);have hlen:=hv.len;have hl2:us.length=cs.length:=h2.len;have hbl:(⟨A++⟨b,T,splice cs off ds⟩::B,st.s.rows⟩:aJ).bl=st.s.bl:=vV;have hbm:b∈st.s.bl:=vV;have hst:=Ts P b off T fz (a.eval y).cells.toList 0 us.toArray w h1 (by simpa using hfz) (by simp only [wH];omega) hv.one;simp only [vX,zT] at hst;have hk:=zI w b (us.take off++(a.eval y).cells.toList++us.drop (off+(a.eval y).cells.toList.length)).toArray;unfold Oper.wp;have hrun:(execOp a.eval o).run P w=.ok .skip (w.setRow b (us.take off++(a.eval y).cells.toList++us.drop (off+(a.eval y).cells.toList.length)).toArray):=by
  have hsz:(a.eval y).cells.size=z:=by rw [←rG,hlen,hz]
  simp only [execOp,ho,hs.val hx,Instr.storeAt,Instr.sureAddr,storeVar,dI,fj,ei,hS,hsz,ne_eq,not_true_eq_false,if_false];rw [hst];rfl
 rw [hrun,Oper.upon_skip,hd];have hm:=hs.mem.setRow hb hfz (by simp only [Ft,ke,kL];omega) h1 (h2.splice hv off);refine hK _ _ _ h (hs.step st.T (hk.mono so) hm (λx hx=>.inl sE)) ⟨hk.mono so,hk.mono AE,λx hx=>.inl sE,λx hx=>.inl hx⟩ (hk.mono yd)
def nK(place:Nat -> Option (Nat×Nat))(cells:List aO):List (Nat×AT) -> Option (List aO)
 |[]=>some cells
 |(i,t)::rest=>
  match place i,lV t with
  |some (off,z),some cs=>if cs.length=z /\ off+z <= cells.length then nK place (splice cells off cs) rest else none
  |_,_=>none
theorem RL(off:Nat)(vs:List aN)(cells:Array aN)(h:off+vs.length <= cells.size):((vs.zipIdx).foldl (λcs (x:aN×Nat)=>cs.setIfInBounds (off+x.2) x.1) cells).toList=cells.toList.take off++vs++cells.toList.drop (off+vs.length):=by
 obtain ⟨h1,h2⟩:=Great.foldl_set off vs 0 cells;generalize hF:(vs.zipIdx).foldl (λcs (x:aN×Nat)=>cs.setIfInBounds (off+x.2) x.1) cells=F at h1 h2;refine CC λk=>?_;have h3:=h2 k;rw [←nT] at h3;rw [h3];by_cases hk:k<off
 ·rw [if_neg Y,List.append_assoc,rJ dh,List.getElem?_take_of_lt hk];simp
 by_cases hk2:k<off+vs.length
 ·rw [if_pos ⟨Y,Y,Y⟩,List.append_assoc,pZ dh,rJ dh]
  congr 1;simp;omega
 rw [if_neg Y,pZ dh,qX];have e:off+vs.length+(k-(cells.toList.take off++vs).length)=k:=dh;rw [e];simp
theorem Ay{w:ab}{place:Nat -> Option (Nat×Nat)}{a:Act}:∀(ps:List (Nat×bb)) (ts:List (Nat×AT)) (cells:List aO) (us:Array aN) (r:List aO),ps.map Prod.fst=ts.map Prod.fst -> (∀i (h:i<ps.length) (h':i<ts.length),cU w ts[i].2 (a.eval ps[i].2)) -> dV w cells us.toList -> nK place cells ts=some r ->
  ∃vs:Array aN,Instr.fill place us (ps.map λx=>(x.1,a.eval x.2))=some vs /\ dV w r vs.toList
 |[],ts,cells,us,r,hf,_,hr,DM=>by
  cases ts with
  |nil=>cases DM;exact ⟨us,rfl,hr⟩
  |cons=>cases hf
 |(i,x)::ps,ts,cells,us,r,hf,hv,hr,DM=>by
  cases ts with
  |nil=>cases hf
  |cons p ts=>
   obtain ⟨j,t⟩:=p;simp only [dE,sV] at hf;obtain ⟨rfl,hf⟩:=hf;have hv0:cU w t (a.eval x):=hv 0 aL aL;simp only [nK] at DM;split at DM
   ·rename_i off z cs hp hc;split at DM
    ·rename_i hz;obtain ⟨hz1,hz2⟩:=hz;have hcr:=uq hc hv0;have hsz:(a.eval x).cells.size=z:=by rw [←rG,hcr.len,hz1]
     have hus:us.size=cells.length:=by rw [←rG,hr.len]
     have hfo:=RL off (a.eval x).cells.toList us dh;have hrep:=hr.splice hcr off;rw [←hfo] at hrep;obtain ⟨vs,h1,h2⟩:=Ay ps ts _ _ r hf (λk h h'=>hv (k+1) i_ (by simpa using h')) hrep DM;refine ⟨vs,?_,h2⟩;simp only [dE,Instr.fill,hp];rw [if_neg (by simp only [hsz];simp;omega)];rw [←h1]
     congr 1
     rw [←Array.foldl_toList]
     congr 1
     simp
    cases DM
   cases DM
inductive pp (st:AS):List (Nat×Operand) -> List (Nat×AT) -> Prop
 |nil:pp st [] []
 |cons {i:Nat} {x:Operand} {t:AT} {ps:List (Nat×Operand)} {ts:List (Nat×AT)} (h:aw st x=some t) (r:pp st ps ts):pp st ((i,x)::ps) ((i,t)::ts)
theorem pp.map{ps:List (Nat×bb)}{ts:List (Nat×AT)}(h:pp st ps ts):ps.map (λp=>(aw st p.2).map (Prod.mk p.1))=ts.map some:=by
 induction h with
 |nil=>rfl
 |cons h _ ih=>simp [h,ih]
theorem Fh{ps:List (Nat×bb)}{ts:List (Nat×AT)}(h:ps.map (λp=>(aw st p.2).map (Prod.mk p.1))=ts.map some):ps.map Prod.fst=ts.map Prod.fst /\ ∀i (h1:i<ps.length) (h2:i<ts.length),aw st ps[i].2=some ts[i].2:=by
 induction ps generalizing ts with
 |nil=>cases ts with|nil=>exact ⟨rfl,λi h=>absurd h aL⟩|cons=>cases h
 |cons p ps ih=>
  cases ts with
  |nil=>cases h
  |cons t ts=>
   simp only [dE,sV] at h;obtain ⟨h1,h2⟩:=ih h.2;have h3:=h.1;cases he:aw st p.2 with
   |none=>rw [he] at h3;cases h3
   |some u=>
    rw [he] at h3;simp only [oi,yV] at h3;subst h3;refine ⟨by simp [h1],λi hi hi2=>?_⟩;cases i with
    |zero=>exact he
    |succ i=>exact h2 i pW (by simpa using hi2)
theorem y_{t:bA}{fs:Array Field}(i:TypeInfo){z:aN}{parts:Array (Nat×bb)}{ps:List (Nat×AT)}(pl:List (Nat×Nat)){zc r:List aO}(ho:o.op=.build t parts)(hps:pp st parts.toList ps)
  (hu:P.underlying t=some (.struct fs)) (hi:P.info? t=some i) (hz:i.zero=some z) (hpl:fs.toList.mapM (λf=>(P.info? f.type).map λi=>(f.offset,i.size))=some pl) (hzc:lV (gb z)=some zc)
  (hf:nK (pl.toArray[·]?) zc ps=some r):co P U o st (.agg r):=by
 intro a w hs _;obtain ⟨h1,h2⟩:=Fh hps.map;obtain ⟨vs,aj,e2⟩:=Ay (w:=bj st.s.bl w) (a:=a) parts.toList ps zc z.cells r h1 (λi h h'=>hs.ev (h2 i h h')) (uq hzc (zS _ z)) hf;refine ⟨.agg vs,by simpa using cU.agg _ _ e2,λw' _=>?_⟩;have hb:P.built t (parts.map λp=>(p.1,a.eval p.2)).toList=some vs:=by
  unfold Program.built;rw [hi,hu];simp only [hz,hpl];rw [yS];exact aj
 simp only [execOp,ho,dI];rw [run_build w' t _ vs hb];rfl
theorem Ud{t e:bA}(i:TypeInfo){z:aN}{len:Nat}{parts:Array (Nat×bb)}{ps:List (Nat×AT)}{zc r:List aO}{d:Nat}(ho:o.op=.buildSlice t len parts)(hd:o.dst=some d)(hn:d<st.n)(hps:pp st parts.toList ps)
  (hu:P.underlying t=some (.slice e)) (hi:P.info? e=some i) (hz:i.zero=some z) (hsmall:¬len*i.size>2 ^ 24) (hpos:¬len*i.size=0) (hzc:(((Array.range (len*i.size)).map (z.cells[·% z.cells.size]!)).toList.all (·.oneCell'))=true) (hzr:((Array.range (len*i.size)).map (z.cells[·% z.cells.size]!)).toList.map .val=zc)
  (hf:nK (λk=>some (k*i.size,i.size)) zc ps=some r) (h:K {st with ts:=(d,.c (.sl len r))::st.ts}):dZ P U o st K:=by
 intro a w hs KK QQ hK;obtain ⟨h1,h2⟩:=Fh hps.map;subst hzr;obtain ⟨vs,aj,e2⟩:=Ay (w:=bj st.s.bl w) (a:=a) (place:=λk=>some (k*i.size,i.size)) parts.toList ps _ ((Array.range (len*i.size)).map (z.cells[·% z.cells.size]!)) r h1 (λi h h'=>hs.ev (h2 i h h')) (nc _ _ λu hu=>OT) hf
 unfold Oper.wp;have hrun:(execOp a.eval o).run P w=.ok (.value (.slice (some ⟨w.heap.size,0,none⟩) len len)) (w.alloc (.cells vs e)):=by
  simp only [execOp,ho,dI];rw [run_buildSlice w t e len _ vs i z hu hi hz hsmall hpos (by rw [yS];exact aj)];rfl
 rw [hrun,Oper.upon_value,hd];have hk:cQ [] w (w.alloc (.cells vs e)):=(cQ.refl _ _).alloc _;have hub:f7 (bj st.s.bl w) (bj st.s.bl (w.alloc (.cells vs e))):=lb hk jM (λb h=>.inl h);obtain ⟨m1,m2⟩:=hs.mem.up hub EM;have hm:Mem st.s (w.alloc (.cells vs e)):=⟨hs.mem.nodup,λb hb=>mK (hs.mem.lt b hb) hk.size,m1,m2⟩;have s1:=hs.step (w1:=w.alloc (.cells vs e)) st.T (hk.mono aL) hm (λb hb=>.inl hb);have Ok:len <= 16777216:=by
  have h1:0<i.size:=Nat.pos_of_ne_zero λh0=>hpos Bz;have h2:=Nat.le_mul_of_pos_right len h1;omega
 have hrow:cU (bj st.s.bl (w.alloc (.cells vs e))) (.c (.sl len r)) (.slice (some ⟨w.heap.size,0,none⟩) len len):=by
  refine .c _ _ (.sl _ _ vs.toList _ ?_ e2.len (λi h h'=>(e2.at_ i h h').mono hub) (λ_ _ _ h=>by cases h;have:=Ok;omega));have:=d_.aIa st.s.bl w vs.toList e len w.heap.size rfl hs.mem.lt;rw [zT] at this;exact this
 exact hK _ _ _ h (s1.put hn hrow) ⟨hk.mono aL,hk.mono aL,λb hb=>.inl hb,λb hb=>.inl hb⟩ (hk.mono aL)
end
end
section
open Go.RowKit
section
variable {P:Program}{U:List Nat}{o:Oper}{st:AS}{K:AS -> Prop}
theorem CF{u:aN}{g:Nat}:g∈aR u↔u.ownBlock=some g:=by
 unfold aR;cases h:u.ownBlock with
 |none=>simp
 |some k=>simp [eq_comm]
theorem Vo(u:aN):(aR u).Nodup:=by unfold aR;cases u.ownBlock<;>simp
theorem Qd{L r r' R:List Nat}{N:Nat}(h:(L++(r++R)).Nodup)(hr:∀b,b∈r' -> b∈r∨N <= b)(hlt:∀b,b∈L++(r++R) -> b<N)(hn:r'.Nodup):(L++(r'++R)).Nodup:=by
 simp only [eN,nO] at h hlt⊢;obtain ⟨h1,⟨h2,h3,h4⟩,h5⟩:=h;refine ⟨h1,⟨hn,h3,λa ha b hb=>?_⟩,λa ha b hb=>?_⟩
 ·rcases hr a ha with h6|h6
  ·exact h4 a h6 b hb
  have:=hlt b (.inr (.inr hb));omega
 rcases hb with hb|hb
 ·rcases hr b hb with h6|h6
  ·exact h5 a ha b (.inl h6)
  have:=hlt a (.inl ha);omega
 exact h5 a ha b (.inr hb)
theorem DL(bx:List aV)(A B:List aP)(r:aP):(⟨bx,A++r::B⟩:aJ).bl=(bx.map aV.b++A.flatMap λr=>aR r.v)++(aR r.v++B.flatMap λr=>aR r.v):=by unfold aJ.bl;simp
theorem GC{e:bA}{d n m z:Nat}{v:aN}{cs ds:List aO}(A:List aP){B:List aP}(hd:o.dst=some d)(hn:d<st.n)
  (hrow:st.s.rows=A++⟨v,e,z,n,cs⟩::B) (hz9:0<z)
  (hy:∀a w,ep st a w -> ∀us,w.ownsRow 0 e z v n us -> ∃ys,dV (bj st.s.bl w) ds ys /\ ∀(KK:Act -> ab -> Prop)(QQ:Exit -> Act -> ab -> Prop),(∀v' w',w'.ownsRow 0 e z v' (n+m) (us++ys) -> w.grownBy w' v.ownBlock -> (∀g,v'.ownBlock=some g -> v.ownBlock=some g∨w.heap.size <= g) -> KK (a.put o.dst v') w') -> o.wp P a w KK QQ)
  (hU:st.s.bl.Nodup -> ∀b,b∈aR v -> b∈U) (hT:∀b,b∈aR v -> b∈st.T)
  (h:∀v',K {st with s:=⟨st.s.boxes,A++⟨v',e,z,n+m,cs++ds⟩::B⟩,T:=aR v'++st.T,ts:=(d,.c (.val v'))::st.ts}):dZ P U o st K:=by
 intro a w hs KK QQ hK;obtain ⟨us,la,hrep⟩:=hs.mem.row ⟨v,e,z,n,cs⟩ tF;have hown:=la.row hz9;obtain ⟨ys,DE,hgo⟩:=hy a w hs us hown
 skip
 refine hgo KK QQ ?_;intro v' w' hown' hgrow hfr;have hkr:cQ (aR v) w w':=⟨hgrow.os,hgrow.tape,hgrow.output,hgrow.size,λk hk hn=>hgrow.block k hk (λhe=>hn (CF.2 he.symm))⟩;have hfr2:∀g,g∈aR v' -> g∈aR v∨w.heap.size <= g:=λg hg=>(hfr g (CF.1 hg)).imp CF.2 id;have aHg:st.s.bl=(st.s.boxes.map aV.b++A.flatMap λr=>aR r.v)++(aR v++B.flatMap λr=>aR r.v):=by have:=DL st.s.boxes A B ⟨v,e,z,n,cs⟩;rw [←hrow] at this;exact this
 have hbl1:=DL st.s.boxes A B ⟨v',e,z,n+m,cs++ds⟩;generalize hs1:(⟨st.s.boxes,A++⟨v',e,z,n+m,cs++ds⟩::B⟩:aJ)=s1 at hbl1;have hvb:∀g,g∈aR v -> g∈st.s.bl:=λg hg=>by rw [aHg];simp [hg]
 have hsub:∀g,g∈s1.bl -> g∈st.s.bl∨w.heap.size <= g:=λg hg=>by
  rw [hbl1] at hg;rw [aHg];simp only [nO] at hg⊢;rcases hg with (hg|hg)|hg|hg
  ·exact .inl (.inl (.inl hg))
  ·exact .inl (.inl (.inr hg))
  ·rcases hfr2 g hg with hg|hg
   ·exact .inl (.inr (.inl hg))
   exact .inr hg
  exact .inl (.inr (.inr hg))
 have hkb:cQ st.s.bl w w':=hkr.mono hvb;have hup:f7 (bj st.s.bl w) (bj s1.bl w'):=lb hkb (λ_ h=>h) hsub;have hnd:=hs.mem.nodup;rw [aHg] at hnd;have aGz:∀g,g∈(st.s.boxes.map aV.b++A.flatMap λr=>aR r.v)++(aR v++B.flatMap λr=>aR r.v) -> g<w.heap.size:=by rw [←aHg];exact hs.mem.lt
 have aQy:s1.bl.Nodup:=by rw [hbl1];exact Qd hnd hfr2 aGz (Vo _)
 have aQz:∀g,g∈aR v' -> g<w'.heap.size:=λg hg=>J6 hown' (CF.1 hg);have hmem:Mem s1 w':=by
  refine ⟨aQy,λg hg=>?_,λbx hbx=>?_,λr hr=>?_⟩
  ·rw [hbl1] at hg;simp only [nO] at hg;rcases hg with (hg|hg)|hg|hg
   ·exact mK (aGz g (by simp [hg])) hkb.size
   ·exact mK (aGz g (by simp only [nO];exact .inl (.inr hg))) hkb.size
   ·exact aQz g hg
   exact mK (aGz g (by simp only [nO];exact .inr (.inr hg))) hkb.size
  ·have aNc:bx∈st.s.boxes:=by rw [←hs1] at hbx;exact hbx
   obtain ⟨us',aj,e2⟩:=hs.mem.box bx aNc;have hbb:bx.b∈st.s.boxes.map aV.b:=lP.2 ⟨bx,aNc,J⟩;refine ⟨us',?_,e2.mono hup⟩;rw [hkr.block _ (aGz _ (by simp only [nO];exact .inl (.inl hbb))) (λhm=>?_)]
   ·exact aj
   exact (eN.1 hnd).2.2 bx.b (gR _ hbb) bx.b (gR _ hm) J
  rw [←hs1] at hr;simp only [nO,oo] at hr;have old:r∈A∨r∈B -> ∃us,pG w' r us /\ dV (bj s1.bl w') r.cs us:=λhr=>by
   obtain ⟨us',aj,e2⟩:=hs.mem.row r (by rw [hrow];simp only [nO,oo];rcases hr with h|h;exact .inl h;exact .inr (.inr h));refine ⟨us',aj.keep λg hg=>?_,e2.mono hup⟩;refine hkr.block g ?_ λhm=>?_
   ·rcases hr with hr|hr
    ·exact aGz g (by simp only [nO];exact .inl (.inr (ky.2 ⟨r,hr,hg⟩)))
    exact aGz g (by simp only [nO];exact .inr (.inr (ky.2 ⟨r,hr,hg⟩)))
   rcases hr with hr|hr
   ·exact (eN.1 hnd).2.2 g (gx _ (ky.2 ⟨r,hr,hg⟩)) g (gR _ hm) J
   exact (eN.1 (eN.1 hnd).2.1).2.2 g hm g (ky.2 ⟨r,hr,hg⟩) J
  rcases hr with hr|rfl|hr
  ·exact old (.inl hr)
  ·exact ⟨us++ys,.inl hown',(hrep.mono hup).app (DE.mono hup)⟩
  exact old (.inr hr)
 have s2:=hs.step (aR v'++st.T) hkb hmem hsub;rw [hd];have h9:=h v';rw [hs1] at h9;have h1c:v'.oneCell'=true:=by obtain ⟨_,_,he⟩:=yp hown';rw [he];rfl
 refine hK _ _ _ h9 (s2.put (v:=v') hn (.c _ _ (.val _ h1c))) ⟨hkb,hkr.mono hT,hsub,λg hg=>?_⟩ (hkr.mono (hU hs.mem.nodup));rcases nO.1 hg with hg|hg
 ·exact (hfr2 g hg).imp (hT g) id
 exact .inl hg
theorem Hj{t e:bA}{x y:bb}{d n m z bytes:Nat}{v zv:aN}{cs ds:List aO}{i:TypeInfo}(A:List aP){B:List aP}(ho:o.op=.call {callee:=.builtin .append,args:=#[x,y],argTypes:=#[t,t]})(hd:o.dst=some d)(hn:d<st.n)
  (hx:aw st x=some (.c (.val v))) (hrow:st.s.rows=A++⟨v,e,z,n,cs⟩::B) (hy:aw st y=some (.c (.sl m ds))) (hu:P.underlying t=some (.slice e)) (hi:P.info? e=some i) (hz:i.zero=some zv) (hsz:i.size=z) (hby:i.bytes=bytes) (hzs:zv.cells.size=z) (h0:0<z)
  (hm:ds.length=m*z) (hm0:0<m) (hlen:n+m <= maxLen) (hbytes:(n+m)*bytes <= 140737488355328) (hU:st.s.bl.Nodup -> ∀b,b∈aR v -> b∈U) (hT:∀b,b∈aR v -> b∈st.T)
  (h:∀v',K {st with s:=⟨st.s.boxes,A++⟨v',e,z,n+m,cs++ds⟩::B⟩,T:=aR v'++st.T,ts:=(d,.c (.val v'))::st.ts}):dZ P U o st K:=by
 refine GC A hd hn hrow h0 (λa w hs us hown=>?_) hU hT h;have hye:=hs.ev hy;generalize hyv:a.eval y=yv at hye;cases hye with
 |c _ _ hye=>cases hye with
  |sl _ _ ys _ hra hyl hyr=>
   obtain ⟨p,cap,rfl,-,hra⟩:=hra;rcases hra with rfl|⟨b,of,rfl,hc⟩
   ·simp at hyl;have:0<m*z:=Nat.mul_pos hm0 h0;omega
   have DE:dV (bj st.s.bl w) ds ys:=⟨hyl,hyr⟩;exact ⟨ys,DE,λKK QQ hK=>JC w x y t ho 0 e i zv z bytes hu hi hz hsz hby hzs h0 v n us (hs.val hx) hown ⟨b,of,none⟩ m cap ys hyv (by rw [hyl,hm]) (λj u hj=>by rw [tO];exact (pY (hc j u hj)).1) DE.one hlen hbytes (eT _) hK⟩
theorem pV{a:Act}{w:ab}(hs:ep st a w):∀{ps:List bb} {ts:List AT},ps.map (aw st)=ts.map some -> (ps.map a.eval).length=ts.length /\ ∀i (h:i<ts.length) (h':i<(ps.map a.eval).length),cU (bj st.s.bl w) ts[i] (ps.map a.eval)[i]
 |[],ts,h=>by cases ts with|nil=>exact ⟨rfl,λi h=>absurd h aL⟩|cons=>cases h
 |p::ps,ts,h=>by
  cases ts with
  |nil=>cases h
  |cons t ts=>
   simp only [dE,sV] at h;obtain ⟨h1,h2⟩:=pV hs h.2;refine ⟨sn,λi hi hi2=>?_⟩;cases i with
   |zero=>exact hs.ev h.1
   |succ i=>exact h2 i pW (by simpa using hi2)
theorem BE{F:FuncId}{d:Nat}{vs:List aN}{ts:List AT}{T':List Nat}{Q:AT -> aJ -> Prop}{a:Act}{w:ab}(hs:ep st a w)(hd:o.dst=some d)(hn:d<st.n)(hl:vs.length=ts.length)(hv:∀i (h:i<ts.length) (h':i<vs.length),cU (bj st.s.bl w) ts[i] vs[i])
  (hrun:(execOp a.eval o).run P w=.ok (.enter F vs.toArray) w) (hc:aU P F ts T' st.s Q) (hT:∀b,b∈T' -> b∈st.T) (rg:∀b,b∈T' -> b∈st.s.bl) (hU:st.s.bl.Nodup -> ∀b,b∈T' -> b∈U)
  (h:∀r s',Q r s' -> K {st with s:=s',ts:=(d,r)::st.ts}) (KK:Act -> ab -> Prop) (QQ:Exit -> Act -> ab -> Prop) (hK:∀a' w' st',K st' -> ep st' a' w' -> iP st w st' w' -> cQ U w w' -> KK a' w'):o.wp P a w KK QQ:=by
 unfold Oper.wp;rw [hrun,Oper.upon_enter];refine (hc vs w hs.mem rg hl hv).mono ?_;rintro en w' ⟨r,v,s',rfl,hq,hr,hm,hk,hb⟩;dsimp only;rw [hd];have s1:=hs.step st.T (hk.mono rg) hm hb;exact hK _ _ _ (h r s' hq) (s1.put hn hr) ⟨hk.mono rg,hk.mono hT,hb,λb hb=>.inl hb⟩ (hk.mono (hU hs.mem.nodup))
theorem Rl{F:FuncId}{d:Nat}{ks:Array bb}{ph:Array bA}{ts:List AT}(T':List Nat){Q:AT -> aJ -> Prop}(ho:o.op=.call {callee:=.value (.func F),args:=ks,argTypes:=ph})(hd:o.dst=some d)(hn:d<st.n)
  (hcf:∀args w,(callFunc F args).run P w=.ok (.enter F args) w) (has:ks.toList.map (aw st)=ts.map some) (hc:aU P F ts T' st.s Q) (hT:∀b,b∈T' -> b∈st.T) (rg:∀b,b∈T' -> b∈st.s.bl) (hU:st.s.bl.Nodup -> ∀b,b∈T' -> b∈U)
  (h:∀r s',Q r s' -> K {st with s:=s',ts:=(d,r)::st.ts}):dZ P U o st K:=by
 intro a w hs KK QQ hK;obtain ⟨h1,h2⟩:=pV hs has;refine BE hs hd hn h1 h2 ?_ hc hT rg hU h KK QQ hK;simp only [execOp,ho,resolve,Deferred.ofValue,Act.eval,dI,fj,ei,invoke];rw [hcf]
 congr 2
 rw [←oj];simp
theorem BR{w:ab}{ts us:List AT}{vs xs:List aN}(h1:vs.length=ts.length)(h2:∀i (h:i<ts.length) (h':i<vs.length),cU w ts[i] vs[i])(k1:xs.length=us.length)(k2:∀i (h:i<us.length) (h':i<xs.length),cU w us[i] xs[i]):
  (vs++xs).length=(ts++us).length /\ ∀i (h:i<(ts++us).length) (h':i<(vs++xs).length),cU w (ts++us)[i] (vs++xs)[i]:=by
 refine ⟨by simp [h1,k1],λi hi hi'=>?_⟩;rcases jv i ts.length with h|h
 ·rw [rD h,rD (by rw [h1];exact h)];exact h2 _ _ _
 rw [qz h,qz (by rw [h1];exact h)];simp only [h1];exact k2 _ (by simp at hi;omega) (by simp at hi';omega)
theorem Ck(w:ab)(vs:List aN):vs.length=(vs.map gb).length /\ ∀i (h:i<(vs.map gb).length) (h':i<vs.length),cU w (vs.map gb)[i] vs[i]:=⟨aL,λi h h'=>by simp only [rE];exact zS _ _⟩
def ml(P:Program)(st:AS)(rv:ResultVar)(r:AT):Prop:=∀a w,ep st a w -> ∃v,cU (bj st.s.bl w) r v /\ ((match rv with|.tmp t=>pure (a.tmps.getD t undef)|.cell x t=>do loadVar t (←asAddr (a.tmps.getD x undef))):Sem Value).run P w=.ok v w
theorem bN{t:Tmp}{r:AT}(h:look st.ts t=some r):ml P st (.tmp t) r:=λa w hs=>by
 obtain ⟨v,h1,h2⟩:=hs.tm t r h;exact ⟨v,h2,by simp only [fj,jQ,h1,we]⟩
theorem bu{x:Tmp}{ty:bA}{r:AT}{b off z:Nat}{T:bA}{cs:List aO}{ag:Bool}(A:List aV){B:List aV}(h:look st.ts x=some (.c (.val (.pointer (some ⟨b,off,none⟩)))))(hb:st.s.boxes=A++⟨b,T,cs⟩::B)
  (hA:∀w,(isAgg ty).run P w=.ok ag w) (hS:∀w,(sizeOf ty).run P w=.ok z w) (hp:fg ag z cs off=some r):ml P st (.cell x ty) r:=λa w hs=>by
 obtain ⟨v,h1,h2⟩:=hs.tm x _ h;have:=h2.val;subst this;obtain ⟨us,⟨fz,-,h3⟩,h4⟩:=hs.mem.box ⟨b,T,cs⟩ uX;obtain ⟨v,hv,hl⟩:=Ak (P:=P) (b:=b) (o:=0) hA hS h4 hp;refine ⟨v,hv,?_⟩;have hl2:=hl w (λj u hj=>by unfold World.cell?;simp only [h3];simpa using hj);simp only [cp] at hl2;simp only [jQ,h1,we,asAddr,dI,fj,ei,hl2]
theorem fY{fn:Func}(h:fn.results=#[]):oB P fn st (.fd []):=λa w hs=>⟨.tuple #[],.fd [] [] rfl GD,results_none h _ _ _⟩
theorem WU{f:ResultVar -> Sem aN}{r1:ResultVar}{v1:aN}{w:ab}(aj:(f r1).run P w=.ok v1 w):(#[r1].mapM f).run P w=.ok #[v1] w:=by
 simp [dI,aj]
theorem Uu{f:ResultVar -> Sem aN}{r1 r2:ResultVar}{v1 v2:aN}{w:ab}(aj:(f r1).run P w=.ok v1 w)(e2:(f r2).run P w=.ok v2 w):(#[r1,r2].mapM f).run P w=.ok #[v1,v2] w:=by
 simp [dI,aj,e2]
theorem X'{f:ResultVar -> Sem aN}{r1 r2 r3:ResultVar}{v1 v2 v3:aN}{w:ab}(aj:(f r1).run P w=.ok v1 w)(e2:(f r2).run P w=.ok v2 w)(e3:(f r3).run P w=.ok v3 w):(#[r1,r2,r3].mapM f).run P w=.ok #[v1,v2,v3] w:=by
 simp [dI,aj,e2,e3]
theorem bK{fn:Func}{rv:ResultVar}{r:AT}(h:fn.results=#[rv])(h1:ml P st rv r):oB P fn st r:=λa w hs=>by
 obtain ⟨v,aj,e2⟩:=h1 a w hs;refine ⟨v,aj,?_⟩;unfold results;rw [h,dI]
 erw [WU e2]
 simp [go_sem]
theorem Wb{w:ab}{r1 r2:AT}{v1 v2:aN}(h1:cU w r1 v1)(h2:cU w r2 v2):cU w (.fd [r1,r2]) (.tuple #[v1,v2]):=
 .fd [r1,r2] [v1,v2] rfl λi h h'=>by rcases i with _|_|i;exact h1;exact h2;simp at h;omega
theorem XG{w:ab}{r1 r2 r3:AT}{v1 v2 v3:aN}(h1:cU w r1 v1)(h2:cU w r2 v2)(h3:cU w r3 v3):cU w (.fd [r1,r2,r3]) (.tuple #[v1,v2,v3]):=
 .fd [r1,r2,r3] [v1,v2,v3] rfl λi h h'=>by rcases i with _|_|_|i;exact h1;exact h2;exact h3;simp at h;omega
theorem iu{fn:Func}{rv1 rv2:ResultVar}{r1 r2:AT}(h:fn.results=#[rv1,rv2])(h1:ml P st rv1 r1)(h2:ml P st rv2 r2):oB P fn st (.fd [r1,r2]):=λa w hs=>by
 obtain ⟨v1,aj,f1⟩:=h1 a w hs;obtain ⟨v2,e2,f2⟩:=h2 a w hs;refine ⟨_,Wb aj e2,?_⟩;unfold results;rw [h,dI]
 erw [Uu f1 f2]
 simp [go_sem]
theorem ru{fn:Func}{rv1 rv2 rv3:ResultVar}{r1 r2 r3:AT}(h:fn.results=#[rv1,rv2,rv3])(h1:ml P st rv1 r1)(h2:ml P st rv2 r2)(h3:ml P st rv3 r3):oB P fn st (.fd [r1,r2,r3]):=λa w hs=>by
 obtain ⟨v1,aj,f1⟩:=h1 a w hs;obtain ⟨v2,e2,f2⟩:=h2 a w hs;obtain ⟨v3,e3,f3⟩:=h3 a w hs;refine ⟨_,XG aj e2 e3,?_⟩;unfold results;rw [h,dI]
 erw [X' f1 f2 f3]
 simp [go_sem]
def bL(r r':AT):Prop:=∀w v,cU w r v -> cU w r' v
def wz(x y:aO):Prop:=∀w v,jn w x v -> jn w y v
theorem wz.refl(x:aO):wz x x:=λ_ _ h=>h
theorem pu:wz (.val (.slice none 0 0)) (.sl 0 []):=λw v h=>by cases h;exact .sl 0 [] [] _ (d_.nil w) rfl GD (λ_ _ _ h=>by cases h;decide)
theorem bL.refl(r:AT):bL r r:=λ_ _ h=>h
theorem bL.c{x y:aO}(h:wz x y):bL (.c x) (.c y):=λw v hr=>by cases hr with|c _ _ hr=>exact .c _ _ (h _ _ hr)
inductive mY:List aO -> List aO -> Prop
 |nil:mY [] []
 |cons {x y:aO} {xs ys:List aO} (h:wz x y) (t:mY xs ys):mY (x::xs) (y::ys)
theorem mY.refl:∀xs:List aO,mY xs xs
 |[]=>.nil
 |x::xs=>.cons (.refl x) (mY.refl xs)
theorem mY.rep{w:ab}{xs ys:List aO}(h:mY xs ys):∀{us:List aN},dV w xs us -> dV w ys us:=by
 induction h with
 |nil=>exact λh=>h
 |cons h t ih=>
  intro us hr;cases us with
  |nil=>have:=hr.len;simp at this
  |cons u us=>exact .cons (h _ _ (hr.at_ 0 aL aL)) (ih ⟨by have:=hr.len;simpa using this,λi h1 h2=>hr.at_ (i+1) sn pf⟩)
theorem bL.agg{xs ys:List aO}(h:mY xs ys):bL (.agg xs) (.agg ys):=λw v hr=>by cases hr with|agg _ us hr=>exact .agg _ _ (h.rep hr)
theorem gK{fn:Func}{r r':AT}(h:bL r r')(hr:oB P fn st r):oB P fn st r':=λa w hs=>let ⟨v,aj,e2⟩:=hr a w hs;⟨v,h _ _ aj,e2⟩
theorem V5:Sub st {st with ts:=[]}:=λa w h=>⟨⟨h.df,h.sz,λi t ht=>(by cases ht),h.mem⟩,λ_ h=>h,λ_ h=>h⟩
theorem ay{i:Nat}{t u:AT}{ts:List (Nat×AT)}(hl:look st.ts i=some u)(hw:bL u t)(h:Sub st {st with ts:=ts}):Sub st {st with ts:=(i,t)::ts}:=λa w hs=>by
 obtain ⟨h1,h2,h3⟩:=h a w hs;refine ⟨⟨h1.df,h1.sz,λj x hx=>?_,h1.mem⟩,h2,h3⟩;simp only [look] at hx;split at hx
 ·rename_i he;subst he;cases hx;obtain ⟨v,aj,e2⟩:=hs.tm i u hl;exact ⟨v,aj,hw _ _ e2⟩
 exact h1.tm j x hx
theorem VL(T':List Nat)(h:∀b,b∈T' -> b∈st.T):Sub st {st with T:=T'}:=λa w hs=>⟨⟨hs.df,hs.sz,hs.tm,hs.mem⟩,λ_ h=>h,h⟩
theorem qx{s':aJ}(h:jj st.s s'):Sub st {st with s:=s'}:=λa w hs=>by
 obtain ⟨h1,h2⟩:=h w hs.mem;exact ⟨⟨hs.df,hs.sz,λi t ht=>let ⟨v,aj,e2⟩:=hs.tm i t ht;⟨v,aj,e2.mono (up_sub h2) (BK (bX _))⟩,h1⟩,h2,λ_ h=>h⟩
theorem MU(E:bA)(z:Nat):Sub st {st with s:=⟨st.s.boxes,⟨.slice none 0 0,E,z,0,[]⟩::st.s.rows⟩}:=λa w hs=>by
 have hbl:(⟨st.s.boxes,⟨.slice none 0 0,E,z,0,[]⟩::st.s.rows⟩:aJ).bl=st.s.bl:=Hr;refine ⟨⟨hs.df,hs.sz,?_,?_,?_,?_,?_⟩,?_,λ_ h=>h⟩
 ·rw [hbl];exact hs.tm
 ·rw [hbl];exact hs.mem.nodup
 ·rw [hbl];exact hs.mem.lt
 ·rw [hbl];exact hs.mem.box
 ·rw [hbl];intro r hr;rcases oo.1 hr with rfl|hr
  ·exact ⟨[],.inl (ownsRow_nil _ _ _ _),.nil _⟩
  exact hs.mem.row r hr
 rw [hbl];exact λ_ h=>h
theorem A9{w:ab}{base:Nat}{e:bA}{size:Nat}{v:aN}{n:Nat}{xs:List aN}(h:w.ownsRow base e size v n xs):∀a k c,v=.slice a k c -> c <= 9223372036854775807:=by
 rintro a k c rfl;rcases h.2 with ⟨h1,_⟩|⟨g,cap,cur,h1,_,_,_,h2,_⟩
 ·cases h1;decide
 cases h1;unfold maxLen at h2;omega
theorem Hc{A B:List aP}{v:aN}{E:bA}{z n:Nat}{cs:List aO}(i:Nat)(hi:look st.ts i=some (.c (.val v)))(hrow:st.s.rows=A++⟨v,E,z,n,cs⟩::B)(hz:0<z:=by decide):Sub st {st with s:=⟨st.s.boxes,A++B⟩,ts:=(i,.c (.sl n cs))::st.ts}:=λa w hs=>by
 have hsub:jj st.s ⟨st.s.boxes,A++B⟩:=ai (xI _) (by rw [hrow];exact Dw (xI _) (zR _ _));obtain ⟨h1,h2,h3⟩:=qx hsub a w hs;refine ⟨⟨h1.df,h1.sz,λj x hx=>?_,h1.mem⟩,h2,h3⟩;simp only [look] at hx;split at hx
 ·rename_i he;subst he;cases hx;obtain ⟨u,aj,e2⟩:=hs.tm i _ hi;have:=e2.val;subst this;obtain ⟨us,la,hrep⟩:=hs.mem.row ⟨u,E,z,n,cs⟩ tF;have hown:=la.row hz;refine ⟨u,aj,.c _ _ (.sl _ _ us _ ?_ hrep.len (λk h h'=>(hrep.at_ k h h').mono (up_sub h2)) (A9 hown))⟩;obtain ⟨p,cap,he,hc,hr⟩:=d_.DS hown;refine ⟨p,cap,he,hc,?_⟩;rcases hr with h0|⟨b,off,rfl,hr⟩
  ·exact .inl h0
  refine .inr ⟨b,off,J,λj x hj=>?_⟩;have hbv:b∈aR u:=by have he2:u=.slice (some ⟨b,off,none⟩) n cap:=he;rw [he2];simp [aR,Value.ownBlock]
  rw [pH]
  ·exact hr j x hj
  intro hm;have hnd:=hs.mem.nodup;have aHg:st.s.bl=(st.s.boxes.map aV.b++A.flatMap λr=>aR r.v)++(aR u++B.flatMap λr=>aR r.v):=by have:=DL st.s.boxes A B ⟨u,E,z,n,cs⟩;rw [←hrow] at this;exact this
  rw [aHg] at hnd;have hm2:b∈(st.s.boxes.map aV.b++A.flatMap λr=>aR r.v)∨b∈B.flatMap λr=>aR r.v:=by
   unfold aJ.bl at hm;simp only [dj,nO] at hm⊢;rcases hm with h|h|h
   ·exact .inl (.inl h)
   ·exact .inl (.inr h)
   exact .inr h
  rcases hm2 with hm2|hm2
  ·exact (eN.1 hnd).2.2 b hm2 b (gR _ hbv) J
  exact (eN.1 (eN.1 hnd).2.1).2.2 b hbv b hm2 J
 exact h1.tm j x hx
end
end
section
open Go.RowKit
section
variable {P:Program}{ops:Array Oper}{U Z:List Nat}{o:Oper}{l:List Oper}{n d:Nat}{T:List Nat}{s:aJ}{bx:List aV}{rw:List aP}{ts:List (Nat×AT)}{t:AT}{Q:Exit -> AS -> Prop}{KK:AS -> Prop}{K:AS -> Prop}
theorem B'(hw:eJ ops o ⟨n,T,s,ts⟩=some true)(hd:o.dst=some d)(hn:d<n)(hy:co P [] o ⟨n,T,s,ts⟩ t)(h:cO P ops l ⟨n,T,s,(d,t)::ts⟩ Q):cO P ops (o::l) ⟨n,T,s,ts⟩ Q:=Vd hw hd hn hy h
theorem Sz(hw:eJ ops o ⟨n,T,s,ts⟩=some false)(hd:o.dst=some d)(hn:d<n)(h:cO P ops l ⟨n,T,s,(d,.raw undef)::ts⟩ Q):cO P ops (o::l) ⟨n,T,s,ts⟩ Q:=Vz hw hd hn h
theorem aX(hw:eJ ops o ⟨n,T,s,ts⟩=some true)(h:dZ P T o ⟨n,T,s,ts⟩ λs=>cO P ops l s Q):cO P ops (o::l) ⟨n,T,s,ts⟩ Q:=Ye hw h
theorem VO(i:Nat){fuel:Nat}{listed:Array Bool}(hr:(Region.ready .any ops listed).contains i=true)(hi:ops.toList[i]?=some o)(hf:Region.free .any ops listed i=true)(hsel:Region.noSelect ops=true)(hw:eJ ops o ⟨n,T,s,ts⟩=some true)(hd:o.dst=some d)(hn:d<n)(hy:co P (fe s Z) o ⟨n,T,s,ts⟩ t)
  (h:dr P ops Z fuel (listed.setIfInBounds i true) ⟨n,T,s,(d,t)::ts⟩ K):dr P ops Z (fuel+1) listed ⟨n,T,s,ts⟩ K:=PV i hr hi hf hsel hw hd hn hy h
theorem one(i:Nat){fuel:Nat}{listed:Array Bool}(hr:Region.ready .any ops listed=[i])(hi:ops.toList[i]?=some o)(hw:eJ ops o ⟨n,T,s,ts⟩=some true)
  (h:dZ P (fe s Z) o ⟨n,T,s,ts⟩ λs=>dr P ops Z fuel (listed.setIfInBounds i true) s K):dr P ops Z (fuel+1) listed ⟨n,T,s,ts⟩ K:=B4 hr rfl (vA hi hw h Bd)
theorem two(i j:Nat){o2:Oper}{fuel:Nat}{listed:Array Bool}(hr:Region.ready .any ops listed=[i,j])(hi:ops.toList[i]?=some o)(hw:eJ ops o ⟨n,T,s,ts⟩=some true)(hi2:ops.toList[j]?=some o2)(hw2:eJ ops o2 ⟨n,T,s,ts⟩=some true)
  (h:dZ P (fe s Z) o ⟨n,T,s,ts⟩ λs=>dr P ops Z fuel (listed.setIfInBounds i true) s K) (h2:dZ P (fe s Z) o2 ⟨n,T,s,ts⟩ λs=>dr P ops Z fuel (listed.setIfInBounds j true) s K):dr P ops Z (fuel+1) listed ⟨n,T,s,ts⟩ K:=
 B4 hr rfl (vA hi hw h (vA hi2 hw2 h2 Bd))
theorem Qt{st:AS}(hd:o.dst=some d)(hn:d<st.n)(hy:co P [] o st t)(h:K {st with ts:=(d,t)::st.ts}):dZ P U o st K:=by
 intro a w hs KK QQ hK;obtain ⟨v,hr,hx⟩:=hy a w hs jM;unfold Oper.wp;rw [hx w (cQ.refl _ _),Oper.upon_value,hd];exact hK _ _ _ h (hs.put hn hr) ⟨cQ.refl _ _,cQ.refl _ _,λb hb=>.inl hb,λb hb=>.inl hb⟩ (cQ.refl _ _)
theorem Mc{E:bA}{x:bb}{cs:List aO}(ho:o.op=.box E x)(hd:o.dst=some d)(hn:d<n)(hx:aw ⟨n,T,⟨bx,rw⟩,ts⟩ x=some t)(hc:lV t=some cs)
  (h:∀b,K ⟨n,b::T,⟨⟨b,E,cs⟩::bx,rw⟩,(d,.c (.val (.pointer (some ⟨b,0,none⟩))))::ts⟩):dZ P U o ⟨n,T,⟨bx,rw⟩,ts⟩ K:=Xv ho hd hn hx hc h
theorem jm{E:bA}{z:aN}{cs:List aO}(ho:o.op=.alloc E)(hd:o.dst=some d)(hn:d<n)(hz:∀w,(zeroValue E).run P w=.ok z w)(hc:lV (gb z)=some cs)
  (h:∀b,K ⟨n,b::T,⟨⟨b,E,cs⟩::bx,rw⟩,(d,.c (.val (.pointer (some ⟨b,0,none⟩))))::ts⟩):dZ P U o ⟨n,T,⟨bx,rw⟩,ts⟩ K:=Tm ho hd hn hz hc h
section
variable {ty E:TypeId}{x y:Operand}{b off z:Nat}{cs ds r:List aO}{A B:List aV}{x1 x2 x3 x4:aV}
theorem Ov(ho:o.op=.store ty x y)(hd:o.dst=none)(hx:aw ⟨n,T,⟨⟨b,E,cs⟩::B,rw⟩,ts⟩ x=some (.c (.val (.pointer (some ⟨b,off,none⟩)))))(hy:aw ⟨n,T,⟨⟨b,E,cs⟩::B,rw⟩,ts⟩ y=some t)(hc:lV t=some ds)
  (hS:∀w,(sizeOf ty).run P w=.ok z w) (hz:ds.length=z) (hl:off+z <= cs.length) (hr:splice cs off ds=r) (hT:b∈T) (hU:(⟨⟨b,E,cs⟩::B,rw⟩:aJ).bl.Nodup -> b∈U) (h:K ⟨n,T,⟨⟨b,E,r⟩::B,rw⟩,ts⟩):dZ P U o ⟨n,T,⟨⟨b,E,cs⟩::B,rw⟩,ts⟩ K:=Az [] ho hd hx hy hc rfl hS hz hl hr hT hU h
end
theorem tD{E:bA}{e:bA}(i:TypeInfo){z:aN}{len:Nat}{parts:Array (Nat×bb)}{ps:List (Nat×AT)}(zc:List aO){r:List aO}(ho:o.op=.buildSlice E len parts)(hd:o.dst=some d)(hn:d<n)(hps:pp ⟨n,T,s,ts⟩ parts.toList ps)
  (hu:P.underlying E=some (.slice e)) (hi:P.info? e=some i) (hz:i.zero=some z) (hsmall:¬len*i.size>2 ^ 24) (hpos:¬len*i.size=0) (hzc:(((Array.range (len*i.size)).map (z.cells[·% z.cells.size]!)).toList.all (·.oneCell'))=true) (hzr:((Array.range (len*i.size)).map (z.cells[·% z.cells.size]!)).toList.map .val=zc)
  (hf:nK (λk=>some (k*i.size,i.size)) zc ps=some r) (h:K ⟨n,T,s,(d,.c (.sl len r))::ts⟩):dZ P U o ⟨n,T,s,ts⟩ K:=Ud i ho hd hn hps hu hi hz hsmall hpos hzc hzr hf h
theorem xe{E e:bA}{x y:bb}{k m z:Nat}{v zv:aN}{cs ds r:List aO}(i:TypeInfo)(bytes:Nat){B:List aP}(ho:o.op=.call {callee:=.builtin .append,args:=#[x,y],argTypes:=#[E,E]})(hd:o.dst=some d)(hn:d<n)
  (hx:aw ⟨n,T,⟨bx,⟨v,e,z,k,cs⟩::B⟩,ts⟩ x=some (.c (.val v))) (hy:aw ⟨n,T,⟨bx,⟨v,e,z,k,cs⟩::B⟩,ts⟩ y=some (.c (.sl m ds))) (hu:P.underlying E=some (.slice e)) (hi:P.info? e=some i) (hz:i.zero=some zv) (hsz:i.size=z) (hby:i.bytes=bytes) (hzs:zv.cells.size=z) (h0:0<z)
  (hm:ds.length=m*z) (hm0:0<m) (hlen:k+m <= maxLen) (hbytes:(k+m)*bytes <= 140737488355328) {N:Nat} (hN:k+m=N) (hU:(⟨bx,⟨v,e,z,k,cs⟩::B⟩:aJ).bl.Nodup -> ∀b,b∈aR v -> b∈U) (hT:∀b,b∈aR v -> b∈T) (hr:cs++ds=r)
  (h:∀v',K ⟨n,aR v'++T,⟨bx,⟨v',e,z,N,r⟩::B⟩,(d,.c (.val v'))::ts⟩):dZ P U o ⟨n,T,⟨bx,⟨v,e,z,k,cs⟩::B⟩,ts⟩ K:=by
 subst hr;subst hN;exact Hj [] ho hd hn hx J hy hu hi hz hsz hby hzs h0 hm hm0 hlen hbytes hU hT h
theorem bm{F:FuncId}{ks:Array bb}{ph:Array bA}{us:List AT}(T':List Nat){QQ:AT -> aJ -> Prop}(ho:o.op=.call {callee:=.value (.func F),args:=ks,argTypes:=ph})(hd:o.dst=some d)(hn:d<n)
  (hcf:∀args w,(callFunc F args).run P w=.ok (.enter F args) w) (has:ks.toList.map (aw ⟨n,T,s,ts⟩)=us.map some) (hc:aU P F us T' s QQ) (hT:∀b,b∈T' -> b∈T) (rg:∀b,b∈T' -> b∈s.bl) (hU:s.bl.Nodup -> ∀b,b∈T' -> b∈U)
  (h:∀r s',QQ r s' -> K ⟨n,T,s',(d,r)::ts⟩):dZ P U o ⟨n,T,s,ts⟩ K:=Rl T' ho hd hn hcf has hc hT rg hU h
theorem bD{bx':List aV}{rw':List aP}{T':List Nat}{ts':List (Nat×AT)}(h3:∀b,b∈T' -> b∈T)(h1:bx'.Sublist bx:=by exact (.refl _))(h2:rw'.Sublist rw:=by exact (.refl _))(h:Sub ⟨n,T',⟨bx',rw'⟩,ts⟩ ⟨n,T',⟨bx',rw'⟩,ts'⟩:=by exact (ax rfl)):Sub ⟨n,T,⟨bx,rw⟩,ts⟩ ⟨n,T',⟨bx',rw'⟩,ts'⟩:=
 Sub.trans (qx (st:=⟨n,T,⟨bx,rw⟩,ts⟩) (s':=⟨bx',rw'⟩) (ai h1 h2)) (Sub.trans (VL (st:=⟨n,T,⟨bx',rw'⟩,ts⟩) T' h3) h)
theorem JO{b:Nat}(h:b∈s.bl):b∈fe s []:=gh.2 ⟨h,aL⟩
theorem FR{st:AS}(i:Nat){u t:AT}(hl:look st.ts i=some u)(hw:bL u t):Sub st {st with ts:=(i,t)::st.ts}:=λa w hs=>by
 refine ⟨⟨hs.df,hs.sz,λj x hx=>?_,hs.mem⟩,λ_ h=>h,λ_ h=>h⟩;simp only [look] at hx;split at hx
 ·rename_i he;subst he;cases hx;obtain ⟨v,aj,e2⟩:=hs.tm i u hl;exact ⟨v,aj,hw _ _ e2⟩
 exact hs.tm j x hx
theorem ct(i:Nat){u t:AT}(hl:look ts i=some u)(hw:bL u t)(h:cO P ops l ⟨n,T,s,(i,t)::ts⟩ Q):cO P ops l ⟨n,T,s,ts⟩ Q:=uZ (FR (st:=⟨n,T,s,ts⟩) i hl hw) h
theorem f_(E:bA)(z:Nat){c:Code}(h:br P c ⟨n,T,⟨bx,⟨.slice none 0 0,E,z,0,[]⟩::rw⟩,ts⟩ Q):br P c ⟨n,T,⟨bx,rw⟩,ts⟩ Q:=rp (MU (st:=⟨n,T,⟨bx,rw⟩,ts⟩) E z) h
theorem oJ(i:Nat){c:Code}{v:aN}{E:bA}{z k:Nat}{cs:List aO}(hi:look ts i=some (.c (.val v)))(h:br P c ⟨n,T,⟨bx,rw⟩,(i,.c (.sl k cs))::ts⟩ Q)(hz:0<z:=by decide):br P c ⟨n,T,⟨bx,⟨v,E,z,k,cs⟩::rw⟩,ts⟩ Q:=
 rp (Hc (st:=⟨n,T,⟨bx,⟨v,E,z,k,cs⟩::rw⟩,ts⟩) (A:=[]) i hi rfl hz) h
theorem D'{y:Code}{st:AS}(h:br P y st Q):lX (λs=>br P y s Q) Q .normal st:=h
theorem W5{st:AS}{id:Nat}(h:Q .normal st):rI id Q (.exit id) st:=by show (if id=id then _ else _);rw [if_pos rfl];exact h
theorem TE{st:AS}{id id':Nat}(hne:id'≠id)(h:Q (.exit id') st):rI id Q (.exit id') st:=by show (if id'=id then _ else _);rw [if_neg hne];exact h
theorem rf{c:bb}{x y:Code}{st:AS}{b:Bool}(hc:aw st c=some (.c (.val (.bool b))))(hb:b=true)(h:br P x st Q):br P (.cond c x y) st Q:=im hc (λ_=>h) (λh=>by rw [hb] at h;cases h)
theorem Sw{c:bb}{x y:Code}{st:AS}{b:Bool}(hc:aw st c=some (.c (.val (.bool b))))(hb:b=false)(h:br P y st Q):br P (.cond c x y) st Q:=im hc (λh=>by rw [hb] at h;cases h) (λ_=>h)
theorem wrap64{m:Int}(h1:-9223372036854775808 <= m)(h2:m <= 9223372036854775807):IntKind.i64.wrap m=m:=IntWalk.i64_in _ ⟨h1,h2⟩
theorem uk{st:AS}{E yt:bA}{x y:bb}{m k:Int}(ho:o.op=.binOp .add E x y yt)(hx:aw st x=some (.c (.val (.int .i64 m))))(hy:aw st y=some (.c (.val (.int .i64 k))))(h1:-9223372036854775808 <= m+k)(h2:m+k <= 9223372036854775807):co P U o st (.c (.val (.int .i64 (m+k)))):=
 L4 ho hx hy (by simp only [Dt,wrap64 h1 h2])
theorem jh{st:AS}{E yt:bA}{x y:bb}{m k:Int}(ho:o.op=.binOp .sub E x y yt:=by exact rfl)(hx:aw st x=some (.c (.val (.int .i64 m))):=by exact rfl)(hy:aw st y=some (.c (.val (.int .i64 k))):=by exact rfl)(h1:-9223372036854775808 <= m-k:=by omega)(h2:m-k <= 9223372036854775807:=by omega):co P U o st (.c (.val (.int .i64 (m-k)))):=
 L4 ho hx hy (by simp only [Dt,wrap64 h1 h2])
theorem QC{α:Type}(enc:α -> List aO)(z:Nat)(hz:∀x,(enc x).length=z):∀(l:List α)(k:Nat)(hk:k<l.length),(l.flatMap enc).drop (k*z)=enc l[k]++(l.drop (k+1)).flatMap enc
 |[],k,hk=>absurd hk aL
 |x::l,0,_=>aL
 |x::l,k+1,hk=>by
  have ih:=QC enc z hz l k qm;rw [ec,yB,uF (by rw [hz,yu];omega),hz,cg];have e:(k+1)*z-z=k*z:=by rw [yu];omega
  rw [e,ih];simp
theorem dD{α:Type}(enc:α -> List aO)(z:Nat)(hz:∀x,(enc x).length=z):∀l:List α,(l.flatMap enc).length=l.length*z
 |[]=>aL
 |x::l=>by rw [ec,Ft,hz,dD enc z hz l,zE,yu];omega
theorem bf{st:AS}{E e:bA}{x y:bb}{z:Nat}{α:Type}(enc enc':α -> List aO)(lst:List α)(hz:∀x,(enc x).length=z)(he:∀x,enc x=enc' x){k:IntKind}{i:Int}(j:Nat)(ho:o.op=.indexAddr E x y)(hx:aw st x=some (.c (.sl lst.length (lst.flatMap enc))))(hy:aw st y=some (.c (.val (.int k i))))(hi:i=j)(hj:j<lst.length)(h0:0<z)
  (hu:∀w,(underlying E).run P w=.ok (.slice e) w) (hS:∀w,(sizeOf e).run P w=.ok z w):co P U o st (.el (enc' lst[j]++(lst.drop (j+1)).flatMap enc)):=by
 have h:=Mj (P:=P) (U:=U) j ho hx hy hi hj (by rw [dD enc z hz];exact Nat.mul_lt_mul_of_pos_right hj h0) hu hS;rw [QC enc z hz lst j hj,he] at h;exact h
theorem Cs{cs ds:List aO}(h:ds.length=cs.length):splice cs 0 ds=ds:=by unfold splice;simp [h]
theorem Ws{ag:Bool}{z:Nat}{cs R:List aO}(h:cs.length=z)(ha:ag=true):fg ag z (cs++R) 0=some (.agg cs):=by
 subst ha;subst h;simp [fg]
theorem cH{ag:Bool}{z:Nat}{cs:List aO}(h:cs.length=z)(ha:ag=true):fg ag z cs 0=some (.agg cs):=by
 subst ha;subst h;simp [fg]
end
def mY.r{x:aO}{xs ys:List aO}(h:mY xs ys):mY (x::xs) (x::ys):=.cons (wz.refl _) h
def mY.n{xs ys:List aO}(h:mY xs ys):mY (.val (.slice none 0 0)::xs) (.sl 0 []::ys):=.cons pu h
section
variable {P:Program}{ops:Array Oper}{U Z:List Nat}{o:Oper}{n d:Nat}{T:List Nat}{s:aJ}{ts:List (Nat×AT)}{Q:Exit -> AS -> Prop}{l:List Oper}{t:AT}{st:AS}
theorem aCN{x:bb}(hw:eJ ops o ⟨n,T,s,ts⟩=some true)(ho:o.op=.move x)(hd:o.dst=some d)(hn:Nat.blt d n=true)(hx:aw ⟨n,T,s,ts⟩ x=some t)(h:cO P ops l ⟨n,T,s,(d,t)::ts⟩ Q):cO P ops (o::l) ⟨n,T,s,ts⟩ Q:=B' hw hd (fS hn) (ot ho hx) h
theorem aFX{x:bb}(hw:eJ ops o ⟨n,T,s,ts⟩=some true)(ho:o.op=.assign x)(hd:o.dst=some d)(hn:Nat.blt d n=true)(hx:aw ⟨n,T,s,ts⟩ x=some t)(h:cO P ops l ⟨n,T,s,(d,t)::ts⟩ Q):cO P ops (o::l) ⟨n,T,s,ts⟩ Q:=B' hw hd (fS hn) (xu ho hx) h
theorem D7(hw:eJ ops o ⟨n,T,s,ts⟩=some true)(hd:o.dst=some d)(hn:Nat.blt d n=true)(hy:co P [] o ⟨n,T,s,ts⟩ t)(h:cO P ops l ⟨n,T,s,(d,t)::ts⟩ Q):cO P ops (o::l) ⟨n,T,s,ts⟩ Q:=B' hw hd (fS hn) hy h
theorem V'{y:Code}(h:br P y st Q):cO P ops [] st (lX (λs=>br P y s Q) Q):=JW (D' h)
theorem R2{id:Nat}{l:List Oper}{y:Code}(h:cO P l.toArray l st (lX (λs=>br P y s Q) Q)):br P (.seq (.region id l.toArray false) y) st Q:=zy (P6 h)
theorem M3{id:Nat}{l:List Oper}{y:Code}(h:cO P l.toArray l st (lX (λs=>br P y s Q) Q)):cO P ops [] st (lX (λs=>br P (.seq (.region id l.toArray false) y) s Q) Q):=V' (R2 h)
theorem bY{p:Nat}{L:List Nat}(h:p∈L:=by simp):∀b,b∈[p] -> b∈L:=by intro b hb;simp at hb;subst hb;exact h
theorem XJ{p:Nat}{F:FuncId}{ks:Array bb}{ph:Array bA}{us:List AT}{QQ:AT -> aJ -> Prop}(hw:eJ ops o ⟨n,T,s,ts⟩=some true)(ho:o.op=.call {callee:=.value (.func F),args:=ks,argTypes:=ph})(hd:o.dst=some d)(hn:Nat.blt d n=true)
  (hcf:∀args w,(callFunc F args).run P w=.ok (.enter F args) w) (has:ks.toList.map (aw ⟨n,T,s,ts⟩)=us.map some) (hc:aU P F us [p] s QQ) (hT:p∈T) (rg:p∈s.bl)
  (h:∀r s',QQ r s' -> cO P ops l ⟨n,T,s',(d,r)::ts⟩ Q):cO P ops (o::l) ⟨n,T,s,ts⟩ Q:=aX hw (bm [p] ho hd (fS hn) hcf has hc (bY (h:=hT)) (bY (h:=rg)) (λ_=>bY (h:=hT)) h)
theorem bF{p:Nat}{F:FuncId}{ks:Array bb}{ph:Array bA}{us:List AT}{QQ:AT -> aJ -> Prop}(h0:(eJ ops o ⟨n,T,s,ts⟩,o.op,o.dst,Nat.blt d n)=(some true,.call {callee:=.value (.func F),args:=ks,argTypes:=ph},some d,true))
  (hcf:∀args w,(callFunc F args).run P w=.ok (.enter F args) w) (has:ks.toList.map (aw ⟨n,T,s,ts⟩)=us.map some) (hc:aU P F us [p] s QQ)
  (h:∀r s',QQ r s' -> cO P ops l ⟨n,T,s',(d,r)::ts⟩ Q) (hT:p∈T:=by simp) (rg:p∈s.bl:=by simp [aJ.bl]):cO P ops (o::l) ⟨n,T,s,ts⟩ Q:=by
 simp only [jC] at h0;exact XJ h0.1 h0.2.1 h0.2.2.1 h0.2.2.2 hcf has hc hT rg h
theorem aD(h0:(eJ ops o ⟨n,T,s,ts⟩,o.dst,Nat.blt d n)=(some true,some d,true))(hy:co P [] o ⟨n,T,s,ts⟩ t)(h:cO P ops l ⟨n,T,s,(d,t)::ts⟩ Q):cO P ops (o::l) ⟨n,T,s,ts⟩ Q:=by
 simp only [jC] at h0;exact D7 h0.1 h0.2.1 h0.2.2 hy h
theorem Vq(i:Nat){fuel:Nat}{listed:Array Bool}{Q:AS -> Prop}(hr:((Region.ready .any ops listed).contains i && Region.free .any ops listed i && Region.noSelect ops)=true)(hi:ops.toList[i]?=some o)
  (hw:eJ ops o ⟨n,T,s,ts⟩=some true) (hd:o.dst=some d) (hn:Nat.blt d n=true) (hy:co P (fe s Z) o ⟨n,T,s,ts⟩ t) (h:dr P ops Z fuel (listed.setIfInBounds i true) ⟨n,T,s,(d,t)::ts⟩ Q):dr P ops Z (fuel+1) listed ⟨n,T,s,ts⟩ Q:=by
 simp only [di] at hr;exact VO i hr.1.1 hi hr.1.2 hr.2 hw hd (fS hn) hy h
theorem TZ(i:Nat){fuel:Nat}{listed:Array Bool}{Q:AS -> Prop}(hr:((Region.ready .any ops listed).contains i && Region.free .any ops listed i && Region.noSelect ops)=true)
  (h0:(ops.toList[i]?,eJ ops o ⟨n,T,s,ts⟩,o.dst,Nat.blt d n)=(some o,some true,some d,true)) (hy:co P (fe s Z) o ⟨n,T,s,ts⟩ t) (h:dr P ops Z fuel (listed.setIfInBounds i true) ⟨n,T,s,(d,t)::ts⟩ Q):dr P ops Z (fuel+1) listed ⟨n,T,s,ts⟩ Q:=by
 simp only [jC] at h0;exact Vq i hr h0.1 h0.2.1 h0.2.2.1 h0.2.2.2 hy h
theorem bP{E yt:bA}{x y:bb}{m k:Int}(h0:(eJ ops o ⟨n,T,s,ts⟩,o.dst,Nat.blt d n,o.op,aw ⟨n,T,s,ts⟩ x,aw ⟨n,T,s,ts⟩ y)=(some true,some d,true,.binOp .add E x y yt,some (.c (.val (.int .i64 m))),some (.c (.val (.int .i64 k)))))
  (h:cO P ops l ⟨n,T,s,(d,.c (.val (.int .i64 (m+k))))::ts⟩ Q) (h1:-9223372036854775808 <= m+k:=by omega) (h2:m+k <= 9223372036854775807:=by omega):cO P ops (o::l) ⟨n,T,s,ts⟩ Q:=by
 simp only [jC] at h0;exact D7 h0.1 h0.2.1 h0.2.2.1 (uk h0.2.2.2.1 h0.2.2.2.2.1 h0.2.2.2.2.2 h1 h2) h
theorem cc{F:FuncId}{ks:Array bb}{ph:Array bA}{us:List AT}{QQ:AT -> aJ -> Prop}(h0:(eJ ops o ⟨n,T,s,ts⟩,o.op,o.dst,Nat.blt d n)=(some true,.call {callee:=.value (.func F),args:=ks,argTypes:=ph},some d,true))
  (hcf:∀args w,(callFunc F args).run P w=.ok (.enter F args) w) (has:ks.toList.map (aw ⟨n,T,s,ts⟩)=us.map some) (hc:aU P F us [] s QQ) (h:∀r s',QQ r s' -> cO P ops l ⟨n,T,s',(d,r)::ts⟩ Q):cO P ops (o::l) ⟨n,T,s,ts⟩ Q:=by
 simp only [jC] at h0;exact aX h0.1 (bm [] h0.2.1 h0.2.2.1 (fS h0.2.2.2) hcf has hc jM jM (λ_ _ h=>iH) h)
theorem aDb{F:FuncId}{fn:Func}{c:Code}{args:List AT}{Q:AT -> aJ -> Prop}(hf:P.funcs[F]?=some fn)(hb:(fn.body,Nat.ble args.length fn.ntmps)=(some c,true))
  (h:br P c ⟨fn.ntmps,T,s,um 0 args⟩ λe st=>(e=.normal∨e=.ret) /\ ∃r s',oB P fn st r /\ jj st.s s' /\ Q r s'):aU P F args T s Q:=by
 simp only [jC] at hb;exact Lm hf hb.1 (fS hb.2) h
theorem bR(m:Nat){F:FuncId}{fn:Func}{c:Code}{args:List AT}{Q:AT -> aJ -> Prop}(hf:P.funcs[F]?=some fn)
  (h:br P c ⟨m,T,s,ts⟩ λe st=>(e=.normal∨e=.ret) /\ ∃r s',oB P fn st r /\ jj st.s s' /\ Q r s') (hb:(fn.body,fn.ntmps,Nat.ble args.length fn.ntmps)=(some c,m,true):=by exact rfl) (ht:um 0 args=ts:=by dsimp only [um,Nat.reduceAdd]):aU P F args T s Q:=by
 simp only [jC] at hb;obtain ⟨h1,rfl,h3⟩:=hb;subst ht;exact Lm hf h1 (fS h3) h
theorem d4{s:aJ}:jj s s:=jj.refl s
theorem cT{x:aV}{B:List aV}{r:List aP}:jj ⟨x::B,r⟩ ⟨B,r⟩:=ai bI (.refl _)
theorem fR{x y:aV}{B:List aV}{r:List aP}:jj ⟨x::y::B,r⟩ ⟨B,r⟩:=ai cq (.refl _)
theorem ax{ts':List (Nat×AT)}(h:ts'.map (λp=>look st.ts p.1)=ts'.map (λp=>some p.2)):Sub st {st with ts:=ts'}:=by
 induction ts' with
 |nil=>exact V5
 |cons p ts' ih=>
  simp only [dE,sV] at h;exact ay h.1 (bL.refl _) (ih h.2)
theorem N1{op:BinOp}{k:IntKind}{E yt:bA}{x y:bb}{m q:Int}(r:Bool)(h0:(eJ ops o ⟨n,T,s,ts⟩,o.dst,Nat.blt d n,o.op,aw ⟨n,T,s,ts⟩ x,aw ⟨n,T,s,ts⟩ y)=(some true,some d,true,.binOp op E x y yt,some (.c (.val (.int k m))),some (.c (.val (.int k q)))))(hr:ed op m q=some r)
  (h:cO P ops l ⟨n,T,s,(d,.c (.val (.bool r)))::ts⟩ Q):cO P ops (o::l) ⟨n,T,s,ts⟩ Q:=by
 simp only [jC] at h0;exact D7 h0.1 h0.2.1 h0.2.2.1 (fC r h0.2.2.2.1 h0.2.2.2.2.1 h0.2.2.2.2.2 hr) h
theorem aI{op:BinOp}{k:IntKind}{E yt:bA}{x y:bb}{m q:Int}(h0:(eJ ops o ⟨n,T,s,ts⟩,o.dst,Nat.blt d n,o.op,aw ⟨n,T,s,ts⟩ x,aw ⟨n,T,s,ts⟩ y)=(some true,some d,true,.binOp op E x y yt,some (.c (.val (.int k m))),some (.c (.val (.int k q)))))(hr:ed op m q=some true)
  (h:cO P ops l ⟨n,T,s,(d,.c (.val (.bool true)))::ts⟩ Q):cO P ops (o::l) ⟨n,T,s,ts⟩ Q:=N1 true h0 hr h
theorem aG{op:BinOp}{k:IntKind}{E yt:bA}{x y:bb}{m q:Int}(h0:(eJ ops o ⟨n,T,s,ts⟩,o.dst,Nat.blt d n,o.op,aw ⟨n,T,s,ts⟩ x,aw ⟨n,T,s,ts⟩ y)=(some true,some d,true,.binOp op E x y yt,some (.c (.val (.int k m))),some (.c (.val (.int k q)))))(hr:ed op m q=some false)
  (h:cO P ops l ⟨n,T,s,(d,.c (.val (.bool false)))::ts⟩ Q):cO P ops (o::l) ⟨n,T,s,ts⟩ Q:=N1 false h0 hr h
abbrev aF(b:Nat):AT:=.c (.val (.pointer (some ⟨b,0,none⟩)))
abbrev aB{α:Type}(f:α -> List aO)(l:List α):aO:=.sl l.length (l.flatMap f)
abbrev aK:aO:=.val (.slice none 0 0)
abbrev aA(x:Int):aO:=.val (.int .i64 x)
abbrev ah(x:ByteArray):aO:=.val (.string x)
abbrev bG(x:Bool):aO:=.val (.bool x)
abbrev aC(g:Nat):aO:=.val (.map (some g))
abbrev an(x:Int):AT:=.c (.val (.int .i64 x))
abbrev cK(x:ByteArray):AT:=.c (.val (.string x))
abbrev bC(x:Bool):AT:=.c (.val (.bool x))
abbrev av(v:Value):AT:=.c (.val v)
abbrev ap(k:Nat):aO:=.val (.int .i64 (k:Int))
abbrev ae(k:Nat):AT:=.c (.val (.int .i64 (k:Int)))
theorem V8{fn:Func}{st:AS}{r:AT}{s':aJ}{K:AT -> aJ -> Prop}{rv:ResultVar}{e:Exit}(he:e=.normal∨e=.ret)(h1:fn.results=#[rv])(h2:ml P st rv r)(hs:jj st.s s')(hk:K r s'):(e=.normal∨e=.ret) /\ ∃r s',oB P fn st r /\ jj st.s s' /\ K r s':=⟨he,r,s',bK h1 h2,hs,hk⟩
theorem az{fn:Func}{st:AS}{r:AT}{s':aJ}{K:AT -> aJ -> Prop}{t:Tmp}(h1:(fn.results,look st.ts t)=(#[.tmp t],some r))(hs:jj st.s s')(hk:K r s'):(Exit.ret=.normal∨Exit.ret=.ret) /\ ∃r s',oB P fn st r /\ jj st.s s' /\ K r s':=by
 simp only [jC] at h1;exact V8 (.inr J) h1.1 (bN h1.2) hs hk
theorem dJ{L:List Nat}:∀b,b∈([]:List Nat) -> b∈L:=λ_ h=>iH
end
end
end Go.Proofs.YtjgeihmhppadaaaGreatDoor
