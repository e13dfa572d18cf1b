import Derived.Test.YtjgeihmhppadaaaGreatDoorCA1J
import Derived.Deep.RegionHeld3
import Derived.Deep.LoopGhost
import Derived.Great.BuildSlice
set_option linter.all false
namespace Go.Proofs.YtjgeihmhppadaaaGreatDoor
section
inductive aP where
 |mk (op num:Int) (name:ByteArray) (args:List aP)
structure cD where
 name:ByteArray
 index:List aP
structure cK where
 mutex:Bool
 ref:cD
 expr:aP
inductive aL where
 |mk (kind:Int) (name:ByteArray) (expr:aP) (ref:cD) (args:List cK) (thn els:List aL)
structure bp where
 name:ByteArray
 mutex:Bool
structure bE where
 name:ByteArray
 params:List bp
 body:List aL
structure bw where
 name:ByteArray
 init:Int
structure cq where
 name:ByteArray
 reentrant:Bool
 size:Int
structure aZ where
 globals:List bw
 mutexes:List cq
 funcs:List bE
def aP.op:aP -> Int|.mk o _ _ _=>o
def aP.num:aP -> Int|.mk _ n _ _=>n
def aP.name:aP -> ByteArray|.mk _ _ n _=>n
def aP.args:aP -> List aP|.mk _ _ _ a=>a
def aL.kind:aL -> Int|.mk k _ _ _ _ _ _=>k
def aL.name:aL -> ByteArray|.mk _ n _ _ _ _ _=>n
def aL.expr:aL -> aP|.mk _ _ e _ _ _ _=>e
def aL.ref:aL -> cD|.mk _ _ _ r _ _ _=>r
def aL.args:aL -> List cK|.mk _ _ _ _ a _ _=>a
def aL.thn:aL -> List aL|.mk _ _ _ _ _ t _=>t
def aL.els:aL -> List aL|.mk _ _ _ _ _ _ e=>e
def ax:ByteArray:=⟨#[]⟩
def aP.zero:aP:=.mk 0 0 ax []
def cD.zero:cD:=⟨ax,[]⟩
def cp(n:Nat):List UInt8:=if n<10 then [UInt8.ofNat (48+n)] else cp (n/10)++[UInt8.ofNat (48+n%10)]
def eM(n:Int):List UInt8:=if n<0 then 45::cp n.natAbs else cp n.natAbs
def cw(op:Int):Nat:=
 if op=17 then 0 else if op=16 then 1 else if 10 <= op /\ op <= 15 then 2 else if op=8∨op=9 then 3 else if 5 <= op /\ op <= 7 then 4 else if op=3∨op=4 then 5 else 6
def gX(b:Int)(k:Nat)(a:Int):Bool:=decide (cw a<cw b∨cw a=cw b /\ k=1)
def kl(op:Int):List UInt8:=
 if op=17 then [124,124] else if op=16 then [38,38] else if op=14 then [61,61] else if op=15 then [33,61] else if op=10 then [60] else if op=11 then [60,61] else if op=12 then [62] else if op=13 then [62,61] else
 if op=8 then [43] else if op=9 then [45] else if op=5 then [42] else if op=6 then [47] else if op=7 then [37] else []
def jN(op num:Int)(name:ByteArray)(ts:List (List UInt8)):List UInt8:=
 if op=1 then eM num else if op=2 then name.data.toList else if op=3 then 45::ts.getD 0 [] else if op=4 then 33::ts.getD 0 [] else
 if cw op<5 then ts.getD 0 []++[32]++kl op++[32]++ts.getD 1 [] else []
mutual
def bX:aP -> List UInt8
 |.mk op num name args=>jN op num name (gY op 0 args)
def gY(b:Int):Nat -> List aP -> List (List UInt8)
 |_,[]=>[]
 |k,e::es=>(if gX b k e.op then [40]++bX e++[41] else bX e)::gY b (k+1) es
end
def br(s:ByteArray):Bool:=
 match s.data.toList with
 |[]=>false
 |c::r=>fR c && r.all cv && decide (s.size <= 16) && !ee s
def kP(op num:Int)(name:ByteArray):Bool:=(decide (op=1 /\ 0 <= num) && decide (name=ax))||(decide (op=2 /\ num=0) && br name)
def arity(op:Int):Nat:=if cw op=6 then 0 else if cw op=5 then 1 else 2
mutual
def dc:aP -> Bool
 |.mk op num name args=>(if cw op=6 then kP op num name else decide (num=0) && decide (name=ax)) && decide (args.length=arity op) && eu args
def eu:List aP -> Bool
 |[]=>true
 |e::es=>dc e && eu es
end
mutual
def gS:aP -> Nat
 |.mk op _ _ args=>iS op 0 args+if cw op=5 then 1 else 0
def iS(b:Int):Nat -> List aP -> Nat
 |_,[]=>0
 |k,e::es=>max (gS e+if gX b k e.op then 1 else 0) (iS b (k+1) es)
end
def eV(e:aP):Bool:=dc e && decide (gS e <= 24)
end
section
def ew(r:cD):List UInt8:=match r.index with|[]=>r.name.data.toList|e::_=>r.name.data.toList++[91]++bX e++[93]
def eK(a:cK):List UInt8:=if a.mutex then [109,117,116,101,120,32]++ew a.ref else bX a.expr
def ct{α:Type}(f:α -> List UInt8):List α -> List UInt8
 |[]=>[]
 |x::r=>f x++(r.map λy=>[44,32]++f y).flatten
def QZ{α:Type}(f:α -> List UInt8)(l:List α)(x:α):ct f (l++[x])=ct f l++(if l=[] then [] else [44,32])++f x:=by
 cases l with
 |nil=>simp [ct]
 |cons a r=>simp [ct]
def pp{α:Type}(f:α -> List UInt8)(l:List α)(k:Nat)(hk:k<l.length):ct f (l.take (k+1))=ct f (l.take k)++(if k=0 then [] else [44,32])++f l[k]:=by
 rw [ga hk,QZ];have:(l.take k=[])↔k=0:=by
  rw [List.take_eq_nil_iff];constructor
  ·rintro (h|h)
   ·exact h
   subst h;simp at hk
  exact .inl
 by_cases h:k=0
 ·rw [if_pos (this.2 h),if_pos h]
 rw [if_neg (λh'=>h (this.1 h')),if_neg h]
def f8(l:List cK):List UInt8:=[40]++ct eK l++[41]
mutual
def dQ(tabs:List UInt8):aL -> List UInt8
 |.mk kind name expr ref args thn els=>tabs++
  (if kind=1 then [118,97,114,32]++name.data.toList++[32,61,32]++bX expr++[59]
   else if kind=2 then name.data.toList++[32,61,32]++bX expr++[59]
   else if kind=3 then name.data.toList++f8 args++[59]
   else if kind=4 then [103,111,32]++name.data.toList++f8 args++[59]
   else if kind=5 then [108,111,99,107,32]++ew ref++[59]
   else if kind=6 then [117,110,108,111,99,107,32]++ew ref++[59]
   else if kind=7∨kind=8 then
    (if kind=8 then [119,104,105,108,101,32] else [105,102,32])++bX expr++[32,123,10]++bH (tabs++[9]) thn++tabs++[125]++
     (if els.length=0 then [] else [32,101,108,115,101,32,123,10]++bH (tabs++[9]) els++tabs++[125])
   else [114,101,116,117,114,110,59])++[10]
def bH(tabs:List UInt8):List aL -> List UInt8
 |[]=>[]
 |s::r=>dQ tabs s++bH tabs r
end
def Mh(tabs:List UInt8)(l m:List aL):bH tabs (l++m)=bH tabs l++bH tabs m:=by
 induction l with
 |nil=>simp [bH]
 |cons a r ih=>simp [bH,ih]
def cJ(g:bw):List UInt8:=[118,97,114,32]++g.name.data.toList++(if g.init=0 then [] else [32,61,32]++eM g.init)++[59,10]
def cX(m:cq):List UInt8:=(if m.reentrant then [114] else [])++[109,117,116,101,120,32]++m.name.data.toList++(if 0<m.size then [91]++eM m.size++[93] else [])++[59,10]
def eF(x:bp):List UInt8:=(if x.mutex then [109,117,116,101,120,32] else [])++x.name.data.toList
def funcText(f:bE):List UInt8:=[102,117,110,99,32]++f.name.data.toList++[40]++ct eF f.params++[41,32,123,10]++bH [9] f.body++[125,10]
def gG(p:aZ):List UInt8:=(p.globals.map cJ).flatten++(p.mutexes.map cX).flatten++(p.funcs.map funcText).flatten
def jT(e:aP):Bool:=decide (e.op=0 /\ e.num=0) && decide (e.name=ax) && decide (e.args.length=0)
def j6(r:cD):Bool:=decide (r.name=ax) && decide (r.index.length=0)
def okRefB(r:cD):Bool:=br r.name && (match r.index with|[]=>true|[e]=>eV e|_=>false)
def eh(a:cK):Bool:=if a.mutex then okRefB a.ref && jT a.expr else j6 a.ref && eV a.expr
mutual
def fC(deep:Nat):aL -> Bool
 |.mk k name expr ref args thn els=>
  decide (1 <= k /\ k <= 9) && (if 1 <= k /\ k <= 4 then br name else decide (name=ax)) &&
  (if k=1∨k=2∨k=7∨k=8 then eV expr else jT expr) && (if k=5∨k=6 then okRefB ref else j6 ref) &&
  (decide (k=3∨k=4)||decide (args.length=0)) && args.all eh &&
  (if k=7∨k=8 then cn (deep+1) thn else decide (thn.length=0)) &&
  (decide (els.length=0)||(decide (k=7) && cn (deep+1) els))
def cn(deep:Nat):List aL -> Bool
 |[]=>decide (deep<24)
 |s::r=>fC deep s && cn deep r
end
def j7(g:bw):Bool:=br g.name && decide (g.init≠-9223372036854775808)
def g_(m:cq):Bool:=br m.name && decide (0 <= m.size /\ m.size <= 64) && !(m.reentrant && decide (0<m.size))
def gB(f:bE):Bool:=br f.name && decide (f.params.length <= 6) && cn 0 f.body && f.params.all λx=>br x.name
def gD.isOk:gD -> Bool|.ok _=>true|.err _ _=>false
def gE(p:aZ):Bool:=decide (p.globals.length <= 16 /\ p.mutexes.length <= 12 /\ p.funcs.length <= 16) && p.globals.all j7 && p.mutexes.all g_ && p.funcs.all gB && (fo (gG p)).isOk
end
section
open Go.RowKit
def jr{α:Type}(w:World)(R:α -> List Value -> Prop)(z:Nat)(v:Value)(l:List α):Prop:=
 ∃rows:List (List Value),dr w v l.length rows.flatten /\ rows.length=l.length /\ ∀k (h:k<l.length) (h':k<rows.length),R l[k] rows[k] /\ rows[k].length=z
mutual
def iu(w:World):aP -> List Value -> Prop
 |.mk op num name args,cs=>∃(v:Value) (rows:List (List Value)),cs=[.int .i64 op,.int .i64 num,.string name,v] /\ dr w v args.length rows.flatten /\ lA w args rows
def lA(w:World):List aP -> List (List Value) -> Prop
 |[],rows=>rows=[]
 |e::es,rows=>∃r rs,rows=r::rs /\ iu w e r /\ lA w es rs
end
def iu.len{w:aV}{e:aP}{cs:List aM}(h:iu w e cs):cs.length=4:=by
 cases e;rw [iu] at h;obtain ⟨v,rows,rfl,_⟩:=h;rfl
mutual
def iu.below{w w':aV}(hb:Below w.heap.size w w'):∀(e:aP) {cs:List aM},iu w e cs -> iu w' e cs
 |.mk op num name args,cs,h=>by
  rw [iu] at h⊢;obtain ⟨v,rows,rfl,h1,h2⟩:=h;exact ⟨v,rows,J,h1.below hb (bW _),lA.below hb args h2⟩
def lA.below{w w':aV}(hb:Below w.heap.size w w'):∀(l:List aP) {rows:List (List aM)},lA w l rows -> lA w' l rows
 |[],rows,h=>by rw [lA] at h⊢;exact h
 |e::es,rows,h=>by
  rw [lA] at h⊢;obtain ⟨r,rs,rfl,h1,h2⟩:=h;exact ⟨r,rs,J,iu.below hb e h1,lA.below hb es h2⟩
end
def jr.below{α:Type}{w w':aV}{R R':α -> List aM -> Prop}{z:Nat}{v:aM}{l:List α}(hb:Below w.heap.size w w')(h:jr w R z v l)(hR:∀a cs,a∈l -> R a cs -> R' a cs):jr w' R' z v l:=by
 obtain ⟨rows,h1,h2,h3⟩:=h;exact ⟨rows,h1.below hb (bW _),h2,λk h h'=>⟨hR _ _ (List.getElem_mem h) (h3 k h h').1,(h3 k h h').2⟩⟩
def jr.nil{α:Type}(w:aV)(R:α -> List aM -> Prop)(z:Nat):jr w R z (.slice none 0 0) []:=⟨[],dr.nil w,rfl,λk h=>absurd h aK⟩
def p6(w:World)(r:cD)(cs:List Value):Prop:=∃v,cs=[.string r.name,v] /\ jr w (iu w) 4 v r.index
def pf(w:World)(a:cK)(cs:List Value):Prop:=∃cr ce,cs=.bool a.mutex::(cr++ce) /\ p6 w a.ref cr /\ iu w a.expr ce
def p6.below{w w':aV}(hb:Below w.heap.size w w'){r:cD}{cs:List aM}(h:p6 w r cs):p6 w' r cs:=by
 obtain ⟨v,rfl,h⟩:=h;exact ⟨v,J,h.below hb λa cs _ h=>iu.below hb a h⟩
def pf.below{w w':aV}(hb:Below w.heap.size w w'){a:cK}{cs:List aM}(h:pf w a cs):pf w' a cs:=by
 obtain ⟨cr,ce,rfl,h1,h2⟩:=h;exact ⟨cr,ce,J,h1.below hb,iu.below hb _ h2⟩
mutual
def kT(w:World):aL -> List Value -> Prop
 |.mk k name e r args t el,cs=>∃(ce cr:List Value) (va vt ve:Value) (rt re:List (List Value)),cs=[.int .i64 k,.string name]++ce++cr++[va,vt,ve] /\ iu w e ce /\ p6 w r cr /\ jr w (pf w) 7 va args /\
   dr w vt t.length rt.flatten /\ js w t rt /\ dr w ve el.length re.flatten /\ js w el re
def js(w:World):List aL -> List (List Value) -> Prop
 |[],rows=>rows=[]
 |e::es,rows=>∃r rs,rows=r::rs /\ kT w e r /\ js w es rs
end
mutual
def kT.below{w w':aV}(hb:Below w.heap.size w w'):∀(s:aL) {cs:List aM},kT w s cs -> kT w' s cs
 |.mk k name e r args t el,cs,h=>by
  rw [kT] at h⊢;obtain ⟨ce,cr,va,vt,ve,rt,re,rfl,h1,h2,h3,h4,h5,h6,h7⟩:=h;exact ⟨ce,cr,va,vt,ve,rt,re,J,iu.below hb _ h1,h2.below hb,h3.below hb (λ_ _ _ h=>pf.below hb h),h4.below hb (bW _),js.below hb t h5,h6.below hb (bW _),js.below hb el h7⟩
def js.below{w w':aV}(hb:Below w.heap.size w w'):∀(l:List aL) {rows:List (List aM)},js w l rows -> js w' l rows
 |[],rows,h=>by rw [js] at h⊢;exact h
 |e::es,rows,h=>by
  rw [js] at h⊢;obtain ⟨r,rs,rfl,h1,h2⟩:=h;exact ⟨r,rs,J,kT.below hb e h1,js.below hb es h2⟩
end
def kT.len{w:aV}{s:aL}{cs:List aM}(h:kT w s cs):cs.length=11:=by
 cases s;rw [kT] at h;obtain ⟨ce,cr,va,vt,ve,rt,re,rfl,h1,⟨v,rfl,_⟩,_⟩:=h;simp [h1.len]
def Ox(x:bp)(cs:List Value):Prop:=cs=[.string x.name,.bool x.mutex]
def pn(w:World)(f:bE)(cs:List Value):Prop:=∃vp vb,cs=[.string f.name,vp,vb] /\ jr w Ox 2 vp f.params /\ jr w (kT w) 11 vb f.body
def PM(g:bw)(cs:List Value):Prop:=cs=[.string g.name,.int .i64 g.init]
def Nw(m:cq)(cs:List Value):Prop:=cs=[.string m.name,.bool m.reentrant,.int .i64 m.size]
def uH(w:World)(p:aZ)(cs:List Value):Prop:=∃vg vm vf,cs=[vg,vm,vf] /\ jr w PM 2 vg p.globals /\ jr w Nw 3 vm p.mutexes /\ jr w (pn w) 3 vf p.funcs
def pn.below{w w':aV}(hb:Below w.heap.size w w'){f:bE}{cs:List aM}(h:pn w f cs):pn w' f cs:=by
 obtain ⟨vp,vb,rfl,h1,h2⟩:=h;exact ⟨vp,vb,J,h1.below hb (λ_ _ _ h=>h),h2.below hb (λ_ _ _ h=>kT.below hb _ h)⟩
def uH.below{w w':aV}(hb:Below w.heap.size w w'){p:aZ}{cs:List aM}(h:uH w p cs):uH w' p cs:=by
 obtain ⟨vg,vm,vf,rfl,h1,h2,h3⟩:=h;exact ⟨vg,vm,vf,J,h1.below hb (λ_ _ _ h=>h),h2.below hb (λ_ _ _ h=>h),h3.below hb (λ_ _ _ h=>pn.below hb h)⟩
def B0{z:Nat}:∀(rows:List (List aM)),(∀r∈rows,r.length=z) -> ∀k f,(hk:k<rows.length) -> f<z -> (rows.flatten)[k*z+f]?=rows[k][f]?
 |[],_,k,f,hk,_=>by simp at hk
 |r::rs,hz,k,f,hk,hf=>by
  have hr:r.length=z:=hz r (jm ..);rw [iL];cases k with
  |zero=>rw [qA,e0,rQ Y];rfl
  |succ k=>
   rw [pc (by rw [hr,yI];omega)];have:=B0 rs (λr h=>hz r (dT _ h)) k f nS hf;rw [hr,show (k+1)*z+f-z=k*z+f by rw [yI];omega,this];rfl
def jr.get{α:Type}{w:aV}{R:α -> List aM -> Prop}{z:Nat}{v:aM}{l:List α}(h:jr w R z v l)(hz:0<z){k:Nat}(hk:k<l.length):
  ∃b off cap row,v=.slice (some ⟨b,off,none⟩) l.length cap /\ l.length <= cap /\ R l[k] row /\ row.length=z /\ b<w.heap.size /\ ∀f u,row[f]?=some u -> w.cell? ⟨b,off+k*z+f,none⟩=some u:=by
 obtain ⟨rows,⟨a,cap,rfl,hc,hr⟩,h2,h3⟩:=h;have hk':k<rows.length:=Y;obtain ⟨h4,h5⟩:=h3 k hk hk';have hall:∀r∈rows,r.length=z:=by
  intro r hr';obtain ⟨i,hi,rfl⟩:=jQ hr';exact (h3 i Y hi).2
 rcases hr with h0|⟨b,off,rfl,hr⟩
 ·exfalso;have:=B0 rows hall k 0 hk' hz;rw [h0] at this;simp at this;rw [this] at h5;simp at h5;omega
 have hcell:∀f u,rows[k][f]?=some u -> w.cell? ⟨b,off+k*z+f,none⟩=some u:=by
  intro f u hu;have hf:f<z:=by
   have:=(mM.1 hu).1;omega
  rw [qw];exact hr _ _ (by rw [B0 rows hall k f hk' hf];exact hu)
 refine ⟨b,off,cap,rows[k],J,hc,h4,h5,?_,hcell⟩;have h0:(rows[k])[0]?=some ((rows[k])[0]'(by omega)):=aK;exact lL (hcell 0 _ h0)
def jr.slice{α:Type}{w:aV}{R:α -> List aM -> Prop}{z:Nat}{v:aM}{l:List α}(h:jr w R z v l):∃a cap,v=.slice a l.length cap /\ l.length <= cap:=by
 obtain ⟨rows,⟨a,cap,rfl,hc,_⟩,_⟩:=h;exact ⟨a,cap,J,hc⟩
def bi(H:List Nat)(w:World):World:={w with heap:=Array.ofFn (n:=w.heap.size) λi=>if i.1∈H then Obj.cells #[] 0 (0,0) else w.heap[i]}
def Aq(H:List Nat)(w:aV):(bi H w).heap.size=w.heap.size:=by simp [bi]
def xg(H:List Nat)(w:aV)(k:Nat)(h:k∉H):(bi H w).heap[k]?=w.heap[k]?:=by
 unfold bi;by_cases hk:k<w.heap.size
 ·rw [zq,dif_pos hk,mc hk];simp [h]
 rw [zq,dif_neg hk,or Y]
def P9(H:List Nat)(w:aV)(k:Nat)(h:k∈H)(hk:k<w.heap.size):(bi H w).heap[k]?=some (Obj.cells #[] 0 (0,0)):=by
 unfold bi;rw [zq,dif_pos hk];simp [h]
def np(H:List Nat)(w:aV)(a:Addr)(h:a.block∉H):(bi H w).cell? a=w.cell? a:=World.cell?_of_block (w:=w) (xg H w _ h)
def P2(H:List Nat)(w:aV)(a:Addr)(h:a.block∈H):(bi H w).cell? a=none:=by
 unfold World.cell?;by_cases hk:a.block<w.heap.size
 ·rw [P9 H w _ h hk];simp
 rw [or (by rw [Aq];omega)]
def nW{H:List Nat}{w:aV}{a:Addr}{u:aM}(h:(bi H w).cell? a=some u):w.cell? a=some u /\ a.block∉H:=by
 by_cases hm:a.block∈H
 ·rw [P2 H w a hm] at h;cases h
 rw [np H w a hm] at h;exact ⟨h,hm⟩
structure cH (H:List Nat) (w w':World):Prop where
 os:w'.os=w.os
 tape:w'.tape=w.tape
 output:w'.output=w.output
 size:w.heap.size <= w'.heap.size
 block:∀k,k<w.heap.size -> k∉H -> w'.heap[k]?=w.heap[k]?
def cH.refl(H:List Nat)(w:aV):cH H w w:=⟨rfl,rfl,rfl,bW _,λ_ _ _=>rfl⟩
def cH.trans{H:List Nat}{a b c:aV}(h:cH H a b)(k:cH H b c):cH H a c:=
 ⟨k.os.trans h.os,k.tape.trans h.tape,k.output.trans h.output,gb h.size k.size,λi hi hn=>(k.block i (k_ hi h.size) hn).trans (h.block i hi hn)⟩
def cH.mono{H H':List Nat}{a b:aV}(h:cH H a b)(hs:∀x,x∈H -> x∈H'):cH H' a b:=⟨h.os,h.tape,h.output,h.size,λi hi hn=>h.block i hi λhm=>hn (hs i hm)⟩
def cH.of_below{H:List Nat}{w w':aV}(h:Below w.heap.size w w'):cH H w w':=⟨h.os,h.tape,h.output,h.size,λk hk _=>h.block k hk⟩
def cH.drew{H:List Nat}{a w:aV}(h:cH H a w):cH H a w.drew:=⟨h.os,h.tape,h.output,h.size,h.block⟩
def cH.drewN{H:List Nat}{a w:aV}(h:cH H a w)(k:Nat):cH H a (w.drewN k):=⟨h.os,h.tape,h.output,h.size,h.block⟩
def cH.alloc{H:List Nat}{a w:aV}(h:cH H a w)(o:Obj):cH H a (w.alloc o):=h.trans (cH.of_below ((Below.refl _ _).alloc (bW _) o))
def cH.step{H:List Nat}{a w w':aV}(h:cH H a w)(hb:Below w.heap.size w w'):cH H a w':=h.trans (cH.of_below hb)
def cH.setCell{H:List Nat}{a w:aV}(h:cH H a w){p:Addr}(hp:p.block∈H∨a.heap.size <= p.block)(u:aM):cH H a (w.setCell p u):=
 ⟨h.os,h.tape,h.output,by simpa [World.setCell] using h.size,λk hk hn=>(Below.heap_setCell w p u k (by rintro rfl;rcases hp with hp|hp;exact hn hp;omega)).trans (h.block k hk hn)⟩
def cH.cell{H:List Nat}{w w':aV}(h:cH H w w'){p:Addr}(hp:p.block<w.heap.size)(hn:p.block∉H):w'.cell? p=w.cell? p:=World.cell?_of_block (w:=w) (h.block p.block hp hn)
def cH.frozen{H:List Nat}{w w':aV}(h:cH H w w'){p:Addr}(hp:p.block<w.heap.size)(hn:p.block∉H):w'.frozen? p=w.frozen? p:=World.frozen?_of_block (w:=w) (h.block p.block hp hn)
def cH.below{H:List Nat}{w w':aV}{B:Nat}(h:cH H w w')(hB:B <= w.heap.size)(hH:∀x,x∈H -> B <= x):Below B w w':=
 ⟨h.os,h.tape,h.output,h.size,λk hk=>h.block k Y λhm=>by have:=hH k hm;omega⟩
def cH.old{H:List Nat}{w w':aV}(h:cH H w w'){p:Addr}{u:aM}(hc:(bi H w).cell? p=some u):w'.cell? p=some u:=by
 obtain ⟨h1,h2⟩:=nW hc;rw [h.cell (lL h1) h2];exact h1
def dr.mono{w w':aV}(hm:∀a u,w.cell? a=some u -> w'.cell? a=some u){v:aM}{n:Nat}{cells:List aM}(h:dr w v n cells):dr w' v n cells:=by
 obtain ⟨a,cap,rfl,hc,hr⟩:=h;refine ⟨a,cap,J,hc,?_⟩;rcases hr with h0|⟨b,off,rfl,hr⟩
 ·exact .inl h0
 exact .inr ⟨b,off,J,λj u hj=>hm _ _ (hr j u hj)⟩
def dr.hide_new(H:List Nat)(w:aV)(l:List aM)(T:bA)(n k:Nat)(hk:k=w.heap.size)(hH:∀x,x∈H -> x<w.heap.size):dr (bi H (w.alloc (Obj.cells l.toArray T))) (.slice (some ⟨k,0,none⟩) n n) n l:=by
 obtain ⟨a,cap,he,hc,hr⟩:=dr.new_at w l T n k hk;refine ⟨a,cap,he,hc,?_⟩;rcases hr with h0|⟨b,off,rfl,hr⟩
 ·exact .inl h0
 refine .inr ⟨b,off,J,λj u hj=>?_⟩;have hb:b=k:=by injection he with h1;injection h1 with h2;injection h2 with h3;exact h3.symm
 rw [np]
 ·exact hr j u hj
 intro hm;have:=hH b hm;omega
mutual
def iu.mono{w w':aV}(hm:∀a u,w.cell? a=some u -> w'.cell? a=some u):∀(e:aP) {cs:List aM},iu w e cs -> iu w' e cs
 |.mk op num name args,cs,h=>by
  rw [iu] at h⊢;obtain ⟨v,rows,rfl,h1,h2⟩:=h;exact ⟨v,rows,J,h1.mono hm,lA.mono hm args h2⟩
def lA.mono{w w':aV}(hm:∀a u,w.cell? a=some u -> w'.cell? a=some u):∀(l:List aP) {rows:List (List aM)},lA w l rows -> lA w' l rows
 |[],rows,h=>by rw [lA] at h⊢;exact h
 |e::es,rows,h=>by
  rw [lA] at h⊢;obtain ⟨r,rs,rfl,h1,h2⟩:=h;exact ⟨r,rs,J,iu.mono hm e h1,lA.mono hm es h2⟩
end
def jr.mono{α:Type}{w w':aV}(hm:∀a u,w.cell? a=some u -> w'.cell? a=some u){R R':α -> List aM -> Prop}{z:Nat}{v:aM}{l:List α}(h:jr w R z v l)(hR:∀a cs,a∈l -> R a cs -> R' a cs):jr w' R' z v l:=by
 obtain ⟨rows,h1,h2,h3⟩:=h;exact ⟨rows,h1.mono hm,h2,λk h h'=>⟨hR _ _ (List.getElem_mem h) (h3 k h h').1,(h3 k h h').2⟩⟩
def p6.mono{w w':aV}(hm:∀a u,w.cell? a=some u -> w'.cell? a=some u){r:cD}{cs:List aM}(h:p6 w r cs):p6 w' r cs:=by
 obtain ⟨v,rfl,h⟩:=h;exact ⟨v,J,h.mono hm λa cs _ h=>iu.mono hm a h⟩
def pf.mono{w w':aV}(hm:∀a u,w.cell? a=some u -> w'.cell? a=some u){a:cK}{cs:List aM}(h:pf w a cs):pf w' a cs:=by
 obtain ⟨cr,ce,rfl,h1,h2⟩:=h;exact ⟨cr,ce,J,h1.mono hm,iu.mono hm _ h2⟩
mutual
def kT.mono{w w':aV}(hm:∀a u,w.cell? a=some u -> w'.cell? a=some u):∀(s:aL) {cs:List aM},kT w s cs -> kT w' s cs
 |.mk k name e r args t el,cs,h=>by
  rw [kT] at h⊢;obtain ⟨ce,cr,va,vt,ve,rt,re,rfl,h1,h2,h3,h4,h5,h6,h7⟩:=h;exact ⟨ce,cr,va,vt,ve,rt,re,J,iu.mono hm _ h1,h2.mono hm,h3.mono hm (λ_ _ _ h=>pf.mono hm h),h4.mono hm,js.mono hm t h5,h6.mono hm,js.mono hm el h7⟩
def js.mono{w w':aV}(hm:∀a u,w.cell? a=some u -> w'.cell? a=some u):∀(l:List aL) {rows:List (List aM)},js w l rows -> js w' l rows
 |[],rows,h=>by rw [js] at h⊢;exact h
 |e::es,rows,h=>by
  rw [js] at h⊢;obtain ⟨r,rs,rfl,h1,h2⟩:=h;exact ⟨r,rs,J,kT.mono hm e h1,js.mono hm es h2⟩
end
def pn.mono{w w':aV}(hm:∀a u,w.cell? a=some u -> w'.cell? a=some u){f:bE}{cs:List aM}(h:pn w f cs):pn w' f cs:=by
 obtain ⟨vp,vb,rfl,h1,h2⟩:=h;exact ⟨vp,vb,J,h1.mono hm (λ_ _ _ h=>h),h2.mono hm (λ_ _ _ h=>kT.mono hm _ h)⟩
def uH.mono{w w':aV}(hm:∀a u,w.cell? a=some u -> w'.cell? a=some u){p:aZ}{cs:List aM}(h:uH w p cs):uH w' p cs:=by
 obtain ⟨vg,vm,vf,rfl,h1,h2,h3⟩:=h;exact ⟨vg,vm,vf,J,h1.mono hm (λ_ _ _ h=>h),h2.mono hm (λ_ _ _ h=>h),h3.mono hm (λ_ _ _ h=>pn.mono hm h)⟩
def G'{P:Program}(w:aV){o:Oper}{a:Act}{K:Act -> aV -> Prop}{Q:Exit -> Act -> aV -> Prop}(s x:bc)(t:bA)
  (ho:o.op=.call {callee:=.builtin .append,args:=#[s,x],argTypes:=#[t,t]})
  (base:Nat) (e:bA) (i:TypeInfo) (z:aM) (size bytes:Nat) (ht:P.underlying t=some (.slice e)) (hi:P.info? e=some i) (hz:i.zero=some z)
  (hsize:i.size=size) (hby:i.bytes=bytes) (hzs:z.cells.size=size) (hsz:0<size)
  (v:aM) (n:Nat) (xs:List aM) (hs:a.eval s=v) (hown:w.ownsRow base e size v n xs)
  (ad:Addr) (m c:Nat) (news:List aM) (hx:a.eval x=.slice (some ad) m c) (hl:news.length=m*size) (hnews:∀j u,news[j]?=some u -> w.cell? (ad.add j)=some u) (h1:∀u∈news,u.oneCell'=true)
  (h63:n+m <= maxLen) (hbytes:(n+m)*bytes <= 140737488355328) (hbase:base <= w.heap.size)
  (h:∀v' w',w'.ownsRow base e size v' (n+m) (xs++news) -> w.grownBy w' v.ownBlock -> (∀g,v'.ownBlock=some g -> v.ownBlock=some g∨w.heap.size <= g) -> K (a.put o.dst v') w'):o.wp P a w K Q:=by
 obtain ⟨v',w',hr,h2,h3,h4⟩:=run_append_own (P:=P) w base t o.type e i z size bytes ht hi hz hsize hby hzs hsz v n xs hown ad m c news hl hnews h1 h63 hbytes hbase;have hfr:∀g,v'.ownBlock=some g -> v.ownBlock=some g∨w.heap.size <= g:=by
  rcases hown.2 with ⟨hv0,hn0⟩|⟨g,cap,cur,hv0,hbg,hg,hnc,hcm,hcs,htake⟩
  ·obtain ⟨v2,w2,hr2,h5,_,_⟩:=run_append_own (P:=P) w w.heap.size t o.type e i z size bytes ht hi hz hsize hby hzs hsz v n xs ⟨hown.1,.inl ⟨hv0,hn0⟩⟩ ad m c news hl hnews h1 h63 hbytes (bW _);rw [hr] at hr2;injection hr2 with aa e2
   subst aa;intro k hk;exact Or.inr (h5.lt k hk).1
  subst hv0;by_cases hroom:n+m <= cap
  ·have hr2:=run_append_room (P:=P) w t o.type e i ht hi g n cap cur hg ad m c news (by rw [hsize];exact hl) hnews h1 hroom (by rw [hsize,hl,hcs,←yI];exact Nat.mul_le_mul_right _ hroom);rw [hr] at hr2;injection hr2 with aa e2
   subst aa;intro k hk;exact .inl hk
  have holds:∀j u,xs[j]?=some u -> w.cell? ((⟨g,0,none⟩:Addr).add j)=some u:=hown.cells (g:=g) J;have hr2:=run_append_grow (P:=P) w t o.type e i z ht hi hz ⟨g,0,none⟩ n cap xs (by rw [hsize];exact hown.1) holds ad m c news (by rw [hsize];exact hl) hnews Y (by simp only [maxLen] at h63;omega) (by rw [hby];exact growslice_fits Y hbytes);rw [hr] at hr2;injection hr2 with aa e2
  subst aa;intro k hk;simp [Value.ownBlock] at hk;exact .inr Y
 unfold Oper.wp execOp;simp only [ho,resolve,invoke,builtin,Sem.run_bind,Sem.run_pure,Result.andThen_ok,km,cd,fg,hs,hx,hr];exact h v' w' h2 h3 hfr
inductive aN where
 |val (v:Value)
 |sl (n:Nat) (cs:List aN)
inductive jK (w:World):aN -> Value -> Prop
 |val (v:Value) (h:v.oneCell'=true):jK w (.val v) v
 |sl (n:Nat) (cs:List aN) (us:List Value) (v:Value) (h:dr w v n us) (hl:us.length=cs.length) (hr:∀i (h:i<cs.length) (h':i<us.length),jK w cs[i] us[i]) (hcap:∀a k c,v=.slice a k c -> c <= 9223372036854775807):jK w (.sl n cs) v
structure dH (w:World) (cs:List aN) (us:List Value):Prop where
 len:us.length=cs.length
 at_:∀i (h:i<cs.length) (h':i<us.length),jK w cs[i] us[i]
inductive AT where
 |c (x:aN)
 |agg (cs:List aN)
 |tup (ts:List AT)
 |el (cs:List aN)
 |raw (v:Value)
 |fact (t:AT) (b o:Nat) (cs:List aN)
 |ride (t:AT) (p:World -> Prop)
def fl(w w':World):Prop:=(∀a u,w.cell? a=some u -> w'.cell? a=some u) /\ ∀(g:Nat)(cs:Array Value)(t:TypeId)(fz:Nat×Nat),w.heap[g]?=some (Obj.cells cs t fz) -> cs.size≠0 -> w'.heap[g]?=some (Obj.cells cs t fz)
def fl.trans{w w1 w2:aV}(h:fl w w1)(k:fl w1 w2):fl w w2:=⟨λa u x=>k.1 a u (h.1 a u x),λg cs t fz x y=>k.2 g cs t fz (h.2 g cs t fz x y) y⟩
inductive cN (w:World):AT -> Value -> Prop
 |c (x:aN) (v:Value) (h:jK w x v):cN w (.c x) v
 |agg (cs:List aN) (us:List Value) (h:dH w cs us):cN w (.agg cs) (.agg us.toArray)
 |tup (ts:List AT) (vs:List Value) (hl:vs.length=ts.length) (h:∀i (h:i<ts.length) (h':i<vs.length),cN w ts[i] vs[i]):cN w (.tup ts) (.tuple vs.toArray)
 |el (cs:List aN) (b o:Nat) (us:List Value) (h:dH w cs us) (hc:∀j u,us[j]?=some u -> w.cell? ⟨b,o+j,none⟩=some u) (hb:b<w.heap.size):cN w (.el cs) (.pointer (some ⟨b,o,none⟩))
 |raw (v:Value):cN w (.raw v) v
 |fact (t:AT) (b o:Nat) (cs:List aN) (us:List Value) (v:Value) (h:cN w t v) (hc:dH w cs us) (ha:∀j u,us[j]?=some u -> w.cell? ⟨b,o+j,none⟩=some u):cN w (.fact t b o cs) v
 |ride (t:AT) (p:World -> Prop) (v:Value) (h:cN w t v) (hp:∀w',fl w w' -> p w'):cN w (.ride t p) v
def jK.mono{w w':aV}(hm:fl w w'){x:aN}{v:aM}(h:jK w x v):jK w' x v:=by
 induction h with
 |val v h=>exact .val v h
 |sl n cs us v h hl _ hcap ih=>exact .sl n cs us v (h.mono hm.1) hl ih hcap
def dH.mono{w w':aV}(hm:fl w w'){cs:List aN}{us:List aM}(h:dH w cs us):dH w' cs us:=⟨h.len,λi h1 h2=>(h.at_ i h1 h2).mono hm⟩
def cN.mono{w w':aV}(hm:fl w w')(hs:w.heap.size <= w'.heap.size){x:AT}{v:aM}(h:cN w x v):cN w' x v:=by
 induction h with
 |c x v h=>exact .c x v (h.mono hm)
 |agg cs us h=>exact .agg cs us (h.mono hm)
 |tup ts vs hl _ ih=>exact .tup ts vs hl ih
 |el cs b o us h hc hb=>exact .el cs b o us (h.mono hm) (λj u hj=>hm.1 _ _ (hc j u hj)) Y
 |raw v=>exact .raw v
 |fact t b o cs us v _ hc ha ih=>exact .fact t b o cs us v ih (hc.mono hm) (λj u hj=>hm.1 _ _ (ha j u hj))
 |ride t p v _ hp ih=>exact .ride t p v ih (λw'' h=>hp w'' (hm.trans h))
def dH.nil(w:aV):dH w [] []:=⟨rfl,λi h=>absurd h aK⟩
def dH.cons{w:aV}{c:aN}{u:aM}{cs:List aN}{us:List aM}(h:jK w c u)(t:dH w cs us):dH w (c::cs) (u::us):=
 ⟨by simp [t.len],λi h1 h2=>by cases i with|zero=>exact h|succ i=>exact t.at_ i q' mR⟩
def mW(w:aV):∀(us:List aM),(∀u,u∈us -> u.oneCell'=true) -> dH w (us.map .val) us
 |[],_=>.nil w
 |u::us,h=>.cons (.val u (h u aK)) (mW w us λx hx=>h x vx)
def jK.one{w:aV}{x:aN}{v:aM}(h:jK w x v):v.oneCell'=true:=by
 cases h with
 |val _ h=>exact h
 |sl n cs us v hr hl hh=>obtain ⟨a,cap,he,_⟩:=hr;rw [he];rfl
def dH.get{w:aV}{cs:List aN}{us:List aM}(h:dH w cs us){i:Nat}{x:aN}(hx:cs[i]?=some x):∃u,us[i]?=some u /\ jK w x u:=by
 obtain ⟨hi,rfl⟩:=mM.1 hx;have h2:i<us.length:=BH;exact ⟨us[i],by simp [h2],h.at_ i hi h2⟩
def dH.drop{w:aV}{cs:List aN}{us:List aM}(h:dH w cs us)(k:Nat):dH w (cs.drop k) (us.drop k):=
 ⟨by simp [h.len],λi h1 h2=>by simpa using h.at_ (k+i) D9 EL⟩
def dH.take{w:aV}{cs:List aN}{us:List aM}(h:dH w cs us)(k:Nat):dH w (cs.take k) (us.take k):=
 ⟨by simp [h.len],λi h1 h2=>by simpa using h.at_ i D9 EL⟩
def dH.app{w:aV}{cs ds:List aN}{us vs:List aM}(h:dH w cs us)(k:dH w ds vs):dH w (cs++ds) (us++vs):=by
 refine ⟨by simp [h.len,k.len],λi h1 h2=>?_⟩;rcases iQ i cs.length with hi|hi
 ·rw [pj hi,pj BH];exact h.at_ _ _ _
 rw [pC hi,pC BH];have e:=h.len;simp only [e];exact k.at_ _ D9 EL
def dH.set{w:aV}{cs:List aN}{us:List aM}(h:dH w cs us)(k:Nat){x:aN}{u:aM}(hx:jK w x u):dH w (cs.set k x) (us.set k u):=by
 refine ⟨by simp [h.len],λi h1 h2=>?_⟩;rw [CS,CS];split
 ·exact hx
 exact h.at_ _ _ _
def dH.one{w:aV}{cs:List aN}{us:List aM}(h:dH w cs us):∀u,u∈us -> u.oneCell'=true:=by
 intro u hu;obtain ⟨i,hi,rfl⟩:=jQ hu;exact (h.at_ i (by rw [←h.len];exact hi) hi).one
def aO(u:Value):List Nat:=match u.ownBlock with|some g=>[g]|none=>[]
structure aT where
 b:Nat
 T:TypeId
 cs:List aN
structure aS where
 v:Value
 E:TypeId
 z:Nat
 n:Nat
 cs:List aN
def wg(g:Nat):Value:=.slice (some ⟨g,1,none⟩) 0 0
def nC(e:MapEntry):List Value:=e.key::e.val.cells.toList
def ob(m:Nat)(e:MapEntry):Prop:=(∃k,e.key=.string k) /\ if m=0 then e.val.oneCell'=true else ∃us:List Value,e.val=.agg us.toArray /\ us.length=m
structure RH (w:World) (r:aS) (us:List Value):Prop where
 z0:r.z=0
 is:∃g es clock,r.v=wg g /\ w.heap[g]?=some (.map es clock) /\ es.size=r.n /\ us=es.toList.flatMap nC /\ ∀e,e∈es.toList -> ob r.E e
def m8(w:World)(r:aS)(us:List Value):Prop:=w.ownsRow 0 r.E r.z r.v r.n us∨RH w r us
def m8.row{w:aV}{r:aS}{us:List aM}(h:m8 w r us)(hz:0<r.z):w.ownsRow 0 r.E r.z r.v r.n us:=h.resolve_right λh=>by have:=h.z0;omega
def m8.row0{w:aV}{r:aS}{us:List aM}(h:m8 w r us){g n c:Nat}(hv:r.v=.slice (some ⟨g,0,none⟩) n c):w.ownsRow 0 r.E r.z r.v r.n us:=h.resolve_right λh=>by
 obtain ⟨g',es,cl,e,-⟩:=h.is;rw [hv] at e;cases e
def m8.keep{w w1:aV}{r:aS}{us:List aM}(h:m8 w r us)(hk:∀g,g∈aO r.v -> w1.heap[g]?=w.heap[g]?):m8 w1 r us:=by
 rcases h with ⟨h1,h2⟩|⟨h0,g,es,cl,h1,h2,h3⟩
 ·refine .inl ⟨h1,?_⟩;rcases h2 with h2|⟨g,cap,cur,hv,hg,hh,r⟩
  ·exact .inl h2
  exact .inr ⟨g,cap,cur,hv,hg,by rw [hk g (by rw [hv];simp [aO,Value.ownBlock])];exact hh,r⟩
 exact .inr ⟨h0,g,es,cl,h1,by rw [hk g (by rw [h1];simp [aO,wg,Value.ownBlock])];exact h2,h3⟩
structure aH where
 boxes:List aT
 rows:List aS
def aH.bl(s:aH):List Nat:=s.boxes.map aT.b++s.rows.flatMap λr=>aO r.v
structure Mem (s:aH) (w:World):Prop where
 nodup:s.bl.Nodup
 lt:∀b,b∈s.bl -> b<w.heap.size
 box:∀x,x∈s.boxes -> ∃us,(∃fz:Nat×Nat,(fz=(0,0)∨us.length <= fz.1) /\ w.heap[x.b]?=some (.cells us.toArray x.T fz)) /\ dH (bi s.bl w) x.cs us
 row:∀r,r∈s.rows -> ∃us,m8 w r us /\ dH (bi s.bl w) r.cs us
structure AS where
 n:Nat
 T:List Nat
 s:aH
 ts:List (Nat×AT)
def look:List (Nat×AT) -> Nat -> Option AT
 |[],_=>none
 |(i,t)::r,j=>if i=j then some t else look r j
structure eS (st:AS) (a:Act) (w:World):Prop where
 df:a.defers=[]
 sz:a.tmps.size=st.n
 tm:∀i t,look st.ts i=some t -> ∃v,a.tmps[i]?=some v /\ cN (bi st.s.bl w) t v
 mem:Mem st.s w
structure gj (st:AS) (w:World) (st':AS) (w':World):Prop where
 keep:cH st.s.bl w w'
 keepT:cH st.T w w'
 bl:∀b,b∈st'.s.bl -> b∈st.s.bl∨w.heap.size <= b
 T:∀b,b∈st'.T -> b∈st.T∨w.heap.size <= b
def Et{T T1:List Nat}{w w1 w2:aV}(h:cH T w w1)(k:cH T1 w1 w2)(hT:∀b,b∈T1 -> b∈T∨w.heap.size <= b):cH T w w2:=
 ⟨k.os.trans h.os,k.tape.trans h.tape,k.output.trans h.output,gb h.size k.size,λi hi hn=>(k.block i (k_ hi h.size) (λhm=>(hT i hm).elim hn (λh=>Y))).trans (h.block i hi hn)⟩
def gj.trans{s0 s1 s2:AS}{w0 w1 w2:aV}(h:gj s0 w0 s1 w1)(k:gj s1 w1 s2 w2):gj s0 w0 s2 w2:=
 ⟨Et h.keep k.keep h.bl,Et h.keepT k.keepT h.T,λb hb=>(k.bl b hb).elim (h.bl b) (λh1=>.inr (gb h.keep.size h1)),λb hb=>(k.T b hb).elim (h.T b) (λh1=>.inr (gb h.keep.size h1))⟩
def gj.refl(st:AS)(w:aV):gj st w st w:=⟨cH.refl _ _,cH.refl _ _,λ_ h=>.inl h,λ_ h=>.inl h⟩
def FN{bl:List Nat}{w:aV}{g:Nat}{cs:Array aM}{t:bA}{fz:Nat×Nat}(h:(bi bl w).heap[g]?=some (.cells cs t fz))(h0:cs.size≠0):g∉bl /\ w.heap[g]?=some (.cells cs t fz):=by
 have hn:g∉bl:=λhm=>by
  have hlt:g<w.heap.size:=by
   have:=(tQ.1 h).1;rwa [Aq] at this
  unfold bi at h;rw [zq,dif_pos hlt] at h;simp only [if_pos hm,vQ,Obj.cells.injEq] at h;exact h0 (by rw [←h.1];rfl)
 exact ⟨hn,by rw [xg _ _ _ hn] at h;exact h⟩
def kR{T bl bl1:List Nat}{w w1:aV}(hk:cH T w w1)(hT:∀b,b∈T -> b∈bl)(hb:∀b,b∈bl1 -> b∈bl∨w.heap.size <= b):fl (bi bl w) (bi bl1 w1):=by
 refine ⟨λa u h=>?_,λg cs t fz h h0=>?_⟩
 ·obtain ⟨h1,h2⟩:=nW h;have hl:=lL h1;rw [np _ _ _ (λhm=>(hb _ hm).elim h2 (λh=>Y)),hk.cell hl (λhm=>h2 (hT _ hm))];exact h1
 obtain ⟨h2,h1⟩:=FN h h0;have hl:g<w.heap.size:=(tQ.1 h1).1;rw [xg _ _ _ (λhm=>(hb _ hm).elim h2 (λh=>Y)),hk.block g hl (λhm=>h2 (hT _ hm))];exact h1
def PI(bl:List Nat)(w:aV):fl (bi bl w) w:=⟨λ_ _ h=>(nW h).1,λ_ _ _ _ h h0=>(FN h h0).2⟩
def up_sub{bl bl1:List Nat}{w:aV}(hb:∀b,b∈bl1 -> b∈bl):fl (bi bl w) (bi bl1 w):=kR (T:=[]) (cH.refl _ _) gr (λb h=>.inl (hb b h))
def wL{bl bl1:List Nat}{w w1:aV}(h:w.heap.size <= w1.heap.size):(bi bl w).heap.size <= (bi bl1 w1).heap.size:=by rw [Aq,Aq];exact h
def cN.keep{T bl bl1:List Nat}{w w1:aV}{t:AT}{v:aM}(h:cN (bi bl w) t v)(hk:cH T w w1)(hT:∀b,b∈T -> b∈bl)(hb:∀b,b∈bl1 -> b∈bl∨w.heap.size <= b):cN (bi bl1 w1) t v:=
 h.mono (kR hk hT hb) (wL hk.size)
def eS.put{st:AS}{a:Act}{w:aV}{d:Nat}{t:AT}{v:aM}(h:eS st a w)(hd:d<st.n)(hr:cN (bi st.s.bl w) t v):eS {st with ts:=(d,t)::st.ts} (a.put (some d) v) w:=by
 refine ⟨h.df,by simp [Act.put,h.sz],λi u hu=>?_,h.mem⟩;simp only [look] at hu;split at hu
 ·rename_i he;subst he;cases hu;exact ⟨v,by simp [Act.put,h.sz,hd],hr⟩
 rename_i he;obtain ⟨x,h1,h2⟩:=h.tm i u hu;exact ⟨x,by simp only [Act.put];rw [KP he];exact h1,h2⟩
def cN.keepB{bl bl1:List Nat}{w w1:aV}{t:AT}{v:aM}(h:cN (bi bl w) t v)(hk:cH bl w w1)(hb:∀b,b∈bl1 -> b∈bl∨w.heap.size <= b):cN (bi bl1 w1) t v:=h.keep hk (λ_ h=>h) hb
def eS.step{st:AS}{a:Act}{w w1:aV}{s1:aH}(T1:List Nat)(h:eS st a w)(hk:cH st.s.bl w w1)(hm:Mem s1 w1)(hb:∀b,b∈s1.bl -> b∈st.s.bl∨w.heap.size <= b):eS {st with s:=s1,T:=T1} a w1:=
 ⟨h.df,h.sz,λi t ht=>let ⟨v,h1,h2⟩:=h.tm i t ht;⟨v,h1,h2.keepB hk hb⟩,hm⟩
def Cx(bl:List Nat)(w:aV):fl (bi bl w) (bi bl w.drew):=kR (T:=[]) (cH.refl _ _).drew gr (λb h=>.inl h)
def Mem.drew{s:aH}{w:aV}(h:Mem s w):Mem s w.drew:=
 ⟨h.nodup,h.lt,λx hx=>let ⟨us,h1,h2⟩:=h.box x hx;⟨us,h1,h2.mono (Cx _ _)⟩,λr hr=>let ⟨us,h1,h2⟩:=h.row r hr;⟨us,h1.keep λ_ _=>rfl,h2.mono (Cx _ _)⟩⟩
def eS.drew{st:AS}{a:Act}{w:aV}(h:eS st a w):eS st a w.drew:=⟨h.df,h.sz,λi t ht=>let ⟨v,h1,h2⟩:=h.tm i t ht;⟨v,h1,h2.mono (Cx _ _) (wL (bW _))⟩,h.mem.drew⟩
def fy:Value -> AT
 |.agg cs=>if cs.toList.all (·.oneCell') then .agg (cs.toList.map .val) else .raw (.agg cs)
 |.tuple vs=>.raw (.tuple vs)
 |v=>.c (.val v)
def wq(w:aV)(v:aM):cN w (fy v) v:=by
 cases v with
 |agg cs=>
  show cN w (if cs.toList.all (·.oneCell') then .agg (cs.toList.map .val) else .raw (.agg cs)) _
  split
  ·rename_i h;exact cN.agg _ cs.toList (mW w _ λu hu=>by simpa using d3.1 h u hu)
  ·exact .raw _
 |tuple vs=>exact .raw _
 |_=>exact cN.c _ _ (.val _ rfl)
def AT.bare:AT -> AT
 |.fact (.fact t _ _ _) _ _ _=>t
 |.fact t _ _ _=>t
 |.ride t _=>t
 |t=>t
def cN.bare{w:aV}{t:AT}{v:aM}(h:cN w t v):cN w t.bare v:=by
 cases h with
 |fact t b o cs us v h _ _=>
  cases h with
  |fact t b o cs us v h _ _=>exact h
  |c x v h=>exact .c x v h
  |agg cs us h=>exact .agg cs us h
  |tup ts vs hl h=>exact .tup ts vs hl h
  |el cs b o us h hc hb=>exact .el cs b o us h hc hb
  |raw v=>exact .raw v
  |ride t p v h hp=>exact .ride t p v h hp
 |c x v h=>exact .c x v h
 |agg cs us h=>exact .agg cs us h
 |tup ts vs hl h=>exact .tup ts vs hl h
 |el cs b o us h hc hb=>exact .el cs b o us h hc hb
 |raw v=>exact .raw v
 |ride t p v h _=>exact h
def ay(st:AS):Operand -> Option AT
 |.tmp t=>(look st.ts t).map AT.bare
 |.const v=>some (fy v)
 |.global g=>some (.c (.val (.pointer (some ⟨g,0,none⟩))))
 |.func f=>some (.c (.val (.func (.func f) #[] #[])))
def eS.ev{st:AS}{a:Act}{w:aV}(h:eS st a w){x:bc}{t:AT}(hx:ay st x=some t):cN (bi st.s.bl w) t (a.eval x):=by
 cases x with
 |tmp i=>
  obtain ⟨t0,h0,rfl⟩:=wm.1 hx;obtain ⟨v,h1,h2⟩:=h.tm i t0 h0;show cN _ _ (a.tmps.getD i undef);rw [jB,h1];exact h2.bare
 |const v=>cases hx;exact wq _ v
 |global g=>cases hx;exact cN.c _ _ (.val _ rfl)
 |func f=>cases hx;exact cN.c _ _ (.val _ rfl)
def eS.val{st:AS}{a:Act}{w:aV}(h:eS st a w){x:bc}{v:aM}(hx:ay st x=some (.c (.val v))):a.eval x=v:=by
 have:=h.ev hx;generalize a.eval x=u at this;cases this with|c _ _ h=>cases h;rfl
def um(want:Bool):Value -> Bool
 |.bool b=>b == want
 |_=>false
def dn(ops:Array Oper)(o:Oper)(st:AS):Option Bool:=
 match o.guard with
 |none=>some true
 |some (j,want)=>
  match (ops.toList[j]?).bind (·.dst) with
  |none=>none
  |some t=>match look st.ts t with
   |some (.c (.val v))=>some (um want v)
   |some (.raw v)=>some (um want v)
   |_=>none
def tz{ops:Array Oper}{o:Oper}{st:AS}{a:Act}{w:aV}{b:Bool}(h:eS st a w)(hw:dn ops o st=some b):Region.wanted o (yielded ops a.tmps)=b:=by
 unfold dn at hw;unfold Region.wanted;cases hg:o.guard with
 |none=>rw [hg] at hw;cases hw;rfl
 |some p=>
  obtain ⟨j,want⟩:=p;rw [hg] at hw;dsimp only at hw⊢;cases hd:(ops.toList[j]?).bind (·.dst) with
  |none=>rw [hd] at hw;cases hw
  |some t=>
   rw [hd] at hw;dsimp only at hw;cases hl:look st.ts t with
   |none=>rw [hl] at hw;cases hw
   |some x=>
    have key:∀v,(∀u,cN (bi st.s.bl w) x u -> u=v) -> some (um want v)=some b -> ((yielded ops a.tmps j) == some want)=b:=by
     intro v hv hw;injection hw with hw
     obtain ⟨u,h1,h2⟩:=h.tm t _ hl;have hu:u=v:=hv u h2;subst hu;have hd':(ops[j]?).bind (·.dst)=some t:=by rw [←ly];exact hd
     rw [←hw];have hy:∀z:Option aM,a.tmps[t]?=z -> yielded ops a.tmps j=(match z with|some (.bool b)=>some b|_=>none):=by
      rintro _ rfl;unfold yielded;rw [hd'];rfl
     rw [hy _ h1];clear hy h2 hl hw h1 hv;cases u<;>simp [um]
    cases x with
    |c y=>
     cases y with
     |val v=>
      rw [hl] at hw;exact key v (λu hu=>by cases hu with|c _ _ h=>cases h;rfl) hw
     |sl _ _=>rw [hl] at hw;cases hw
    |raw v=>
     rw [hl] at hw;exact key v (λu hu=>by cases hu;rfl) hw
    |_=>rw [hl] at hw;cases hw
section
variable {P:Program}
def bo(P:Program)(c:Code)(st:AS)(Q:Exit -> AS -> Prop):Prop:=
 ∀a w,eS st a w -> ∀QQ:Exit -> Act -> World -> Prop,(∀e a' w' st',Q e st' -> eS st' a' w' -> gj st w st' w' -> QQ e a' w') -> c.wp P QQ a w
def cL(P:Program)(ops:Array Oper)(l:List Oper)(st:AS)(Q:Exit -> AS -> Prop):Prop:=
 ∀a w,eS st a w -> ∀QQ:Exit -> Act -> World -> Prop,(∀e a' w' st',Q e st' -> eS st' a' w' -> gj st w st' w' -> QQ e a' w') -> wpList P ops QQ l a w
def cf(P:Program)(U:List Nat)(o:Oper)(st:AS)(t:AT):Prop:=
 ∀a w,eS st a w -> (∀b,b∈U -> b∈st.s.bl) -> ∃v,cN (bi st.s.bl w) t v /\ ∀w',cH U w w' -> (execOp a.eval o).run P w'=.ok (.value v) w'
def dN(P:Program)(U:List Nat)(o:Oper)(st:AS)(K:AS -> Prop):Prop:=
 ∀a w,eS st a w -> ∀(KK:Act -> World -> Prop)(QQ:Exit -> Act -> World -> Prop),(∀a' w' st',K st' -> eS st' a' w' -> gj st w st' w' -> cH U w w' -> KK a' w') -> o.wp P a w KK QQ
def j_(K:AS -> Prop)(Q:Exit -> AS -> Prop):Exit -> AS -> Prop
 |.normal,s=>K s
 |e,s=>Q e s
def o8(id:Nat)(Q:Exit -> AS -> Prop):Exit -> AS -> Prop
 |.exit id',s=>if id'=id then Q .normal s else Q (.exit id') s
 |e,s=>Q e s
theorem qP{c:Code}{st:AS}{Q Q':Exit -> AS -> Prop}(h:bo P c st Q)(hq:∀e s,Q e s -> Q' e s):bo P c st Q':=
 λa w hs QQ hQ=>h a w hs QQ λe a' w' st' q=>hQ e a' w' st' (hq _ _ q)
def Sub(st st':AS):Prop:=∀a w,eS st a w -> eS st' a w /\ (∀b,b∈st'.s.bl -> b∈st.s.bl) /\ ∀b,b∈st'.T -> b∈st.T
theorem Sub.ext{st st':AS}(h:Sub st st'){a:Act}{w:aV}(hs:eS st a w):gj st w st' w:=⟨cH.refl _ _,cH.refl _ _,λb hb=>.inl ((h a w hs).2.1 b hb),λb hb=>.inl ((h a w hs).2.2 b hb)⟩
theorem Sub.refl(st:AS):Sub st st:=λa w h=>⟨h,λ_ h=>h,λ_ h=>h⟩
theorem Sub.trans{a b c:AS}(h:Sub a b)(k:Sub b c):Sub a c:=λx w hs=>⟨(k x w (h x w hs).1).1,λy hy=>(h x w hs).2.1 y ((k x w (h x w hs).1).2.1 y hy),λy hy=>(h x w hs).2.2 y ((k x w (h x w hs).1).2.2 y hy)⟩
theorem rA{c:Code}{st st':AS}{Q:Exit -> AS -> Prop}(hs:Sub st st')(h:bo P c st' Q):bo P c st Q:=
 λa w hS QQ hQ=>h a w (hs a w hS).1 QQ λe a' w' st2 q s2 k=>hQ e a' w' st2 q s2 ((hs.ext hS).trans k)
theorem rh{ops:Array Oper}{l:List Oper}{st st':AS}{Q:Exit -> AS -> Prop}(hs:Sub st st')(h:cL P ops l st' Q):cL P ops l st Q:=
 λa w hS QQ hQ=>h a w (hs a w hS).1 QQ λe a' w' st2 q s2 k=>hQ e a' w' st2 q s2 ((hs.ext hS).trans k)
theorem AG{x y:Code}{st:AS}{Q:Exit -> AS -> Prop}(h:bo P x st (j_ (λs=>bo P y s Q) Q)):bo P (.seq x y) st Q:=by
 intro a w hs QQ hQ;refine wp_seq (h a w hs _ ?_);intro e a' w' st' q s' k;cases e with
 |normal=>exact q a' w' s' QQ λe a2 w2 st2 q2 s2 k2=>hQ e a2 w2 st2 q2 s2 (k.trans k2)
 |_=>exact hQ _ a' w' st' q s' k
theorem iB{c:bc}{x y:Code}{st:AS}{Q:Exit -> AS -> Prop}{b:Bool}(hc:ay st c=some (.c (.val (.bool b))))(ht:b=true -> bo P x st Q)(hf:b=false -> bo P y st Q):bo P (.cond c x y) st Q:=by
 intro a w hs QQ hQ;exact wp_cond_split (hs.val hc) (λh=>ht h a w hs QQ hQ) (λh=>hf h a w hs QQ hQ)
theorem Vu{id:Nat}{c:Code}{st:AS}{Q:Exit -> AS -> Prop}(h:bo P c st (o8 id Q)):bo P (.block id c) st Q:=by
 intro a w hs QQ hQ;refine wp_block (h a w hs _ ?_);intro e a' w' st' q s' k;cases e with
 |exit id'=>
  simp only [o8] at q;simp only [Exit.inBlock];split
  ·rename_i he;rw [if_pos he] at q;exact hQ _ a' w' st' q s' k
  ·rename_i he;rw [if_neg he] at q;exact hQ _ a' w' st' q s' k
 |_=>exact hQ _ a' w' st' q s' k
theorem Vk{id:Nat}{st:AS}{Q:Exit -> AS -> Prop}(h:Q (.exit id) st):bo P (.exit id) st Q:=λa w hs QQ hQ=>wp_exit (hQ _ a w st h hs (gj.refl _ _))
theorem RE{st:AS}{Q:Exit -> AS -> Prop}(h:Q .ret st):bo P .ret st Q:=λa w hs QQ hQ=>wp_ret (hQ _ a w st h hs (gj.refl _ _))
theorem VO{st:AS}{Q:Exit -> AS -> Prop}(h:Q .normal st):bo P .skip st Q:=λa w hs QQ hQ=>wp_skip (hQ _ a w st h hs (gj.refl _ _))
theorem ff{α:Type}(I:α -> AS)(p:α -> Prop)(μ:α -> Nat)(g0:α){c:Code}{st:AS}{Q:Exit -> AS -> Prop}(hs:Sub st (I g0))(hp:p g0)
  (round:∀g,p g -> bo P c (I g) (j_ (λs=>∃g',p g' /\ μ g'<μ g /\ Sub s (I g')) Q)):bo P (.loop c) st Q:=by
 intro a w hS QQ hQ;refine wp_loop_ghost (λn a' w'=>∃g,p g /\ μ g=n /\ eS (I g) a' w' /\ gj st w (I g) w') (μ g0) ⟨g0,hp,J,(hs a w hS).1,hs.ext hS⟩ ?_;rintro n a1 w1 ⟨g,hg,rfl,s1,k1⟩;refine round g hg a1 w1 s1 _ ?_;intro e a' w' st' q s' k;cases e with
 |normal=>
  obtain ⟨g',hg',hlt,hsub⟩:=q;exact ⟨_,hlt,g',hg',J,(hsub a' w' s').1,(k1.trans k).trans (hsub.ext s')⟩
 |_=>exact hQ _ a' w' st' q s' (k1.trans k)
theorem F3{id:Nat}{l:List Oper}{st:AS}{Q:Exit -> AS -> Prop}(h:cL P l.toArray l st Q):bo P (.region id l.toArray false) st Q:=
 λa w hs QQ hQ=>wp_region_lit (h a w hs QQ hQ)
theorem FL{ops:Array Oper}{st:AS}{Q:Exit -> AS -> Prop}(h:Q .normal st):cL P ops [] st Q:=λa w hs QQ hQ=>hQ _ a w st h hs (gj.refl _ _)
theorem NC{ops:Array Oper}{o:Oper}{l:List Oper}{st:AS}{Q:Exit -> AS -> Prop}{d:Nat}{t:AT}(hw:dn ops o st=some true)(hd:o.dst=some d)(hn:d<st.n)(hy:cf P [] o st t)
  (h:cL P ops l {st with ts:=(d,t)::st.ts} Q):cL P ops (o::l) st Q:=by
 intro a w hs QQ hQ;obtain ⟨v,hr,hx⟩:=hy a w hs gr;refine wpList_step λK hK=>?_;rw [if_pos (tz hs hw)];unfold Oper.wp;rw [hx w (cH.refl _ _),Oper.upon_value,hd];exact hK _ _ (h _ _ (hs.put hn hr) QQ λe a' w' st' q s' k=>hQ e a' w' st' q s' ⟨k.keep,k.keepT,k.bl,k.T⟩)
theorem NK{ops:Array Oper}{o:Oper}{l:List Oper}{st:AS}{Q:Exit -> AS -> Prop}{d:Nat}(hw:dn ops o st=some false)(hd:o.dst=some d)(hn:d<st.n)
  (h:cL P ops l {st with ts:=(d,.raw undef)::st.ts} Q):cL P ops (o::l) st Q:=by
 intro a w hs QQ hQ;refine wpList_step λK hK=>?_;rw [if_neg (by rw [tz hs hw];decide),hd];exact hK _ _ (h _ _ (hs.put hn (.raw _)) QQ λe a' w' st' q s' k=>hQ e a' w' st' q s' ⟨k.keep,k.keepT,k.bl,k.T⟩)
theorem Nj{ops:Array Oper}{o:Oper}{l:List Oper}{st:AS}{Q:Exit -> AS -> Prop}(hw:dn ops o st=some true)(h:dN P st.T o st λs=>cL P ops l s Q):cL P ops (o::l) st Q:=by
 intro a w hs QQ hQ;refine wpList_step λK hK=>?_;rw [if_pos (tz hs hw)];refine h a w hs K QQ λa' w' st' q s' k _=>hK _ _ (q a' w' s' QQ λe a2 w2 st2 q2 s2 k2=>hQ e a2 w2 st2 q2 s2 (k.trans k2))
theorem EN{md:Region.Mode}{ops:Array Oper}{Q:Exit -> Act -> aV -> Prop}{S S':aV -> Prop}(hS:∀w,S' w -> S w):∀(fuel:Nat)(listed:Array Bool)(a:Act)(w:aV),wpAnyH P md ops Q S' fuel listed a w -> wpAnyH P md ops Q S fuel listed a w
 |0,_,_,_,h=>h
 |fuel+1,_,_,_,h=>⟨h.1,λi hi=>wpOp_mono (λ_ _ h'=>⟨hS _ h'.1,EN hS fuel _ _ _ h'.2⟩) (h.2 i hi)⟩
def fG(s:aH)(Z:List Nat):List Nat:=s.bl.filter λb=>!Z.contains b
theorem gK{s:aH}{Z:List Nat}{b:Nat}:b∈fG s Z↔b∈s.bl /\ b∉Z:=by unfold fG;simp
theorem RO{s:aH}{Z:List Nat}:∀b,b∈fG s Z -> b∈s.bl:=λ_ h=>(gK.1 h).1
def dh(P:Program)(ops:Array Oper)(Z:List Nat)(fuel:Nat)(listed:Array Bool)(st:AS)(Q:AS -> Prop):Prop:=
 ∀a w,eS st a w -> ∀QQ:Exit -> Act -> World -> Prop,(∀c a w,¬QQ (.panic c) a w) -> (∀a' w' st',Q st' -> eS st' a' w' -> gj st w st' w' -> QQ .normal a' w') ->
  wpAnyH P .any ops QQ (λw'=>cH (fG st.s Z) w w') fuel listed a w
theorem T8{id:Nat}{ops:Array Oper}{st:AS}{Q:Exit -> AS -> Prop}(Z:List Nat)(hm:P.follows .mixedOrders=true)(h:dh P ops Z ops.size (Array.replicate ops.size false) st (Q .normal)):bo P (.region id ops true) st Q:=by
 intro a w hs QQ hQ;refine Code.wp_mono (Q:=λe a' w'=>match e with|.normal=>QQ .normal a' w'|_=>False) JI ?_;refine wp_region_held_drew (S:=λw'=>cH (fG st.s Z) w.drew w') hm (cH.refl _ _) λ_=>?_;refine h a w.drew hs.drew _ (λ_ _ _ q=>q) λa' w' st' q s' k=>hQ _ a' w' st' q s' ⟨⟨k.keep.os,k.keep.tape,k.keep.output,k.keep.size,k.keep.block⟩,⟨k.keepT.os,k.keepT.tape,k.keepT.output,k.keepT.size,k.keepT.block⟩,k.bl,k.T⟩
theorem S3{ops:Array Oper}{Z:List Nat}{fuel:Nat}{listed:Array Bool}{st:AS}{Q:AS -> Prop}(hr:Region.ready .any ops listed=[])(h:Q st):dh P ops Z fuel listed st Q:=
 λa w hs QQ _ hQ=>wpAnyH_done hr (hQ a w st h hs (gj.refl _ _)) _
theorem M_(i:Nat){ops:Array Oper}{Z:List Nat}{fuel:Nat}{listed:Array Bool}{st:AS}{Q:AS -> Prop}{o:Oper}{d:Nat}{t:AT}(hr:(Region.ready .any ops listed).contains i=true)(hi:ops.toList[i]?=some o)(hf:Region.free .any ops listed i=true)(hsel:Region.noSelect ops=true)
  (hw:dn ops o st=some true) (hd:o.dst=some d) (hn:d<st.n) (hy:cf P (fG st.s Z) o st t) (h:dh P ops Z fuel (listed.setIfInBounds i true) {st with ts:=(d,t)::st.ts} Q):dh P ops Z (fuel+1) listed st Q:=by
 intro a w hs QQ hp hQ;obtain ⟨v,hrep,hx⟩:=hy a w hs RO;refine wpAnyH_take (v:=v) EQ hsel hf hr (λc a w q=>(hp _ _ _ q).elim) (Or.inl ⟨tz hs hw,hx⟩) (cH.refl _ _) ?_;rw [hd];exact h _ _ (hs.put hn hrep) QQ hp λa' w' st' q s' k=>hQ a' w' st' q s' ⟨k.keep,k.keepT,k.bl,k.T⟩
theorem Q8(i:Nat){ops:Array Oper}{Z:List Nat}{fuel:Nat}{listed:Array Bool}{st:AS}{Q:AS -> Prop}{o:Oper}{d:Nat}(hr:(Region.ready .any ops listed).contains i=true)(hi:ops.toList[i]?=some o)(hf:Region.free .any ops listed i=true)(hsel:Region.noSelect ops=true)
  (hw:dn ops o st=some false) (hd:o.dst=some d) (hn:d<st.n) (h:dh P ops Z fuel (listed.setIfInBounds i true) {st with ts:=(d,.raw undef)::st.ts} Q):dh P ops Z (fuel+1) listed st Q:=by
 intro a w hs QQ hp hQ;refine wpAnyH_take (v:=undef) EQ hsel hf hr (λc a w q=>(hp _ _ _ q).elim) (Or.inr ⟨tz hs hw,J⟩) (cH.refl _ _) ?_;rw [hd];exact h _ _ (hs.put hn (.raw _)) QQ hp λa' w' st' q s' k=>hQ a' w' st' q s' ⟨k.keep,k.keepT,k.bl,k.T⟩
def AL(P:Program)(ops:Array Oper)(Z:List Nat)(fuel:Nat)(listed:Array Bool)(st:AS)(Q:AS -> Prop)(rs:List Nat):Prop:=
 ∀a w,eS st a w -> ∀QQ:Exit -> Act -> World -> Prop,(∀c a w,¬QQ (.panic c) a w) -> (∀a' w' st',Q st' -> eS st' a' w' -> gj st w st' w' -> QQ .normal a' w') ->
  AllReadyH P .any ops QQ (λw'=>cH (fG st.s Z) w w') fuel listed a w rs
theorem yj{rs:List Nat}{ops:Array Oper}{Z:List Nat}{fuel:Nat}{listed:Array Bool}{st:AS}{Q:AS -> Prop}(hr:Region.ready .any ops listed=rs)(hne:rs.isEmpty=false)(h:AL P ops Z fuel listed st Q rs):dh P ops Z (fuel+1) listed st Q:=
 λa w hs QQ hp hQ=>wpAnyH_ready hr (by cases rs;cases hne;simp) (h a w hs QQ hp hQ)
theorem yT{ops:Array Oper}{Z:List Nat}{fuel:Nat}{listed:Array Bool}{st:AS}{Q:AS -> Prop}:AL P ops Z fuel listed st Q []:=λa w hs QQ hp hQ=>AllReadyH.nil
theorem sB{i:Nat}{rs:List Nat}{ops:Array Oper}{Z:List Nat}{fuel:Nat}{listed:Array Bool}{st:AS}{Q:AS -> Prop}{o:Oper}(hi:ops.toList[i]?=some o)(hw:dn ops o st=some true)
  (h:dN P (fG st.s Z) o st λs=>dh P ops Z fuel (listed.setIfInBounds i true) s Q) (hs2:AL P ops Z fuel listed st Q rs):AL P ops Z fuel listed st Q (i::rs):=by
 intro a w hs QQ hp hQ;refine AllReadyH.cons EQ (λK' hK=>?_) (hs2 a w hs QQ hp hQ);rw [if_pos (tz hs hw)];refine h a w hs K' QQ λa' w' st' q s' k hk=>?_;refine hK.out a' w' hk λ_=>?_;refine EN (S':=λw2=>cH (fG st'.s Z) w' w2) (λw2 h2=>Et hk h2 λb hb=>?_) _ _ _ _ ?_
 ·obtain ⟨h3,h4⟩:=gK.1 hb;exact (k.bl b h3).imp (λh5=>gK.2 ⟨h5,h4⟩) id
 exact q a' w' s' QQ hp λa2 w2 st2 q2 s2 k2=>hQ a2 w2 st2 q2 s2 (k.trans k2)
def aR(P:Program)(F:FuncId)(args:List AT)(T:List Nat)(s:aH)(Q:AT -> aH -> Prop):Prop:=
 ∀(vs:List Value)(w:World),Mem s w -> (∀b,b∈T -> b∈s.bl) -> vs.length=args.length -> (∀i (h:i<args.length) (h':i<vs.length),cN (bi s.bl w) args[i] vs[i]) ->
  Calls P F vs.toArray w λen w'=>∃r v s',en=.returned v /\ Q r s' /\ cN (bi s'.bl w') r v /\ Mem s' w' /\ cH T w w' /\ ∀b,b∈s'.bl -> b∈s.bl∨w.heap.size <= b
theorem aR.mono{F:FuncId}{args:List AT}{T:List Nat}{s:aH}{Q Q':AT -> aH -> Prop}(h:aR P F args T s Q)(hq:∀r s,Q r s -> Q' r s):aR P F args T s Q':=
 λvs w hm hT hl hr=>(h vs w hm hT hl hr).mono λ_ _ ⟨r,v,s',h1,h2,h3⟩=>⟨r,v,s',h1,hq _ _ h2,h3⟩
theorem Mu{α β:Type}(f:α -> List β){l m:List α}(h:l.Sublist m):(l.flatMap f).Sublist (m.flatMap f):=by
 induction h with
 |slnil=>exact List.Sublist.slnil
 |cons a _ ih=>rw [fD];exact ih.trans (List.sublist_append_right _ _)
 |cons_cons a _ ih=>rw [fD,fD];exact zn (tS _) ih
def jU(s s':aH):Prop:=∀w,Mem s w -> Mem s' w /\ ∀b,b∈s'.bl -> b∈s.bl
theorem jU.refl(s:aH):jU s s:=λ_ h=>⟨h,λ_ h=>h⟩
theorem aj{s s':aH}(h1:s'.boxes.Sublist s.boxes)(h2:s'.rows.Sublist s.rows):jU s s':=by
 intro w hm;have hbl:s'.bl.Sublist s.bl:=zn (h1.map _) (Mu _ h2);have hu:fl (bi s.bl w) (bi s'.bl w):=up_sub λb hb=>hbl.subset hb;exact ⟨⟨hbl.nodup hm.nodup,λb hb=>hm.lt b (hbl.subset hb),λx hx=>let ⟨us,e,r⟩:=hm.box x (h1.subset hx);⟨us,e,r.mono hu⟩,λx hx=>let ⟨us,e,r⟩:=hm.row x (h2.subset hx);⟨us,e,r.mono hu⟩⟩,λb hb=>hbl.subset hb⟩
def mN(P:Program)(fn:Func)(st:AS)(r:AT):Prop:=∀a w,eS st a w -> ∃v,cN (bi st.s.bl w) r v /\ (results fn a.tmps).run P w=.ok v w
def sC:Nat -> List AT -> List (Nat×AT)
 |_,[]=>[]
 |k,t::ts=>(k,t)::sC (k+1) ts
theorem MC:∀(ts:List AT)(k i:Nat)(t:AT),look (sC k ts) i=some t -> k <= i /\ ts[i-k]?=some t
 |[],_,_,_,h=>gM
 |u::ts,k,i,t,h=>by
  simp only [sC,look] at h;split at h
  ·rename_i he;subst he;cases h;simp
  obtain ⟨h1,h2⟩:=MC ts (k+1) i t h;refine ⟨Y,?_⟩;obtain ⟨j,rfl⟩:∃j,i=k+1+j:=⟨i-(k+1),Y⟩;have aa:k+1+j-k=j+1:=Y;have e2:k+1+j-(k+1)=j:=Y;rw [aa];rw [e2] at h2;simpa using h2
theorem F9{F:FuncId}{fn:Func}{c:Code}{args:List AT}{T:List Nat}{s:aH}{Q:AT -> aH -> Prop}(hf:P.funcs[F]?=some fn)(hb:fn.body=some c)(hl:args.length <= fn.ntmps)
  (h:bo P c ⟨fn.ntmps,T,s,sC 0 args⟩ λe st=>(e=.normal∨e=.ret) /\ ∃r s',mN P fn st r /\ jU st.s s' /\ Q r s'):aR P F args T s Q:=by
 intro vs w hm hT hvl hr;refine calls_of_wp hf hb ?_;refine h _ w ⟨J,?_,λi t ht=>?_,hm⟩ _ ?_
 ·simp;omega
 ·obtain ⟨-,h2⟩:=MC args 0 i t ht;simp only [xP] at h2;obtain ⟨hi,rfl⟩:=mM.1 h2;have hi':i<vs.length:=Y;refine ⟨vs[i],?_,hr i hi hi'⟩;rw [DL (by simpa using hi')];simp [hi']
 intro e a' w' st' q s' k;obtain ⟨he,r,s2,hres,hsub,hq⟩:=q;obtain ⟨v,h1,h2⟩:=hres a' w' s';obtain ⟨hm2,hbl⟩:=hsub w' s'.mem;rcases he with rfl|rfl;rotate_left;all_goals
  exact ⟨s'.df,v,h2,⟨r,v,s2,J,hq,h1.mono (up_sub hbl) (wL (bW _)),hm2,k.keepT,λb hb=>k.bl b (hbl b hb)⟩⟩
end
end
section
open Go.RowKit
def Am(op:BinOp)(k:IntKind)(m n:Int):Option Int:=match op with|.add=>some (k.wrap (m+n))|.sub=>some (k.wrap (m-n))|.mul=>some (k.wrap (m*n))|_=>none
def eU(op:BinOp)(m n:Int):Option Bool:=match op with|.eql=>some (m == n)|.neq=>some (m != n)|.lss=>some (decide (m<n))|.leq=>some (decide (m <= n))|.gtr=>some (decide (n<m))|.geq=>some (decide (n <= m))|_=>none
def Ls(op:BinOp)(k:IntKind)(m n:Int):Option Int:=match op with|.quo=>some (k.wrap (m.tdiv n))|.rem=>some (m.tmod n)|_=>none
def kb(op:BinOp)(m n:ByteArray):Option Bool:=match op with|.eql=>some (decide (m=n))|.neq=>some (!decide (m=n))|_=>none
def xE(op:BinOp)(m n:Bool):Option Bool:=match op with|.eql=>some (m == n)|.neq=>some (m != n)|_=>none
section
variable {P:Program}{U:List Nat}{o:Oper}{st:AS}
theorem cN.val{w:aV}{x v:aM}(h:cN w (.c (.val x)) v):v=x:=by cases h with|c _ _ h=>cases h;rfl
theorem nQ{x:bc}{t:AT}(ho:o.op=.move x)(hx:ay st x=some t):cf P U o st t:=by
 intro a w hs _;exact ⟨a.eval x,hs.ev hx,λw' _=>by simp only [execOp,ho];rfl⟩
theorem wK{x:bc}{t:AT}(ho:o.op=.assign x)(hx:ay st x=some t):cf P U o st t:=by
 intro a w hs _;exact ⟨a.eval x,hs.ev hx,λw' _=>by simp only [execOp,ho];rfl⟩
theorem I1{c x y:bc}{b:Bool}{t:AT}(ho:o.op=.pick c x y)(hc:ay st c=some (.c (.val (.bool b))))(hx:ay st (if b then x else y)=some t):cf P U o st t:=by
 intro a w hs _;refine ⟨a.eval (if b then x else y),hs.ev hx,λw' _=>?_⟩;simp only [execOp,ho,hs.val hc];cases b<;>simp [go_sem]
theorem iF{v:aM}(h1:v.oneCell'=true)(h:∀a w,eS st a w -> ∀w',(execOp a.eval o).run P w'=.ok (.value v) w'):cf P U o st (.c (.val v)):=
 λa w hs _=>⟨v,.c _ _ (.val _ h1),λw' _=>h a w hs w'⟩
theorem Mk{op:BinOp}{k:IntKind}{t yt:bA}{x y:bc}{m n r:Int}(ho:o.op=.binOp op t x y yt)(hx:ay st x=some (.c (.val (.int k m))))(hy:ay st y=some (.c (.val (.int k n))))
  (hr:Am op k m n=some r):cf P U o st (.c (.val (.int k r))):=
 iF rfl λa w hs w'=>by
  simp only [execOp,ho,hs.val hx,hs.val hy];cases op<;>simp_all [go_sem,eqGuard,binOp,Op.intArith,Am]
theorem ej{op:BinOp}{k:IntKind}{t yt:bA}{x y:bc}{m n:Int}(r:Bool)(ho:o.op=.binOp op t x y yt)(hx:ay st x=some (.c (.val (.int k m))))(hy:ay st y=some (.c (.val (.int k n))))
  (hr:eU op m n=some r):cf P U o st (.c (.val (.bool r))):=
 iF rfl λa w hs w'=>by
  simp only [execOp,ho,hs.val hx,hs.val hy];cases op<;>simp_all [go_sem,eqGuard,binOp,Op.intCmp,eU]
theorem A7{op:BinOp}{k:IntKind}{t yt:bA}{x y:bc}{m n r:Int}(ho:o.op=.binOp op t x y yt)(hx:ay st x=some (.c (.val (.int k m))))(hy:ay st y=some (.c (.val (.int k n))))(hn:n≠0)
  (hr:Ls op k m n=some r):cf P U o st (.c (.val (.int k r))):=
 iF rfl λa w hs w'=>by
  simp only [execOp,ho,hs.val hx,hs.val hy];cases op<;>simp_all [go_sem,eqGuard,binOp,Op.intDiv,Ls]
theorem eo{op:BinOp}{t yt:bA}{x y:bc}{m n:aG}(r:Bool)(ho:o.op=.binOp op t x y yt)(hx:ay st x=some (.c (.val (.string m))))(hy:ay st y=some (.c (.val (.string n))))
  (hr:kb op m n=some r):cf P U o st (.c (.val (.bool r))):=
 iF rfl λa w hs w'=>by
  have e:(m.toList == n.toList)=decide (m=n):=by
   by_cases h:m=n
   ·rw [Fh h,decide_eq_true h]
   rw [L6 h,decide_eq_false h]
  simp only [execOp,ho,hs.val hx,hs.val hy];cases op<;>simp_all [go_sem,eqGuard,binOp,Op.stringOp,kb]
theorem Dk{t yt:bA}{x y:bc}{m n:aG}(ho:o.op=.binOp .add t x y yt)(hx:ay st x=some (.c (.val (.string m))))(hy:ay st y=some (.c (.val (.string n))))(hl:m.size+n.size <= 9223372036854775807):cf P U o st (.c (.val (.string (m++n)))):=
 iF rfl λa w hs w'=>by
  have h:¬(((m.size+n.size:Nat):Int)>IntKind.i64.max):=by rw [show IntKind.i64.max=9223372036854775807 from by decide];omega
  simp only [execOp,ho,hs.val hx,hs.val hy];simp [go_sem,eqGuard,binOp,Op.stringOp];omega
theorem run_equal_bool(d:Nat){t:bA}(m n:Bool)(w:aV)(hu:∀w,(underlying t).run P w=.ok .bool w):(Op.equalIn (d+1) t (.bool m) (.bool n)).run P w=.ok (m == n) w:=by
 simp [Op.equalIn,go_sem,hu]
theorem io{op:BinOp}{t yt:bA}{x y:bc}{m n:Bool}(r:Bool)(ho:o.op=.binOp op t x y yt)(hx:ay st x=some (.c (.val (.bool m))))(hy:ay st y=some (.c (.val (.bool n))))
  (hu:∀w,(underlying t).run P w=.ok .bool w) (hr:xE op m n=some r):cf P U o st (.c (.val (.bool r))):=
 iF rfl λa w hs w'=>by
  have e2:(Op.equal t (.bool m) (.bool n)).run P w'=.ok (m == n) w':=run_equal_bool _ m n w' hu;generalize hg:Op.equal t (.bool m) (.bool n)=E at e2;simp only [execOp,ho,hs.val hx,hs.val hy];cases op<;>simp_all [go_sem,eqGuard,binOp,bne,xE]
theorem iY{t:bA}{x:bc}{m:Bool}(ho:o.op=.unOp .not t x)(hx:ay st x=some (.c (.val (.bool m)))):cf P U o st (.c (.val (.bool (!m)))):=
 iF rfl λa w hs w'=>by
  simp only [execOp,ho,hs.val hx];simp [go_sem,Op.unary]
theorem VJ{t:bA}{x:bc}{k:IntKind}{m:Int}(ho:o.op=.unOp .neg t x)(hx:ay st x=some (.c (.val (.int k m)))):cf P U o st (.c (.val (.int k (k.wrap (0-m))))):=
 iF rfl λa w hs w'=>by
  simp only [execOp,ho,hs.val hx];simp [go_sem,Op.unary,Op.intArith]
theorem Nq{x:bc}{b off:Nat}(ho:o.op=.nilCheck x)(hx:ay st x=some (.c (.val (.pointer (some ⟨b,off,none⟩))))):cf P U o st (.c (.val (.pointer (some ⟨b,off,none⟩)))):=
 iF rfl λa w hs w'=>by
  simp only [execOp,ho,hs.val hx]
  rfl
theorem U1{x:bc}{cs:List aN}(ho:o.op=.nilCheck x)(hx:ay st x=some (.el cs)):cf P U o st (.el cs):=by
 intro a w hs _;have h:=hs.ev hx;generalize he:a.eval x=u at h;refine ⟨u,h,λw' _=>?_⟩;cases h with
 |el _ b of us h1 h2 h3=>
  simp only [execOp,ho,he]
  rfl
theorem UK{x:bc}{t:bA}{s:aG}(ho:o.op=.call {callee:=.builtin .len,args:=#[x],argTypes:=#[t]})(hx:ay st x=some (.c (.val (.string s))))(hu:∀w,(underlying t).run P w=.ok .string w):cf P U o st (.c (.val (.int .i64 s.size))):=
 iF rfl λa w hs w'=>by
  simp only [execOp,ho,resolve,km,cd,fg,hs.val hx];simp [go_sem,invoke,builtin,Builtin.len_,hu,goInt]
theorem Qq{x:bc}{t e:bA}{p:Option Addr}{n m:Nat}(ho:o.op=.call {callee:=.builtin .len,args:=#[x],argTypes:=#[t]})(hx:ay st x=some (.c (.val (.slice p n m))))(hu:∀w,(underlying t).run P w=.ok (.slice e) w):cf P U o st (.c (.val (.int .i64 n))):=
 iF rfl λa w hs w'=>by
  simp only [execOp,ho,resolve,km,cd,fg,hs.val hx];simp [go_sem,invoke,builtin,Builtin.len_,hu,goInt]
theorem Pi{x:bc}{t e:bA}{n:Nat}{cs:List aN}(ho:o.op=.call {callee:=.builtin .len,args:=#[x],argTypes:=#[t]})(hx:ay st x=some (.c (.sl n cs)))(hu:∀w,(underlying t).run P w=.ok (.slice e) w):cf P U o st (.c (.val (.int .i64 n))):=
 iF rfl λa w hs w'=>by
  have h:=hs.ev hx;generalize he:a.eval x=u at h;cases h with
  |c _ _ h=>cases h with
   |sl n cs us v hr hl hh=>
    obtain ⟨p,cap,rfl,-⟩:=hr;simp only [execOp,ho,resolve,km,cd,fg,he];simp [go_sem,invoke,builtin,Builtin.len_,hu,goInt]
end
end
section
open Go.RowKit
section
variable {P:Program}{U:List Nat}{o:Oper}{st:AS}
def gV(ag:Bool)(z:Nat)(cs:List aN)(off:Nat):Option AT:=
 if ag then (if off+z <= cs.length then some (.agg ((cs.drop off).take z)) else none) else (cs[off]?).map .c
theorem qG(b o k:Nat):(⟨b,o,none⟩:Addr).add k=⟨b,o+k,none⟩:=xp
theorem run_loadCells{w:aV}{b o:Nat}{us:List aM}(hc:∀j u,us[j]?=some u -> w.cell? ⟨b,o+j,none⟩=some u):∀(n i:Nat)(acc:Array aM),i+n <= us.length -> (loadCellsFrom ⟨b,o,none⟩ i n acc).run P w=.ok (acc++((us.drop i).take n).toArray) w
 |0,i,acc,_=>by simp [loadCellsFrom,go_sem]
 |n+1,i,acc,h=>by
  have hi:i<us.length:=Y;have h1:=hc i us[i] (by simp [hi]);have ih:=run_loadCells hc n (i+1) (acc.push us[i]) Y;rw [loadCellsFrom];have e:(load ((⟨b,o,none⟩:Addr).add i)).run P w=.ok us[i] w:=by
   rw [qG];simp only [load,Sem.run,h1]
  rw [Sem.run_bind,e,Result.andThen_ok,ih]
  congr 1
  rw [iK hi,jI];simp
theorem yH{w:aV}{bl:List Nat}{t:bA}{ag:Bool}{z b o off:Nat}{cs:List aN}{us:List aM}{r:AT}(hA:∀w,(isAgg t).run P w=.ok ag w)(hS:∀w,(sizeOf t).run P w=.ok z w)(hr:dH (bi bl w) cs us)(hp:gV ag z cs off=some r):
  ∃v,cN (bi bl w) r v /\ ∀w',(∀j u,us[j]?=some u -> w'.cell? ⟨b,o+j,none⟩=some u) -> (loadVar t ⟨b,o+off,none⟩).run P w'=.ok v w':=by
 unfold gV at hp;cases ag with
 |true=>
  simp only [if_true] at hp;split at hp
  ·rename_i hl;cases hp;refine ⟨_,.agg _ _ ((hr.drop off).take z),λw' hc=>?_⟩;have h2:=run_loadCells (P:=P) (w:=w') (b:=b) (o:=o+off) (us:=us.drop off) (λj u hj=>by rw [oi] at hj;rw [qw];exact hc _ _ hj) z 0 #[] (by simp [hr.len];omega);simp only [loadVar,Sem.run_bind,hA,Result.andThen_ok,if_true,hS,loadCells,h2];simp [go_sem]
  ·cases hp
 |false=>
  simp only [lK,if_false,wm] at hp;obtain ⟨x,hx,rfl⟩:=hp;obtain ⟨u,hu,hrep⟩:=hr.get hx;refine ⟨u,.c _ _ hrep,λw' hc=>?_⟩;have h1:=hc off u hu;simp only [loadVar,Sem.run_bind,hA,Result.andThen_ok,lK,if_false,load,Sem.run,h1]
theorem jh{t:bA}{x:bc}{cs:List aN}{ag:Bool}{z:Nat}{r:AT}(ho:o.op=.load t x)(hx:ay st x=some (.el cs))(hA:∀w,(isAgg t).run P w=.ok ag w)(hS:∀w,(sizeOf t).run P w=.ok z w)(hp:gV ag z cs 0=some r):cf P U o st r:=by
 intro a w hs hU;have h:=hs.ev hx;generalize he:a.eval x=u at h;cases h with
 |el _ b of us h1 h2 h3=>
  obtain ⟨v,hv,hl⟩:=yH (P:=P) (b:=b) (o:=of) hA hS h1 hp;refine ⟨v,hv,λw' hk=>?_⟩;have hl2:=hl w' (λj u hj=>by
   obtain ⟨h4,h5⟩:=nW (h2 j u hj);rw [hk.cell (lL h4) (λhm=>h5 (hU _ hm))];exact h4)
  simp only [execOp,ho,he,Instr.loadAt,Instr.sureAddr,Sem.run_bind,Sem.run_pure,Result.andThen_ok,sY] at hl2⊢;rw [hl2];rfl
theorem ca{t:bA}{x:bc}{b off:Nat}{T:bA}{cs:List aN}{ag:Bool}{z:Nat}{r:AT}(A:List aT){B:List aT}(hA:∀w,(isAgg t).run P w=.ok ag w)(hS:∀w,(sizeOf t).run P w=.ok z w)(ho:o.op=.load t x:=by exact rfl)(hx:ay st x=some (.c (.val (.pointer (some ⟨b,off,none⟩)))):=by exact rfl)(hb:st.s.boxes=A++⟨b,T,cs⟩::B:=by exact rfl)(hp:gV ag z cs off=some r:=by exact rfl)(hU:st.s.bl.Nodup -> b∉U:=by exact λ_ h=>gM):cf P U o st r:=by
 intro a w hs hU2;have hmem:(⟨b,T,cs⟩:aT)∈st.s.boxes:=rR;obtain ⟨us,⟨fz,-,h1⟩,h2⟩:=hs.mem.box _ hmem;obtain ⟨v,hv,hl⟩:=yH (P:=P) (b:=b) (o:=0) hA hS h2 hp;refine ⟨v,hv,λw' hk=>?_⟩;have hlt:b<w.heap.size:=hs.mem.lt b (fj _ (gH.2 ⟨_,hmem,J⟩));have hh:=hk.block b hlt (hU hs.mem.nodup);have hl2:=hl w' (λj u hj=>by
  unfold World.cell?;simp only [hh,h1];simpa using hj)
 simp only [e0] at hl2;simp only [execOp,ho,hs.val hx,Instr.loadAt,Instr.sureAddr,Sem.run_bind,Sem.run_pure,Result.andThen_ok];rw [hl2];rfl
def qg(fs:Array Field)(f:Nat):Option (Nat×TypeId):=(fs[f]?).map λx=>(x.offset,x.type)
theorem GO{t ft:bA}{fs:Array Field}{f off z b p:Nat}{w:aV}(hu:∀w,(underlying t).run P w=.ok (.struct fs) w)(hf:qg fs f=some (off,ft))(hS:∀w,(sizeOf ft).run P w=.ok z w)(hz:z≠0):
  (Instr.fieldAt t (.pointer (some ⟨b,p,none⟩)) f).run P w=.ok (.pointer (some ⟨b,p+off,none⟩)) w:=by
 unfold qg at hf;cases hx:fs[f]? with
 |none=>rw [hx] at hf;cases hf
 |some x=>
  rw [hx] at hf;simp only [nt,vQ,iN] at hf;obtain ⟨rfl,rfl⟩:=hf;simp only [Instr.fieldAt,Sem.run_bind,hu,Result.andThen_ok,hx,Instr.sureAddr,Sem.run_pure,fieldPlace,hS,if_neg hz,qG]
theorem qL(off q:Nat){t ft:bA}{x:bc}{fs:Array Field}{f z b p:Nat}(ho:o.op=.fieldAddr t x f)(hx:ay st x=some (.c (.val (.pointer (some ⟨b,p,none⟩)))))(hu:∀w,(underlying t).run P w=.ok (.struct fs) w)(hf:qg fs f=some (off,ft))(hS:∀w,(sizeOf ft).run P w=.ok z w)(hz:z≠0)(hq:p+off=q):cf P U o st (.c (.val (.pointer (some ⟨b,q,none⟩)))):=
 iF rfl λa w hs w'=>by
  subst hq;simp only [execOp,ho,hs.val hx,Sem.run_bind,GO hu hf hS hz];rfl
theorem cN.el_drop{w:aV}{cs:List aN}{b p:Nat}(k:Nat)(h:cN w (.el cs) (.pointer (some ⟨b,p,none⟩))):cN w (.el (cs.drop k)) (.pointer (some ⟨b,p+k,none⟩)):=by
 cases h with
 |el _ _ _ us h1 h2 h3=>exact .el _ b (p+k) (us.drop k) (h1.drop k) (λj u hj=>by rw [oi] at hj;rw [qw];exact h2 _ _ hj) h3
theorem UB(off:Nat){t ft:bA}{x:bc}{fs:Array Field}{f z:Nat}{cs:List aN}(ho:o.op=.fieldAddr t x f)(hx:ay st x=some (.el cs))(hu:∀w,(underlying t).run P w=.ok (.struct fs) w)(hf:qg fs f=some (off,ft))(hS:∀w,(sizeOf ft).run P w=.ok z w)(hz:z≠0):cf P U o st (.el (cs.drop off)):=by
 intro a w hs _;have h:=hs.ev hx;generalize he:a.eval x=u at h;have h9:=h;cases h with
 |el _ b of us h1 h2 h3=>
  refine ⟨_,h9.el_drop off,λw' _=>?_⟩;simp only [execOp,ho,he,Sem.run_bind,GO hu hf hS hz];rfl
theorem Ua(off:Nat){t ft:bA}{x:bc}{fs:Array Field}{f z:Nat}{cs:List aN}{ag:Bool}{r:AT}(ho:o.op=.field t x f)(hx:ay st x=some (.agg cs))(hu:∀w,(underlying t).run P w=.ok (.struct fs) w)(hf:qg fs f=some (off,ft))(hA:∀w,(isAgg ft).run P w=.ok ag w)(hS:∀w,(sizeOf ft).run P w=.ok z w)(hp:gV ag z cs off=some r):cf P U o st r:=by
 intro a w hs _;have h:=hs.ev hx;generalize he:a.eval x=u at h;cases h with
 |agg _ us h1=>
  unfold qg at hf;cases hxx:fs[f]? with
  |none=>rw [hxx] at hf;cases hf
  |some y=>
   rw [hxx] at hf;simp only [nt,vQ,iN] at hf;obtain ⟨rfl,rfl⟩:=hf;unfold gV at hp;cases ag with
   |true=>
    simp only [if_true] at hp;split at hp
    ·cases hp;refine ⟨_,.agg _ _ ((h1.drop _).take z),λw' _=>?_⟩;simp only [execOp,ho,he,Instr.field,Sem.run_bind,hu,Result.andThen_ok,hxx,asAgg,Sem.run_pure,part,hA,if_true,hS];simp [List.extract_eq_take_drop]
    ·cases hp
   |false=>
    simp only [lK,if_false,wm] at hp;obtain ⟨c,hc,rfl⟩:=hp;obtain ⟨v,hv,hrep⟩:=h1.get hc;refine ⟨v,.c _ _ hrep,λw' _=>?_⟩;simp only [execOp,ho,he,Instr.field,Sem.run_bind,hu,Result.andThen_ok,hxx,asAgg,Sem.run_pure,part,hA,lK,if_false];simp [hv,go_sem]
theorem J4{t e:bA}{x y:bc}{n z:Nat}{cs:List aN}{k:IntKind}{i:Int}(j:Nat)(ho:o.op=.indexAddr t x y)(hx:ay st x=some (.c (.sl n cs)))(hy:ay st y=some (.c (.val (.int k i))))(hi:i=j)(hj:j<n)(hne:j*z<cs.length)
  (hu:∀w,(underlying t).run P w=.ok (.slice e) w) (hS:∀w,(sizeOf e).run P w=.ok z w):cf P U o st (.el (cs.drop (j*z))):=by
 intro a w hs _;subst hi;have h:=hs.ev hx;generalize he:a.eval x=u at h;cases h with
 |c _ _ h=>cases h with
  |sl n cs us v hr hl hh=>
   obtain ⟨p,cap,rfl,hcap,hr⟩:=hr;rcases hr with rfl|⟨b,of,rfl,hc⟩
   ·simp at hl;omega
   have hel:cN (bi st.s.bl w) (.el cs) (.pointer (some ⟨b,of,none⟩)):=by
    have h0:0<us.length:=Y;exact .el _ b of us ⟨hl,hh⟩ hc (lL (hc 0 us[0] (by simp [h0])))
   refine ⟨_,hel.el_drop (j*z),λw' _=>?_⟩;simp only [execOp,ho,he,hs.val hy,Instr.indexAt,asIntOf,Sem.run_bind,Sem.run_pure,Result.andThen_ok,hu];simp [go_sem,hS,hj,qG]
theorem jb{t e:bA}{x y:bc}{n cap z b p:Nat}{k:IntKind}{i:Int}(j:Nat)(ho:o.op=.indexAddr t x y)(hx:ay st x=some (.c (.val (.slice (some ⟨b,p,none⟩) n cap))))(hy:ay st y=some (.c (.val (.int k i))))(hi:i=j)(hj:j<n)
  (hu:∀w,(underlying t).run P w=.ok (.slice e) w) (hS:∀w,(sizeOf e).run P w=.ok z w):cf P U o st (.c (.val (.pointer (some ⟨b,p+j*z,none⟩)))):=
 iF rfl λa w hs w'=>by
  subst hi;simp only [execOp,ho,hs.val hx,hs.val hy,Instr.indexAt,asIntOf,Sem.run_bind,Sem.run_pure,Result.andThen_ok,hu];simp [go_sem,hS,hj,qG]
theorem Rj{x:bc}{k:Nat}{ts:List AT}{t:AT}(ho:o.op=.extract x k)(hx:ay st x=some (.tup ts))(ht:ts[k]?=some t):cf P U o st t:=by
 intro a w hs _;have h:=hs.ev hx;generalize he:a.eval x=u at h;cases h with
 |tup _ vs hl hr=>
  obtain ⟨hk,rfl⟩:=mM.1 ht;have hk2:k<vs.length:=Y;refine ⟨vs[k],hr k hk hk2,λw' _=>?_⟩;simp only [execOp,ho,he,Instr.extract];simp [hk2,go_sem]
theorem MB{F:FuncId}{cap:Array bc}{vs:List aM}(ho:o.op=.makeFunc (.func F) #[] cap)(hc:cap.toList.map (ay st)=vs.map λv=>some (.c (.val v))):cf P U o st (.c (.val (.func (.func F) #[] vs.toArray))):=
 iF rfl λa w hs w'=>by
  have e:cap.map a.eval=vs.toArray:=by
   rw [←mu,vW];have:∀(l:List bc)(vs:List aM),l.map (ay st)=vs.map (λv=>some (.c (.val v))) -> l.map a.eval=vs:=by
    intro l;induction l with
    |nil=>intro vs h;cases vs with|nil=>rfl|cons=>cases h
    |cons x l ih=>
     intro vs h;cases vs with
     |nil=>cases h
     |cons v vs=>
      simp only [cd,qY] at h⊢;exact ⟨hs.val h.1,ih vs h.2⟩
   exact this _ _ hc
  simp only [execOp,ho,Instr.makeFunc,e];simp [go_sem]
end
end
section
open Go.RowKit
section
variable {P:Program}{U:List Nat}{o:Oper}{st:AS}{K:AS -> Prop}
def jo:AT -> Option (List aN)
 |.c x=>some [x]
 |.agg cs=>some cs
 |_=>none
theorem sL{w:aV}{t:AT}{cs:List aN}{v:aM}(h:jo t=some cs)(hr:cN w t v):dH w cs v.cells.toList:=by
 cases hr with
 |c x v hx=>
  cases h;have:v.cells=#[v]:=by have:=hx.one;cases v<;>first|rfl|cases this
  rw [this];exact .cons hx (.nil _)
 |agg cs' us h1=>cases h;simpa [Value.cells] using h1
 |_=>cases h
theorem Tu(b:Nat)(bl:List Nat)(w:aV)(o:Obj)(hb:b=w.heap.size):fl (bi bl w) (bi (b::bl) (w.alloc o)):=
 kR (T:=[]) ((cH.refl _ _).alloc o) gr (λx hx=>by rcases nO.1 hx with rfl|hx;exact .inr Y;exact .inl hx)
theorem Mem.up{s:aH}{w w1:aV}{bl1:List Nat}(h:Mem s w)(hu:fl (bi s.bl w) (bi bl1 w1))(hk:∀b,b∈s.bl -> w1.heap[b]?=w.heap[b]?):
  (∀x,x∈s.boxes -> ∃us,(∃fz:Nat×Nat,(fz=(0,0)∨us.length <= fz.1) /\ w1.heap[x.b]?=some (.cells us.toArray x.T fz)) /\ dH (bi bl1 w1) x.cs us) /\ (∀r,r∈s.rows -> ∃us,m8 w1 r us /\ dH (bi bl1 w1) r.cs us):=by
 refine ⟨λx hx=>?_,λr hr=>?_⟩
 ·obtain ⟨us,h1,h2⟩:=h.box x hx;exact ⟨us,by rw [hk _ (fj _ (gH.2 ⟨x,hx,rfl⟩))];exact h1,h2.mono hu⟩
 obtain ⟨us,h1,h3⟩:=h.row r hr;exact ⟨us,h1.keep λg hg=>hk g (f7 _ (jv.2 ⟨r,hr,hg⟩)),h3.mono hu⟩
theorem Mem.new{s:aH}{w:aV}(h:Mem s w)(T:bA)(cs:List aN)(us:List aM)(hr:dH (bi s.bl w) cs us):Mem ⟨⟨w.heap.size,T,cs⟩::s.boxes,s.rows⟩ (w.alloc (.cells us.toArray T)):=by
 have hu:=Tu w.heap.size s.bl w (.cells us.toArray T) J;have hne:∀b,b∈s.bl -> (w.alloc (.cells us.toArray T)).heap[b]?=w.heap[b]?:=λb hb=>((cH.refl [] w).alloc _).block b (h.lt b hb) (λh=>gM);obtain ⟨h1,h2⟩:=h.up hu hne;refine ⟨kE.2 ⟨λhm=>Nat.lt_irrefl _ (h.lt _ hm),h.nodup⟩,λb hb=>?_,λx hx=>?_,h2⟩
 ·rcases nO.1 hb with rfl|hb
  ·simp
  have:=h.lt b hb;simp;omega
 rcases nO.1 hx with rfl|hx
 ·exact ⟨us,⟨(0,0),.inl J,Fg⟩,hr.mono hu⟩
 exact h1 x hx
theorem gj.new(st:AS)(w:aV)(o:Obj)(x:aT)(hx:x.b=w.heap.size)(ts:List (Nat×AT)):gj st w {st with s:=⟨x::st.s.boxes,st.s.rows⟩,T:=x.b::st.T,ts:=ts} (w.alloc o):=
 ⟨(cH.refl _ _).alloc o,(cH.refl _ _).alloc o,λb hb=>GA,λb hb=>GA⟩
theorem LH{d:Nat}{T:bA}{cs:List aN}(hd:o.dst=some d)(hn:d<st.n)
  (hx:∀a w,eS st a w -> ∃us,dH (bi st.s.bl w) cs us /\ (execOp a.eval o).run P w=.ok (.value (.pointer (some ⟨w.heap.size,0,none⟩))) (w.alloc (.cells us.toArray T)))
  (h:∀b,K {st with s:=⟨⟨b,T,cs⟩::st.s.boxes,st.s.rows⟩,T:=b::st.T,ts:=(d,.c (.val (.pointer (some ⟨b,0,none⟩))))::st.ts}):dN P U o st K:=by
 intro a w hs KK QQ hK;obtain ⟨us,hr,hrun⟩:=hx a w hs;unfold Oper.wp;rw [hrun,Oper.upon_value,hd];have hm:=hs.mem.new T cs us hr;have s1:=hs.step (w1:=w.alloc (.cells us.toArray T)) (w.heap.size::st.T) ((cH.refl _ _).alloc _) hm (λb hb=>by rcases nO.1 hb with rfl|hb;exact .inr (bW _);exact .inl hb);exact hK _ _ _ (h w.heap.size) (s1.put hn (.c _ _ (.val _ J))) (gj.new st w _ ⟨w.heap.size,T,cs⟩ J _) ((cH.refl _ _).alloc _)
theorem Ve{T:bA}{x:bc}{t:AT}{d:Nat}{cs:List aN}(ho:o.op=.box T x)(hd:o.dst=some d)(hn:d<st.n)(hx:ay st x=some t)(hc:jo t=some cs)
  (h:∀b,K {st with s:=⟨⟨b,T,cs⟩::st.s.boxes,st.s.rows⟩,T:=b::st.T,ts:=(d,.c (.val (.pointer (some ⟨b,0,none⟩))))::st.ts}):dN P U o st K:=
 LH hd hn (λa w hs=>⟨_,sL hc (hs.ev hx),by simp only [execOp,ho,Instr.box,newVar,newRow,Sem.run_bind,run_newObj_alloc,Result.andThen_ok,Sem.run_pure,vT]⟩) h
theorem Pm{T:bA}{d:Nat}{z:aM}{cs:List aN}(ho:o.op=.alloc T)(hd:o.dst=some d)(hn:d<st.n)(hz:∀w,(zeroValue T).run P w=.ok z w)(hc:jo (fy z)=some cs)
  (h:∀b,K {st with s:=⟨⟨b,T,cs⟩::st.s.boxes,st.s.rows⟩,T:=b::st.T,ts:=(d,.c (.val (.pointer (some ⟨b,0,none⟩))))::st.ts}):dN P U o st K:=
 LH hd hn (λa w hs=>⟨_,sL hc (wq _ z),by simp only [execOp,ho,Instr.alloc,newVar,newRow,Sem.run_bind,hz,run_newObj_alloc,Result.andThen_ok,Sem.run_pure,vT]⟩) h
def splice(cs:List aN)(off:Nat)(ds:List aN):List aN:=cs.take off++ds++cs.drop (off+ds.length)
theorem dH.splice{w:aV}{cs ds:List aN}{us vs:List aM}(h:dH w cs us)(k:dH w ds vs)(off:Nat):dH w (splice cs off ds) (us.take off++vs++us.drop (off+vs.length)):=by
 unfold Go.Proofs.YtjgeihmhppadaaaGreatDoor.splice;rw [←k.len];exact ((h.take _).app k).app (h.drop _)
theorem vC(w:aV)(g:Nat)(c:Array aM):cH [g] w (w.setRow g c):=
 ⟨rfl,rfl,rfl,by simp [World.setRow],λk hk hn=>by
  unfold World.setRow;simp only [yE];rw [if_neg (λh=>hn qz)]⟩
theorem Mem.setRow{s:aH}{w:aV}{A B:List aT}{b:Nat}{T:bA}{cs ds:List aN}{us vs:List aM}{fz:Nat×Nat}(h:Mem s w)(hb:s.boxes=A++⟨b,T,cs⟩::B)(hfz:fz=(0,0)∨us.length <= fz.1)(hlv:vs.length=us.length)(h1:w.heap[b]?=some (.cells us.toArray T fz))(hr:dH (bi s.bl w) ds vs):
  Mem ⟨A++⟨b,T,ds⟩::B,s.rows⟩ (w.setRow b vs.toArray):=by
 have hbl:(⟨A++⟨b,T,ds⟩::B,s.rows⟩:aH).bl=s.bl:=rW;have hmem:b∈s.bl:=rW;have hk:=vC w b vs.toArray;have hu:fl (bi s.bl w) (bi s.bl (w.setRow b vs.toArray)):=kR hk B1 (λx hx=>.inl hx);have hnd:=h.nodup;have hne:∀x,x∈A∨x∈B -> x.b≠b:=by
  intro x hx he;have h2:(s.boxes.map aT.b).Nodup:=(du.1 hnd).1;rw [hb] at h2;simp only [ed,cd,du,kE,nO,gH] at h2;rcases hx with hx|hx
  ·exact h2.2.2 x.b ⟨x,hx,J⟩ b (.inl J) he
  exact h2.2.1.1 ⟨x,hx,he⟩
 have hrow:∀r,r∈s.rows -> b∉aO r.v:=by
  intro r hr hm;have h2:=(du.1 hnd).2.2 b rR b (jv.2 ⟨r,hr,hm⟩);exact h2 J
 refine ⟨by rw [hbl];exact hnd,λx hx=>Bs,λx hx=>?_,λr hr2=>?_⟩
 ·rw [hbl];simp only [mA,nO] at hx;have old:x∈A∨x∈B -> ∃us,(∃fz:Nat×Nat,(fz=(0,0)∨us.length <= fz.1) /\ (w.setRow b vs.toArray).heap[x.b]?=some (.cells us.toArray x.T fz)) /\ dH (bi s.bl (w.setRow b vs.toArray)) x.cs us:=λhx=>by
   have hx2:x∈s.boxes:=by rw [hb];simp only [mA,nO];rcases hx with h|h;exact .inl h;exact .inr (.inr h)
   obtain ⟨us',aa,e2⟩:=h.box x hx2;exact ⟨us',by rw [hk.block _ (h.lt _ (fj _ (gH.2 ⟨x,hx2,rfl⟩))) (by simp;exact hne x hx)];exact aa,e2.mono hu⟩
  rcases hx with hx|rfl|hx
  ·exact old (.inl hx)
  ·exact ⟨vs,⟨fz,by rw [hlv];exact hfz,setRow_heap w b us.toArray _ T fz h1⟩,hr.mono hu⟩
  exact old (.inr hx)
 rw [hbl];obtain ⟨us',aa,e3⟩:=h.row r hr2;exact ⟨us',aa.keep λg hgb=>hk.block g (h.lt g (f7 _ (jv.2 ⟨r,hr2,hgb⟩))) (by simp;intro he;subst he;exact hrow r hr2 hgb),e3.mono hu⟩
theorem Uw(P:Program)(g o:Nat)(t:bA)(fz:Nat×Nat)(vs:List aM):∀(i:Nat)(cur:Array aM)(w:aV),w.heap[g]?=some (.cells cur t fz) -> fz=(0,0)∨cur.size <= fz.1 -> o+i+vs.length <= cur.size -> (∀v∈vs,v.oneCell'=true) ->
  (storeCells ⟨g,o,none⟩ vs i).run P w=.ok () (w.setRow g (cur.toList.take (o+i)++vs++cur.toList.drop (o+i+vs.length)).toArray):=by
 induction vs with
 |nil=>
  intro i cur w hg _ _ _;simp only [storeCells,eC,List.length_nil,sY,pq,vT];rw [setRow_self w g cur t fz hg]
  rfl
 |cons v rest ih=>
  intro i cur w hg hfz hl h1;have hi:o+i<cur.size:=by simp only [wE] at hl;omega
  have hcell:w.cell? ⟨g,o+i,none⟩=some cur[o+i]:=by simp [World.cell?,hg,hi]
  have hfro:w.frozen? ⟨g,o+i,none⟩=false:=by
   obtain ⟨lo,up⟩:=fz;simp only [World.frozen?,hg,FA,decide_eq_false_iff_not];rcases hfz with h|h
   ·cases h;exact .inr Y
   dsimp only at h;exact .inl Y
  have hst:(store ((⟨g,o,none⟩:Addr).add i) v).run P w=.ok () (w.setRow g (cur.setIfInBounds (o+i) v)):=by
   rw [qG,run_store P w _ v _ (h1 v aK),hcell];simp [hfro,setCell_eq_setRow w g (o+i) cur t fz v hg]
  have e:=list_seg_step cur.toList (o+i) v rest (by simp only [wE] at hl;rw [pU];omega);have hn:=ih (i+1) (cur.setIfInBounds (o+i) v) (w.setRow g (cur.setIfInBounds (o+i) v)) (setRow_heap w g cur _ t _ hg) (by simpa using hfz) (by simp only [wE] at hl;rw [Array.size_setIfInBounds];omega) λx hx=>h1 x vx;simp only [storeCells,Sem.run_bind,hst,Result.andThen_ok,hn,setRow_setRow]
  congr 3
  simpa [Array.toList_setIfInBounds,qw] using e
theorem AB{ty:bA}{x y:bc}{b off z:Nat}{T:bA}{cs ds r:List aN}{t:AT}(A:List aT){B:List aT}(ho:o.op=.store ty x y)(hd:o.dst=none)(hx:ay st x=some (.c (.val (.pointer (some ⟨b,off,none⟩)))))(hy:ay st y=some t)(hc:jo t=some ds)
  (hb:st.s.boxes=A++⟨b,T,cs⟩::B) (hS:∀w,(sizeOf ty).run P w=.ok z w) (hz:ds.length=z) (hl:off+z <= cs.length) (hr:splice cs off ds=r) (hT:b∈st.T) (hU:st.s.bl.Nodup -> b∈U)
  (h:K {st with s:=⟨A++⟨b,T,r⟩::B,st.s.rows⟩}):dN P U o st K:=by
 intro a w hs KK QQ hK;subst hr;have hmem:(⟨b,T,cs⟩:aT)∈st.s.boxes:=rR;obtain ⟨us,⟨fz,hfz,h1⟩,h2⟩:=hs.mem.box _ hmem;have hv:=sL hc (hs.ev hy);have hlen:=hv.len;have hl2:us.length=cs.length:=h2.len;have hbl:(⟨A++⟨b,T,splice cs off ds⟩::B,st.s.rows⟩:aH).bl=st.s.bl:=rW;have hbm:b∈st.s.bl:=rW;have hst:=Uw P b off T fz (a.eval y).cells.toList 0 us.toArray w h1 (by simpa using hfz) (by simp only [uF];omega) hv.one;simp only [sY,vT] at hst;have hk:=vC w b (us.take off++(a.eval y).cells.toList++us.drop (off+(a.eval y).cells.toList.length)).toArray;unfold Oper.wp;have hrun:(execOp a.eval o).run P w=.ok .skip (w.setRow b (us.take off++(a.eval y).cells.toList++us.drop (off+(a.eval y).cells.toList.length)).toArray):=by
  have hsz:(a.eval y).cells.size=z:=by rw [←pU,hlen,hz]
  simp only [execOp,ho,hs.val hx,Instr.storeAt,Instr.sureAddr,storeVar,Sem.run_bind,Sem.run_pure,Result.andThen_ok,hS,hsz,ne_eq,not_true_eq_false,if_false];rw [hst];rfl
 rw [hrun,Oper.upon_skip,hd];have hm:=hs.mem.setRow hb hfz (by simp only [Cf,j8,jk];omega) h1 (h2.splice hv off);refine hK _ _ _ h (hs.step st.T (hk.mono qU) hm (λx hx=>.inl p8)) ⟨hk.mono qU,hk.mono vR,λx hx=>.inl p8,λx hx=>.inl hx⟩ (hk.mono vI)
def lX(place:Nat -> Option (Nat×Nat))(cells:List aN):List (Nat×AT) -> Option (List aN)
 |[]=>some cells
 |(i,t)::rest=>
  match place i,jo t with
  |some (off,z),some cs=>if cs.length=z /\ off+z <= cells.length then lX place (splice cells off cs) rest else none
  |_,_=>none
theorem PG(off:Nat)(vs:List aM)(cells:Array aM)(h:off+vs.length <= cells.size):((vs.zipIdx).foldl (λcs (x:aM×Nat)=>cs.setIfInBounds (off+x.2) x.1) cells).toList=cells.toList.take off++vs++cells.toList.drop (off+vs.length):=by
 obtain ⟨h1,h2⟩:=Great.foldl_set off vs 0 cells;generalize hF:(vs.zipIdx).foldl (λcs (x:aM×Nat)=>cs.setIfInBounds (off+x.2) x.1) cells=F at h1 h2;refine zB λk=>?_;have h3:=h2 k;rw [←ly] at h3;rw [h3];by_cases hk:k<off
 ·rw [if_neg Y,List.append_assoc,rQ di,List.getElem?_take_of_lt hk];simp
 by_cases hk2:k<off+vs.length
 ·rw [if_pos ⟨Y,Y,Y⟩,List.append_assoc,pc di,rQ di]
  congr 1;simp;omega
 rw [if_neg Y,pc di,oi];have e:off+vs.length+(k-(cells.toList.take off++vs).length)=k:=di;rw [e];simp
theorem yF{w:aV}{place:Nat -> Option (Nat×Nat)}{a:Act}:∀(ps:List (Nat×bc)) (ts:List (Nat×AT)) (cells:List aN) (us:Array aM) (r:List aN),ps.map Prod.fst=ts.map Prod.fst -> (∀i (h:i<ps.length) (h':i<ts.length),cN w ts[i].2 (a.eval ps[i].2)) -> dH w cells us.toList -> lX place cells ts=some r ->
  ∃vs:Array aM,Instr.fill place us (ps.map λx=>(x.1,a.eval x.2))=some vs /\ dH w r vs.toList
 |[],ts,cells,us,r,hf,_,hr,hfill=>by
  cases ts with
  |nil=>cases hfill;exact ⟨us,rfl,hr⟩
  |cons=>cases hf
 |(i,x)::ps,ts,cells,us,r,hf,hv,hr,hfill=>by
  cases ts with
  |nil=>cases hf
  |cons p ts=>
   obtain ⟨j,t⟩:=p;simp only [cd,qY] at hf;obtain ⟨rfl,hf⟩:=hf;have hv0:cN w t (a.eval x):=hv 0 aK aK;simp only [lX] at hfill;split at hfill
   ·rename_i off z cs hp hc;split at hfill
    ·rename_i hz;obtain ⟨hz1,hz2⟩:=hz;have hcr:=sL hc hv0;have hsz:(a.eval x).cells.size=z:=by rw [←pU,hcr.len,hz1]
     have hus:us.size=cells.length:=by rw [←pU,hr.len]
     have hfo:=PG off (a.eval x).cells.toList us di;have hrep:=hr.splice hcr off;rw [←hfo] at hrep;obtain ⟨vs,h1,h2⟩:=yF ps ts _ _ r hf (λk h h'=>hv (k+1) iW (by simpa using h')) hrep hfill;refine ⟨vs,?_,h2⟩;simp only [cd,Instr.fill,hp];rw [if_neg (by simp only [hsz];simp;omega)];rw [←h1]
     congr 1
     rw [←Array.foldl_toList]
     congr 1
     simp
    cases hfill
   cases hfill
inductive nq (st:AS):List (Nat×Operand) -> List (Nat×AT) -> Prop
 |nil:nq st [] []
 |cons {i:Nat} {x:Operand} {t:AT} {ps:List (Nat×Operand)} {ts:List (Nat×AT)} (h:ay st x=some t) (r:nq st ps ts):nq st ((i,x)::ps) ((i,t)::ts)
theorem nq.map{ps:List (Nat×bc)}{ts:List (Nat×AT)}(h:nq st ps ts):ps.map (λp=>(ay st p.2).map (Prod.mk p.1))=ts.map some:=by
 induction h with
 |nil=>rfl
 |cons h _ ih=>simp [h,ih]
theorem Ct{ps:List (Nat×bc)}{ts:List (Nat×AT)}(h:ps.map (λp=>(ay st p.2).map (Prod.mk p.1))=ts.map some):ps.map Prod.fst=ts.map Prod.fst /\ ∀i (h1:i<ps.length) (h2:i<ts.length),ay st ps[i].2=some ts[i].2:=by
 induction ps generalizing ts with
 |nil=>cases ts with|nil=>exact ⟨rfl,λi h=>absurd h aK⟩|cons=>cases h
 |cons p ps ih=>
  cases ts with
  |nil=>cases h
  |cons t ts=>
   simp only [cd,qY] at h;obtain ⟨h1,h2⟩:=ih h.2;have h3:=h.1;cases he:ay st p.2 with
   |none=>rw [he] at h3;cases h3
   |some u=>
    rw [he] at h3;simp only [nt,vQ] at h3;subst h3;refine ⟨by simp [h1],λi hi hi2=>?_⟩;cases i with
    |zero=>exact he
    |succ i=>exact h2 i oJ (by simpa using hi2)
theorem wV{t:bA}{fs:Array Field}(i:TypeInfo){z:aM}{parts:Array (Nat×bc)}{ps:List (Nat×AT)}(pl:List (Nat×Nat)){zc r:List aN}(ho:o.op=.build t parts)(hps:nq st parts.toList ps)
  (hu:P.underlying t=some (.struct fs)) (hi:P.info? t=some i) (hz:i.zero=some z) (hpl:fs.toList.mapM (λf=>(P.info? f.type).map λi=>(f.offset,i.size))=some pl) (hzc:jo (fy z)=some zc)
  (hf:lX (pl.toArray[·]?) zc ps=some r):cf P U o st (.agg r):=by
 intro a w hs _;obtain ⟨h1,h2⟩:=Ct hps.map;obtain ⟨vs,aa,e2⟩:=yF (w:=bi st.s.bl w) (a:=a) parts.toList ps zc z.cells r h1 (λi h h'=>hs.ev (h2 i h h')) (sL hzc (wq _ z)) hf;refine ⟨.agg vs,by simpa using cN.agg _ _ e2,λw' _=>?_⟩;have hb:P.built t (parts.map λp=>(p.1,a.eval p.2)).toList=some vs:=by
  unfold Program.built;rw [hi,hu];simp only [hz,hpl];rw [vW];exact aa
 simp only [execOp,ho,Sem.run_bind];rw [run_build w' t _ vs hb];rfl
theorem SG{t e:bA}(i:TypeInfo){z:aM}{len:Nat}{parts:Array (Nat×bc)}{ps:List (Nat×AT)}{zc r:List aN}{d:Nat}(ho:o.op=.buildSlice t len parts)(hd:o.dst=some d)(hn:d<st.n)(hps:nq st parts.toList ps)
  (hu:P.underlying t=some (.slice e)) (hi:P.info? e=some i) (hz:i.zero=some z) (hsmall:¬len*i.size>2 ^ 24) (hpos:¬len*i.size=0) (hzc:(((Array.range (len*i.size)).map (z.cells[·% z.cells.size]!)).toList.all (·.oneCell'))=true) (hzr:((Array.range (len*i.size)).map (z.cells[·% z.cells.size]!)).toList.map .val=zc)
  (hf:lX (λk=>some (k*i.size,i.size)) zc ps=some r) (h:K {st with ts:=(d,.c (.sl len r))::st.ts}):dN P U o st K:=by
 intro a w hs KK QQ hK;obtain ⟨h1,h2⟩:=Ct hps.map;subst hzr;obtain ⟨vs,aa,e2⟩:=yF (w:=bi st.s.bl w) (a:=a) (place:=λk=>some (k*i.size,i.size)) parts.toList ps _ ((Array.range (len*i.size)).map (z.cells[·% z.cells.size]!)) r h1 (λi h h'=>hs.ev (h2 i h h')) (mW _ _ λu hu=>F2) hf
 unfold Oper.wp;have hrun:(execOp a.eval o).run P w=.ok (.value (.slice (some ⟨w.heap.size,0,none⟩) len len)) (w.alloc (.cells vs e)):=by
  simp only [execOp,ho,Sem.run_bind];rw [run_buildSlice w t e len _ vs i z hu hi hz hsmall hpos (by rw [vW];exact aa)];rfl
 rw [hrun,Oper.upon_value,hd];have hk:cH [] w (w.alloc (.cells vs e)):=(cH.refl _ _).alloc _;have hub:fl (bi st.s.bl w) (bi st.s.bl (w.alloc (.cells vs e))):=kR hk gr (λb h=>.inl h);obtain ⟨m1,m2⟩:=hs.mem.up hub Ev;have hm:Mem st.s (w.alloc (.cells vs e)):=⟨hs.mem.nodup,λb hb=>k_ (hs.mem.lt b hb) hk.size,m1,m2⟩;have s1:=hs.step (w1:=w.alloc (.cells vs e)) st.T (hk.mono aK) hm (λb hb=>.inl hb);have hmaxcap:len <= 16777216:=by
  have h1:0<i.size:=Nat.pos_of_ne_zero λh0=>hpos yQ;have h2:=Nat.le_mul_of_pos_right len h1;omega
 have hrow:cN (bi st.s.bl (w.alloc (.cells vs e))) (.c (.sl len r)) (.slice (some ⟨w.heap.size,0,none⟩) len len):=by
  refine .c _ _ (.sl _ _ vs.toList _ ?_ e2.len (λi h h'=>(e2.at_ i h h').mono hub) (λ_ _ _ h=>by cases h;have:=hmaxcap;omega));have:=dr.hide_new st.s.bl w vs.toList e len w.heap.size rfl hs.mem.lt;rw [vT] at this;exact this
 exact hK _ _ _ h (s1.put hn hrow) ⟨hk.mono aK,hk.mono aK,λb hb=>.inl hb,λb hb=>.inl hb⟩ (hk.mono aK)
end
end
section
open Go.RowKit
section
variable {P:Program}{U:List Nat}{o:Oper}{st:AS}{K:AS -> Prop}
theorem yK{u:aM}{g:Nat}:g∈aO u↔u.ownBlock=some g:=by
 unfold aO;cases h:u.ownBlock with
 |none=>simp
 |some k=>simp [eq_comm]
theorem Ne(u:aM):(aO u).Nodup:=by unfold aO;cases u.ownBlock<;>simp
theorem Uf{L r r' R:List Nat}{N:Nat}(h:(L++(r++R)).Nodup)(hr:∀b,b∈r' -> b∈r∨N <= b)(hlt:∀b,b∈L++(r++R) -> b<N)(hn:r'.Nodup):(L++(r'++R)).Nodup:=by
 simp only [du,mA] at h hlt⊢;obtain ⟨h1,⟨h2,h3,h4⟩,h5⟩:=h;refine ⟨h1,⟨hn,h3,λa ha b hb=>?_⟩,λa ha b hb=>?_⟩
 ·rcases hr a ha with h6|h6
  ·exact h4 a h6 b hb
  have:=hlt b (.inr (.inr hb));omega
 rcases hb with hb|hb
 ·rcases hr b hb with h6|h6
  ·exact h5 a ha b (.inl h6)
  have:=hlt a (.inl ha);omega
 exact h5 a ha b (.inr hb)
theorem xT(bx:List aT)(A B:List aS)(r:aS):(⟨bx,A++r::B⟩:aH).bl=(bx.map aT.b++A.flatMap λr=>aO r.v)++(aO r.v++B.flatMap λr=>aO r.v):=by unfold aH.bl;simp
theorem BK{e:bA}{d n m z:Nat}{v:aM}{cs ds:List aN}(A:List aS){B:List aS}(hd:o.dst=some d)(hn:d<st.n)
  (hrow:st.s.rows=A++⟨v,e,z,n,cs⟩::B) (hz9:0<z)
  (hy:∀a w,eS st a w -> ∀us,w.ownsRow 0 e z v n us -> ∃ys,dH (bi st.s.bl w) ds ys /\ ∀(KK:Act -> aV -> Prop)(QQ:Exit -> Act -> aV -> Prop),(∀v' w',w'.ownsRow 0 e z v' (n+m) (us++ys) -> w.grownBy w' v.ownBlock -> (∀g,v'.ownBlock=some g -> v.ownBlock=some g∨w.heap.size <= g) -> KK (a.put o.dst v') w') -> o.wp P a w KK QQ)
  (hU:st.s.bl.Nodup -> ∀b,b∈aO v -> b∈U) (hT:∀b,b∈aO v -> b∈st.T)
  (h:∀v',K {st with s:=⟨st.s.boxes,A++⟨v',e,z,n+m,cs++ds⟩::B⟩,T:=aO v'++st.T,ts:=(d,.c (.val v'))::st.ts}):dN P U o st K:=by
 intro a w hs KK QQ hK;obtain ⟨us,hownR,hrep⟩:=hs.mem.row ⟨v,e,z,n,cs⟩ p7;have hown:=hownR.row hz9;obtain ⟨ys,hyrep,hgo⟩:=hy a w hs us hown
 skip
 refine hgo KK QQ ?_;intro v' w' hown' hgrow hfr;have hkr:cH (aO v) w w':=⟨hgrow.os,hgrow.tape,hgrow.output,hgrow.size,λk hk hn=>hgrow.block k hk (λhe=>hn (yK.2 he.symm))⟩;have hfr2:∀g,g∈aO v' -> g∈aO v∨w.heap.size <= g:=λg hg=>(hfr g (yK.1 hg)).imp yK.2 id;have hbl0:st.s.bl=(st.s.boxes.map aT.b++A.flatMap λr=>aO r.v)++(aO v++B.flatMap λr=>aO r.v):=by have:=xT st.s.boxes A B ⟨v,e,z,n,cs⟩;rw [←hrow] at this;exact this
 have hbl1:=xT st.s.boxes A B ⟨v',e,z,n+m,cs++ds⟩;generalize hs1:(⟨st.s.boxes,A++⟨v',e,z,n+m,cs++ds⟩::B⟩:aH)=s1 at hbl1;have hvb:∀g,g∈aO v -> g∈st.s.bl:=λg hg=>by rw [hbl0];simp [hg]
 have hsub:∀g,g∈s1.bl -> g∈st.s.bl∨w.heap.size <= g:=λg hg=>by
  rw [hbl1] at hg;rw [hbl0];simp only [mA] at hg⊢;rcases hg with (hg|hg)|hg|hg
  ·exact .inl (.inl (.inl hg))
  ·exact .inl (.inl (.inr hg))
  ·rcases hfr2 g hg with hg|hg
   ·exact .inl (.inr (.inl hg))
   exact .inr hg
  exact .inl (.inr (.inr hg))
 have hkb:cH st.s.bl w w':=hkr.mono hvb;have hup:fl (bi st.s.bl w) (bi s1.bl w'):=kR hkb (λ_ h=>h) hsub;have hnd:=hs.mem.nodup;rw [hbl0] at hnd;have hlt0:∀g,g∈(st.s.boxes.map aT.b++A.flatMap λr=>aO r.v)++(aO v++B.flatMap λr=>aO r.v) -> g<w.heap.size:=by rw [←hbl0];exact hs.mem.lt
 have hnd1:s1.bl.Nodup:=by rw [hbl1];exact Uf hnd hfr2 hlt0 (Ne _)
 have hltn:∀g,g∈aO v' -> g<w'.heap.size:=λg hg=>KL hown' (yK.1 hg);have hmem:Mem s1 w':=by
  refine ⟨hnd1,λg hg=>?_,λbx hbx=>?_,λr hr=>?_⟩
  ·rw [hbl1] at hg;simp only [mA] at hg;rcases hg with (hg|hg)|hg|hg
   ·exact k_ (hlt0 g (by simp [hg])) hkb.size
   ·exact k_ (hlt0 g (by simp only [mA];exact .inl (.inr hg))) hkb.size
   ·exact hltn g hg
   exact k_ (hlt0 g (by simp only [mA];exact .inr (.inr hg))) hkb.size
  ·have hbx2:bx∈st.s.boxes:=by rw [←hs1] at hbx;exact hbx
   obtain ⟨us',aa,e2⟩:=hs.mem.box bx hbx2;have hbb:bx.b∈st.s.boxes.map aT.b:=gH.2 ⟨bx,hbx2,J⟩;refine ⟨us',?_,e2.mono hup⟩;rw [hkr.block _ (hlt0 _ (by simp only [mA];exact .inl (.inl hbb))) (λhm=>?_)]
   ·exact aa
   exact (du.1 hnd).2.2 bx.b (fj _ hbb) bx.b (fj _ hm) J
  rw [←hs1] at hr;simp only [mA,nO] at hr;have old:r∈A∨r∈B -> ∃us,m8 w' r us /\ dH (bi s1.bl w') r.cs us:=λhr=>by
   obtain ⟨us',aa,e2⟩:=hs.mem.row r (by rw [hrow];simp only [mA,nO];rcases hr with h|h;exact .inl h;exact .inr (.inr h));refine ⟨us',aa.keep λg hg=>?_,e2.mono hup⟩;refine hkr.block g ?_ λhm=>?_
   ·rcases hr with hr|hr
    ·exact hlt0 g (by simp only [mA];exact .inl (.inr (jv.2 ⟨r,hr,hg⟩)))
    exact hlt0 g (by simp only [mA];exact .inr (.inr (jv.2 ⟨r,hr,hg⟩)))
   rcases hr with hr|hr
   ·exact (du.1 hnd).2.2 g (f7 _ (jv.2 ⟨r,hr,hg⟩)) g (fj _ hm) J
   exact (du.1 (du.1 hnd).2.1).2.2 g hm g (jv.2 ⟨r,hr,hg⟩) J
  rcases hr with hr|rfl|hr
  ·exact old (.inl hr)
  ·exact ⟨us++ys,.inl hown',(hrep.mono hup).app (hyrep.mono hup)⟩
  exact old (.inr hr)
 have s2:=hs.step (aO v'++st.T) hkb hmem hsub;rw [hd];have h9:=h v';rw [hs1] at h9;have h1c:v'.oneCell'=true:=by obtain ⟨_,_,he⟩:=vK hown';rw [he];rfl
 refine hK _ _ _ h9 (s2.put (v:=v') hn (.c _ _ (.val _ h1c))) ⟨hkb,hkr.mono hT,hsub,λg hg=>?_⟩ (hkr.mono (hU hs.mem.nodup));rcases mA.1 hg with hg|hg
 ·exact (hfr2 g hg).imp (hT g) id
 exact .inl hg
theorem E7{t e:bA}{x y:bc}{d n m z bytes:Nat}{v zv:aM}{cs ds:List aN}{i:TypeInfo}(A:List aS){B:List aS}(ho:o.op=.call {callee:=.builtin .append,args:=#[x,y],argTypes:=#[t,t]})(hd:o.dst=some d)(hn:d<st.n)
  (hx:ay st x=some (.c (.val v))) (hrow:st.s.rows=A++⟨v,e,z,n,cs⟩::B) (hy:ay st y=some (.c (.sl m ds))) (hu:P.underlying t=some (.slice e)) (hi:P.info? e=some i) (hz:i.zero=some zv) (hsz:i.size=z) (hby:i.bytes=bytes) (hzs:zv.cells.size=z) (h0:0<z)
  (hm:ds.length=m*z) (hm0:0<m) (hlen:n+m <= maxLen) (hbytes:(n+m)*bytes <= 140737488355328) (hU:st.s.bl.Nodup -> ∀b,b∈aO v -> b∈U) (hT:∀b,b∈aO v -> b∈st.T)
  (h:∀v',K {st with s:=⟨st.s.boxes,A++⟨v',e,z,n+m,cs++ds⟩::B⟩,T:=aO v'++st.T,ts:=(d,.c (.val v'))::st.ts}):dN P U o st K:=by
 refine BK A hd hn hrow h0 (λa w hs us hown=>?_) hU hT h;have hye:=hs.ev hy;generalize hyv:a.eval y=yv at hye;cases hye with
 |c _ _ hye=>cases hye with
  |sl _ _ ys _ hra hyl hyr=>
   obtain ⟨p,cap,rfl,-,hra⟩:=hra;rcases hra with rfl|⟨b,of,rfl,hc⟩
   ·simp at hyl;have:0<m*z:=Nat.mul_pos hm0 h0;omega
   have hyrep:dH (bi st.s.bl w) ds ys:=⟨hyl,hyr⟩;exact ⟨ys,hyrep,λKK QQ hK=>G' w x y t ho 0 e i zv z bytes hu hi hz hsz hby hzs h0 v n us (hs.val hx) hown ⟨b,of,none⟩ m cap ys hyv (by rw [hyl,hm]) (λj u hj=>by rw [qG];exact (nW (hc j u hj)).1) hyrep.one hlen hbytes (d2 _) hK⟩
theorem nx{a:Act}{w:aV}(hs:eS st a w):∀{ps:List bc} {ts:List AT},ps.map (ay st)=ts.map some -> (ps.map a.eval).length=ts.length /\ ∀i (h:i<ts.length) (h':i<(ps.map a.eval).length),cN (bi st.s.bl w) ts[i] (ps.map a.eval)[i]
 |[],ts,h=>by cases ts with|nil=>exact ⟨rfl,λi h=>absurd h aK⟩|cons=>cases h
 |p::ps,ts,h=>by
  cases ts with
  |nil=>cases h
  |cons t ts=>
   simp only [cd,qY] at h;obtain ⟨h1,h2⟩:=nx hs h.2;refine ⟨q',λi hi hi2=>?_⟩;cases i with
   |zero=>exact hs.ev h.1
   |succ i=>exact h2 i oJ (by simpa using hi2)
theorem yJ{F:FuncId}{d:Nat}{vs:List aM}{ts:List AT}{T':List Nat}{Q:AT -> aH -> Prop}{a:Act}{w:aV}(hs:eS st a w)(hd:o.dst=some d)(hn:d<st.n)(hl:vs.length=ts.length)(hv:∀i (h:i<ts.length) (h':i<vs.length),cN (bi st.s.bl w) ts[i] vs[i])
  (hrun:(execOp a.eval o).run P w=.ok (.enter F vs.toArray) w) (hc:aR P F ts T' st.s Q) (hT:∀b,b∈T' -> b∈st.T) (hTb:∀b,b∈T' -> b∈st.s.bl) (hU:st.s.bl.Nodup -> ∀b,b∈T' -> b∈U)
  (h:∀r s',Q r s' -> K {st with s:=s',ts:=(d,r)::st.ts}) (KK:Act -> aV -> Prop) (QQ:Exit -> Act -> aV -> Prop) (hK:∀a' w' st',K st' -> eS st' a' w' -> gj st w st' w' -> cH U w w' -> KK a' w'):o.wp P a w KK QQ:=by
 unfold Oper.wp;rw [hrun,Oper.upon_enter];refine (hc vs w hs.mem hTb hl hv).mono ?_;rintro en w' ⟨r,v,s',rfl,hq,hr,hm,hk,hb⟩;dsimp only;rw [hd];have s1:=hs.step st.T (hk.mono hTb) hm hb;exact hK _ _ _ (h r s' hq) (s1.put hn hr) ⟨hk.mono hTb,hk.mono hT,hb,λb hb=>.inl hb⟩ (hk.mono (hU hs.mem.nodup))
theorem VG{F:FuncId}{d:Nat}{ars:Array bc}{tys:Array bA}{ts:List AT}(T':List Nat){Q:AT -> aH -> Prop}(ho:o.op=.call {callee:=.value (.func F),args:=ars,argTypes:=tys})(hd:o.dst=some d)(hn:d<st.n)
  (hcf:∀args w,(callFunc F args).run P w=.ok (.enter F args) w) (has:ars.toList.map (ay st)=ts.map some) (hc:aR P F ts T' st.s Q) (hT:∀b,b∈T' -> b∈st.T) (hTb:∀b,b∈T' -> b∈st.s.bl) (hU:st.s.bl.Nodup -> ∀b,b∈T' -> b∈U)
  (h:∀r s',Q r s' -> K {st with s:=s',ts:=(d,r)::st.ts}):dN P U o st K:=by
 intro a w hs KK QQ hK;obtain ⟨h1,h2⟩:=nx hs has;refine yJ hs hd hn h1 h2 ?_ hc hT hTb hU h KK QQ hK;simp only [execOp,ho,resolve,Deferred.ofValue,Act.eval,Sem.run_bind,Sem.run_pure,Result.andThen_ok,invoke];rw [hcf]
 congr 2
 rw [←mu];simp
theorem Ak{w:aV}{ts us:List AT}{vs xs:List aM}(h1:vs.length=ts.length)(h2:∀i (h:i<ts.length) (h':i<vs.length),cN w ts[i] vs[i])(k1:xs.length=us.length)(k2:∀i (h:i<us.length) (h':i<xs.length),cN w us[i] xs[i]):
  (vs++xs).length=(ts++us).length /\ ∀i (h:i<(ts++us).length) (h':i<(vs++xs).length),cN w (ts++us)[i] (vs++xs)[i]:=by
 refine ⟨by simp [h1,k1],λi hi hi'=>?_⟩;rcases iQ i ts.length with h|h
 ·rw [pj h,pj (by rw [h1];exact h)];exact h2 _ _ _
 rw [pC h,pC (by rw [h1];exact h)];simp only [h1];exact k2 _ (by simp at hi;omega) (by simp at hi';omega)
theorem yN(w:aV)(vs:List aM):vs.length=(vs.map fy).length /\ ∀i (h:i<(vs.map fy).length) (h':i<vs.length),cN w (vs.map fy)[i] vs[i]:=⟨aK,λi h h'=>by simp only [nK];exact wq _ _⟩
def lN(P:Program)(st:AS)(rv:ResultVar)(r:AT):Prop:=∀a w,eS st a w -> ∃v,cN (bi st.s.bl w) r v /\ ((match rv with|.tmp t=>pure (a.tmps.getD t undef)|.cell x t=>do loadVar t (←asAddr (a.tmps.getD x undef))):Sem Value).run P w=.ok v w
theorem bM{t:Tmp}{r:AT}(h:look st.ts t=some r):lN P st (.tmp t) r:=λa w hs=>by
 obtain ⟨v,h1,h2⟩:=hs.tm t r h;exact ⟨v,h2,by simp only [Sem.run_pure,jB,h1,tc]⟩
theorem cS{x:Tmp}{ty:bA}{r:AT}{b off z:Nat}{T:bA}{cs:List aN}{ag:Bool}(A:List aT){B:List aT}(h:look st.ts x=some (.c (.val (.pointer (some ⟨b,off,none⟩)))))(hb:st.s.boxes=A++⟨b,T,cs⟩::B)
  (hA:∀w,(isAgg ty).run P w=.ok ag w) (hS:∀w,(sizeOf ty).run P w=.ok z w) (hp:gV ag z cs off=some r):lN P st (.cell x ty) r:=λa w hs=>by
 obtain ⟨v,h1,h2⟩:=hs.tm x _ h;have:=h2.val;subst this;obtain ⟨us,⟨fz,-,h3⟩,h4⟩:=hs.mem.box ⟨b,T,cs⟩ rR;obtain ⟨v,hv,hl⟩:=yH (P:=P) (b:=b) (o:=0) hA hS h4 hp;refine ⟨v,hv,?_⟩;have hl2:=hl w (λj u hj=>by unfold World.cell?;simp only [h3];simpa using hj);simp only [e0] at hl2;simp only [jB,h1,tc,asAddr,Sem.run_bind,Sem.run_pure,Result.andThen_ok,hl2]
theorem e_{fn:Func}(h:fn.results=#[]):mN P fn st (.tup []):=λa w hs=>⟨.tuple #[],.tup [] [] rfl Cu,results_none h _ _ _⟩
theorem VY{f:ResultVar -> Sem aM}{r1:ResultVar}{v1:aM}{w:aV}(aa:(f r1).run P w=.ok v1 w):(#[r1].mapM f).run P w=.ok #[v1] w:=by
 simp [Sem.run_bind,aa]
theorem Un{f:ResultVar -> Sem aM}{r1 r2:ResultVar}{v1 v2:aM}{w:aV}(aa:(f r1).run P w=.ok v1 w)(e2:(f r2).run P w=.ok v2 w):(#[r1,r2].mapM f).run P w=.ok #[v1,v2] w:=by
 simp [Sem.run_bind,aa,e2]
theorem Ol{f:ResultVar -> Sem aM}{r1 r2 r3:ResultVar}{v1 v2 v3:aM}{w:aV}(aa:(f r1).run P w=.ok v1 w)(e2:(f r2).run P w=.ok v2 w)(e3:(f r3).run P w=.ok v3 w):(#[r1,r2,r3].mapM f).run P w=.ok #[v1,v2,v3] w:=by
 simp [Sem.run_bind,aa,e2,e3]
theorem bT{fn:Func}{rv:ResultVar}{r:AT}(h:fn.results=#[rv])(h1:lN P st rv r):mN P fn st r:=λa w hs=>by
 obtain ⟨v,aa,e2⟩:=h1 a w hs;refine ⟨v,aa,?_⟩;unfold results;rw [h,Sem.run_bind]
 erw [VY e2]
 simp [go_sem]
theorem Sc{w:aV}{r1 r2:AT}{v1 v2:aM}(h1:cN w r1 v1)(h2:cN w r2 v2):cN w (.tup [r1,r2]) (.tuple #[v1,v2]):=
 .tup [r1,r2] [v1,v2] rfl λi h h'=>by rcases i with _|_|i;exact h1;exact h2;simp at h;omega
theorem Ps{w:aV}{r1 r2 r3:AT}{v1 v2 v3:aM}(h1:cN w r1 v1)(h2:cN w r2 v2)(h3:cN w r3 v3):cN w (.tup [r1,r2,r3]) (.tuple #[v1,v2,v3]):=
 .tup [r1,r2,r3] [v1,v2,v3] rfl λi h h'=>by rcases i with _|_|_|i;exact h1;exact h2;exact h3;simp at h;omega
theorem iP{fn:Func}{rv1 rv2:ResultVar}{r1 r2:AT}(h:fn.results=#[rv1,rv2])(h1:lN P st rv1 r1)(h2:lN P st rv2 r2):mN P fn st (.tup [r1,r2]):=λa w hs=>by
 obtain ⟨v1,aa,f1⟩:=h1 a w hs;obtain ⟨v2,e2,f2⟩:=h2 a w hs;refine ⟨_,Sc aa e2,?_⟩;unfold results;rw [h,Sem.run_bind]
 erw [Un f1 f2]
 simp [go_sem]
theorem pN{fn:Func}{rv1 rv2 rv3:ResultVar}{r1 r2 r3:AT}(h:fn.results=#[rv1,rv2,rv3])(h1:lN P st rv1 r1)(h2:lN P st rv2 r2)(h3:lN P st rv3 r3):mN P fn st (.tup [r1,r2,r3]):=λa w hs=>by
 obtain ⟨v1,aa,f1⟩:=h1 a w hs;obtain ⟨v2,e2,f2⟩:=h2 a w hs;obtain ⟨v3,e3,f3⟩:=h3 a w hs;refine ⟨_,Ps aa e2 e3,?_⟩;unfold results;rw [h,Sem.run_bind]
 erw [Ol f1 f2 f3]
 simp [go_sem]
def bu(r r':AT):Prop:=∀w v,cN w r v -> cN w r' v
def tW(x y:aN):Prop:=∀w v,jK w x v -> jK w y v
theorem tW.refl(x:aN):tW x x:=λ_ _ h=>h
theorem py:tW (.val (.slice none 0 0)) (.sl 0 []):=λw v h=>by cases h;exact .sl 0 [] [] _ (dr.nil w) rfl Cu (λ_ _ _ h=>by cases h;decide)
theorem bu.refl(r:AT):bu r r:=λ_ _ h=>h
theorem bu.c{x y:aN}(h:tW x y):bu (.c x) (.c y):=λw v hr=>by cases hr with|c _ _ hr=>exact .c _ _ (h _ _ hr)
inductive kv:List aN -> List aN -> Prop
 |nil:kv [] []
 |cons {x y:aN} {xs ys:List aN} (h:tW x y) (t:kv xs ys):kv (x::xs) (y::ys)
theorem kv.refl:∀xs:List aN,kv xs xs
 |[]=>.nil
 |x::xs=>.cons (.refl x) (kv.refl xs)
theorem kv.rep{w:aV}{xs ys:List aN}(h:kv xs ys):∀{us:List aM},dH w xs us -> dH w ys us:=by
 induction h with
 |nil=>exact λh=>h
 |cons h t ih=>
  intro us hr;cases us with
  |nil=>have:=hr.len;simp at this
  |cons u us=>exact .cons (h _ _ (hr.at_ 0 aK aK)) (ih ⟨by have:=hr.len;simpa using this,λi h1 h2=>hr.at_ (i+1) q' mR⟩)
theorem bu.agg{xs ys:List aN}(h:kv xs ys):bu (.agg xs) (.agg ys):=λw v hr=>by cases hr with|agg _ us hr=>exact .agg _ _ (h.rep hr)
theorem fq{fn:Func}{r r':AT}(h:bu r r')(hr:mN P fn st r):mN P fn st r':=λa w hs=>let ⟨v,aa,e2⟩:=hr a w hs;⟨v,h _ _ aa,e2⟩
theorem Ui:Sub st {st with ts:=[]}:=λa w h=>⟨⟨h.df,h.sz,λi t ht=>(by cases ht),h.mem⟩,λ_ h=>h,λ_ h=>h⟩
theorem av{i:Nat}{t u:AT}{ts:List (Nat×AT)}(hl:look st.ts i=some u)(hw:bu u t)(h:Sub st {st with ts:=ts}):Sub st {st with ts:=(i,t)::ts}:=λa w hs=>by
 obtain ⟨h1,h2,h3⟩:=h a w hs;refine ⟨⟨h1.df,h1.sz,λj x hx=>?_,h1.mem⟩,h2,h3⟩;simp only [look] at hx;split at hx
 ·rename_i he;subst he;cases hx;obtain ⟨v,aa,e2⟩:=hs.tm i u hl;exact ⟨v,aa,hw _ _ e2⟩
 exact h1.tm j x hx
theorem FO(T':List Nat)(h:∀b,b∈T' -> b∈st.T):Sub st {st with T:=T'}:=λa w hs=>⟨⟨hs.df,hs.sz,hs.tm,hs.mem⟩,λ_ h=>h,h⟩
theorem qO{s':aH}(h:jU st.s s'):Sub st {st with s:=s'}:=λa w hs=>by
 obtain ⟨h1,h2⟩:=h w hs.mem;exact ⟨⟨hs.df,hs.sz,λi t ht=>let ⟨v,aa,e2⟩:=hs.tm i t ht;⟨v,aa,e2.mono (up_sub h2) (wL (bW _))⟩,h1⟩,h2,λ_ h=>h⟩
theorem Gz(E:bA)(z:Nat):Sub st {st with s:=⟨st.s.boxes,⟨.slice none 0 0,E,z,0,[]⟩::st.s.rows⟩}:=λa w hs=>by
 have hbl:(⟨st.s.boxes,⟨.slice none 0 0,E,z,0,[]⟩::st.s.rows⟩:aH).bl=st.s.bl:=Ee;refine ⟨⟨hs.df,hs.sz,?_,?_,?_,?_,?_⟩,?_,λ_ h=>h⟩
 ·rw [hbl];exact hs.tm
 ·rw [hbl];exact hs.mem.nodup
 ·rw [hbl];exact hs.mem.lt
 ·rw [hbl];exact hs.mem.box
 ·rw [hbl];intro r hr;rcases nO.1 hr with rfl|hr
  ·exact ⟨[],.inl (ownsRow_nil _ _ _ _),.nil _⟩
  exact hs.mem.row r hr
 rw [hbl];exact λ_ h=>h
theorem Ad{w:aV}{base:Nat}{e:bA}{size:Nat}{v:aM}{n:Nat}{xs:List aM}(h:w.ownsRow base e size v n xs):∀a k c,v=.slice a k c -> c <= 9223372036854775807:=by
 rintro a k c rfl;rcases h.2 with ⟨h1,_⟩|⟨g,cap,cur,h1,_,_,_,h2,_⟩
 ·cases h1;decide
 cases h1;unfold maxLen at h2;omega
theorem Hj{A B:List aS}{v:aM}{E:bA}{z n:Nat}{cs:List aN}(i:Nat)(hi:look st.ts i=some (.c (.val v)))(hrow:st.s.rows=A++⟨v,E,z,n,cs⟩::B)(hz:0<z:=by decide):Sub st {st with s:=⟨st.s.boxes,A++B⟩,ts:=(i,.c (.sl n cs))::st.ts}:=λa w hs=>by
 have hsub:jU st.s ⟨st.s.boxes,A++B⟩:=aj (tS _) (by rw [hrow];exact zn (tS _) (vU _ _));obtain ⟨h1,h2,h3⟩:=qO hsub a w hs;refine ⟨⟨h1.df,h1.sz,λj x hx=>?_,h1.mem⟩,h2,h3⟩;simp only [look] at hx;split at hx
 ·rename_i he;subst he;cases hx;obtain ⟨u,aa,e2⟩:=hs.tm i _ hi;have:=e2.val;subst this;obtain ⟨us,hownR,hrep⟩:=hs.mem.row ⟨u,E,z,n,cs⟩ p7;have hown:=hownR.row hz;refine ⟨u,aa,.c _ _ (.sl _ _ us _ ?_ hrep.len (λk h h'=>(hrep.at_ k h h').mono (up_sub h2)) (Ad hown))⟩;obtain ⟨p,cap,he,hc,hr⟩:=dr.of_owns hown;refine ⟨p,cap,he,hc,?_⟩;rcases hr with h0|⟨b,off,rfl,hr⟩
  ·exact .inl h0
  refine .inr ⟨b,off,J,λj x hj=>?_⟩;have hbv:b∈aO u:=by have he2:u=.slice (some ⟨b,off,none⟩) n cap:=he;rw [he2];simp [aO,Value.ownBlock]
  rw [np]
  ·exact hr j x hj
  intro hm;have hnd:=hs.mem.nodup;have hbl0:st.s.bl=(st.s.boxes.map aT.b++A.flatMap λr=>aO r.v)++(aO u++B.flatMap λr=>aO r.v):=by have:=xT st.s.boxes A B ⟨u,E,z,n,cs⟩;rw [←hrow] at this;exact this
  rw [hbl0] at hnd;have hm2:b∈(st.s.boxes.map aT.b++A.flatMap λr=>aO r.v)∨b∈B.flatMap λr=>aO r.v:=by
   unfold aH.bl at hm;simp only [d4,mA] at hm⊢;rcases hm with h|h|h
   ·exact .inl (.inl h)
   ·exact .inl (.inr h)
   exact .inr h
  rcases hm2 with hm2|hm2
  ·exact (du.1 hnd).2.2 b hm2 b (fj _ hbv) J
  exact (du.1 (du.1 hnd).2.1).2.2 b hbv b hm2 J
 exact h1.tm j x hx
end
end
section
open Go.RowKit
section
variable {P:Program}{ops:Array Oper}{U Z:List Nat}{o:Oper}{l:List Oper}{n d:Nat}{T:List Nat}{s:aH}{bx:List aT}{rw:List aS}{ts:List (Nat×AT)}{t:AT}{Q:Exit -> AS -> Prop}{KK:AS -> Prop}{K:AS -> Prop}
theorem yp(hw:dn ops o ⟨n,T,s,ts⟩=some true)(hd:o.dst=some d)(hn:d<n)(hy:cf P [] o ⟨n,T,s,ts⟩ t)(h:cL P ops l ⟨n,T,s,(d,t)::ts⟩ Q):cL P ops (o::l) ⟨n,T,s,ts⟩ Q:=NC hw hd hn hy h
theorem R_(hw:dn ops o ⟨n,T,s,ts⟩=some false)(hd:o.dst=some d)(hn:d<n)(h:cL P ops l ⟨n,T,s,(d,.raw undef)::ts⟩ Q):cL P ops (o::l) ⟨n,T,s,ts⟩ Q:=NK hw hd hn h
theorem aW(hw:dn ops o ⟨n,T,s,ts⟩=some true)(h:dN P T o ⟨n,T,s,ts⟩ λs=>cL P ops l s Q):cL P ops (o::l) ⟨n,T,s,ts⟩ Q:=Nj hw h
theorem RY(i:Nat){fuel:Nat}{listed:Array Bool}(hr:(Region.ready .any ops listed).contains i=true)(hi:ops.toList[i]?=some o)(hf:Region.free .any ops listed i=true)(hsel:Region.noSelect ops=true)(hw:dn ops o ⟨n,T,s,ts⟩=some true)(hd:o.dst=some d)(hn:d<n)(hy:cf P (fG s Z) o ⟨n,T,s,ts⟩ t)
  (h:dh P ops Z fuel (listed.setIfInBounds i true) ⟨n,T,s,(d,t)::ts⟩ K):dh P ops Z (fuel+1) listed ⟨n,T,s,ts⟩ K:=M_ i hr hi hf hsel hw hd hn hy h
theorem one(i:Nat){fuel:Nat}{listed:Array Bool}(hr:Region.ready .any ops listed=[i])(hi:ops.toList[i]?=some o)(hw:dn ops o ⟨n,T,s,ts⟩=some true)
  (h:dN P (fG s Z) o ⟨n,T,s,ts⟩ λs=>dh P ops Z fuel (listed.setIfInBounds i true) s K):dh P ops Z (fuel+1) listed ⟨n,T,s,ts⟩ K:=yj hr rfl (sB hi hw h yT)
theorem two(i j:Nat){o2:Oper}{fuel:Nat}{listed:Array Bool}(hr:Region.ready .any ops listed=[i,j])(hi:ops.toList[i]?=some o)(hw:dn ops o ⟨n,T,s,ts⟩=some true)(hi2:ops.toList[j]?=some o2)(hw2:dn ops o2 ⟨n,T,s,ts⟩=some true)
  (h:dN P (fG s Z) o ⟨n,T,s,ts⟩ λs=>dh P ops Z fuel (listed.setIfInBounds i true) s K) (h2:dN P (fG s Z) o2 ⟨n,T,s,ts⟩ λs=>dh P ops Z fuel (listed.setIfInBounds j true) s K):dh P ops Z (fuel+1) listed ⟨n,T,s,ts⟩ K:=
 yj hr rfl (sB hi hw h (sB hi2 hw2 h2 yT))
theorem N4{st:AS}(hd:o.dst=some d)(hn:d<st.n)(hy:cf P [] o st t)(h:K {st with ts:=(d,t)::st.ts}):dN P U o st K:=by
 intro a w hs KK QQ hK;obtain ⟨v,hr,hx⟩:=hy a w hs gr;unfold Oper.wp;rw [hx w (cH.refl _ _),Oper.upon_value,hd];exact hK _ _ _ h (hs.put hn hr) ⟨cH.refl _ _,cH.refl _ _,λb hb=>.inl hb,λb hb=>.inl hb⟩ (cH.refl _ _)
theorem G5{E:bA}{x:bc}{cs:List aN}(ho:o.op=.box E x)(hd:o.dst=some d)(hn:d<n)(hx:ay ⟨n,T,⟨bx,rw⟩,ts⟩ x=some t)(hc:jo t=some cs)
  (h:∀b,K ⟨n,b::T,⟨⟨b,E,cs⟩::bx,rw⟩,(d,.c (.val (.pointer (some ⟨b,0,none⟩))))::ts⟩):dN P U o ⟨n,T,⟨bx,rw⟩,ts⟩ K:=Ve ho hd hn hx hc h
theorem iG{E:bA}{z:aM}{cs:List aN}(ho:o.op=.alloc E)(hd:o.dst=some d)(hn:d<n)(hz:∀w,(zeroValue E).run P w=.ok z w)(hc:jo (fy z)=some cs)
  (h:∀b,K ⟨n,b::T,⟨⟨b,E,cs⟩::bx,rw⟩,(d,.c (.val (.pointer (some ⟨b,0,none⟩))))::ts⟩):dN P U o ⟨n,T,⟨bx,rw⟩,ts⟩ K:=Pm ho hd hn hz hc h
section
variable {ty E:TypeId}{x y:Operand}{b off z:Nat}{cs ds r:List aN}{A B:List aT}{x1 x2 x3 x4:aT}
theorem Gg(ho:o.op=.store ty x y)(hd:o.dst=none)(hx:ay ⟨n,T,⟨⟨b,E,cs⟩::B,rw⟩,ts⟩ x=some (.c (.val (.pointer (some ⟨b,off,none⟩)))))(hy:ay ⟨n,T,⟨⟨b,E,cs⟩::B,rw⟩,ts⟩ y=some t)(hc:jo t=some ds)
  (hS:∀w,(sizeOf ty).run P w=.ok z w) (hz:ds.length=z) (hl:off+z <= cs.length) (hr:splice cs off ds=r) (hT:b∈T) (hU:(⟨⟨b,E,cs⟩::B,rw⟩:aH).bl.Nodup -> b∈U) (h:K ⟨n,T,⟨⟨b,E,r⟩::B,rw⟩,ts⟩):dN P U o ⟨n,T,⟨⟨b,E,cs⟩::B,rw⟩,ts⟩ K:=AB [] ho hd hx hy hc rfl hS hz hl hr hT hU h
end
theorem rY{E:bA}{e:bA}(i:TypeInfo){z:aM}{len:Nat}{parts:Array (Nat×bc)}{ps:List (Nat×AT)}(zc:List aN){r:List aN}(ho:o.op=.buildSlice E len parts)(hd:o.dst=some d)(hn:d<n)(hps:nq ⟨n,T,s,ts⟩ parts.toList ps)
  (hu:P.underlying E=some (.slice e)) (hi:P.info? e=some i) (hz:i.zero=some z) (hsmall:¬len*i.size>2 ^ 24) (hpos:¬len*i.size=0) (hzc:(((Array.range (len*i.size)).map (z.cells[·% z.cells.size]!)).toList.all (·.oneCell'))=true) (hzr:((Array.range (len*i.size)).map (z.cells[·% z.cells.size]!)).toList.map .val=zc)
  (hf:lX (λk=>some (k*i.size,i.size)) zc ps=some r) (h:K ⟨n,T,s,(d,.c (.sl len r))::ts⟩):dN P U o ⟨n,T,s,ts⟩ K:=SG i ho hd hn hps hu hi hz hsmall hpos hzc hzr hf h
theorem uZ{E e:bA}{x y:bc}{k m z:Nat}{v zv:aM}{cs ds r:List aN}(i:TypeInfo)(bytes:Nat){B:List aS}(ho:o.op=.call {callee:=.builtin .append,args:=#[x,y],argTypes:=#[E,E]})(hd:o.dst=some d)(hn:d<n)
  (hx:ay ⟨n,T,⟨bx,⟨v,e,z,k,cs⟩::B⟩,ts⟩ x=some (.c (.val v))) (hy:ay ⟨n,T,⟨bx,⟨v,e,z,k,cs⟩::B⟩,ts⟩ y=some (.c (.sl m ds))) (hu:P.underlying E=some (.slice e)) (hi:P.info? e=some i) (hz:i.zero=some zv) (hsz:i.size=z) (hby:i.bytes=bytes) (hzs:zv.cells.size=z) (h0:0<z)
  (hm:ds.length=m*z) (hm0:0<m) (hlen:k+m <= maxLen) (hbytes:(k+m)*bytes <= 140737488355328) {N:Nat} (hN:k+m=N) (hU:(⟨bx,⟨v,e,z,k,cs⟩::B⟩:aH).bl.Nodup -> ∀b,b∈aO v -> b∈U) (hT:∀b,b∈aO v -> b∈T) (hr:cs++ds=r)
  (h:∀v',K ⟨n,aO v'++T,⟨bx,⟨v',e,z,N,r⟩::B⟩,(d,.c (.val v'))::ts⟩):dN P U o ⟨n,T,⟨bx,⟨v,e,z,k,cs⟩::B⟩,ts⟩ K:=by
 subst hr;subst hN;exact E7 [] ho hd hn hx J hy hu hi hz hsz hby hzs h0 hm hm0 hlen hbytes hU hT h
theorem bj{F:FuncId}{ars:Array bc}{tys:Array bA}{us:List AT}(T':List Nat){QQ:AT -> aH -> Prop}(ho:o.op=.call {callee:=.value (.func F),args:=ars,argTypes:=tys})(hd:o.dst=some d)(hn:d<n)
  (hcf:∀args w,(callFunc F args).run P w=.ok (.enter F args) w) (has:ars.toList.map (ay ⟨n,T,s,ts⟩)=us.map some) (hc:aR P F us T' s QQ) (hT:∀b,b∈T' -> b∈T) (hTb:∀b,b∈T' -> b∈s.bl) (hU:s.bl.Nodup -> ∀b,b∈T' -> b∈U)
  (h:∀r s',QQ r s' -> K ⟨n,T,s',(d,r)::ts⟩):dN P U o ⟨n,T,s,ts⟩ K:=VG T' ho hd hn hcf has hc hT hTb hU h
theorem az{bx':List aT}{rw':List aS}{T':List Nat}{ts':List (Nat×AT)}(h3:∀b,b∈T' -> b∈T)(h1:bx'.Sublist bx:=by exact (.refl _))(h2:rw'.Sublist rw:=by exact (.refl _))(h:Sub ⟨n,T',⟨bx',rw'⟩,ts⟩ ⟨n,T',⟨bx',rw'⟩,ts'⟩:=by exact (ao rfl)):Sub ⟨n,T,⟨bx,rw⟩,ts⟩ ⟨n,T',⟨bx',rw'⟩,ts'⟩:=
 Sub.trans (qO (st:=⟨n,T,⟨bx,rw⟩,ts⟩) (s':=⟨bx',rw'⟩) (aj h1 h2)) (Sub.trans (FO (st:=⟨n,T,⟨bx',rw'⟩,ts⟩) T' h3) h)
theorem KV{b:Nat}(h:b∈s.bl):b∈fG s []:=gK.2 ⟨h,aK⟩
theorem F7{st:AS}(i:Nat){u t:AT}(hl:look st.ts i=some u)(hw:bu u t):Sub st {st with ts:=(i,t)::st.ts}:=λa w hs=>by
 refine ⟨⟨hs.df,hs.sz,λj x hx=>?_,hs.mem⟩,λ_ h=>h,λ_ h=>h⟩;simp only [look] at hx;split at hx
 ·rename_i he;subst he;cases hx;obtain ⟨v,aa,e2⟩:=hs.tm i u hl;exact ⟨v,aa,hw _ _ e2⟩
 exact hs.tm j x hx
theorem d9(i:Nat){u t:AT}(hl:look ts i=some u)(hw:bu u t)(h:cL P ops l ⟨n,T,s,(i,t)::ts⟩ Q):cL P ops l ⟨n,T,s,ts⟩ Q:=rh (F7 (st:=⟨n,T,s,ts⟩) i hl hw) h
theorem fZ(E:bA)(z:Nat){c:Code}(h:bo P c ⟨n,T,⟨bx,⟨.slice none 0 0,E,z,0,[]⟩::rw⟩,ts⟩ Q):bo P c ⟨n,T,⟨bx,rw⟩,ts⟩ Q:=rA (Gz (st:=⟨n,T,⟨bx,rw⟩,ts⟩) E z) h
theorem mS(i:Nat){c:Code}{v:aM}{E:bA}{z k:Nat}{cs:List aN}(hi:look ts i=some (.c (.val v)))(h:bo P c ⟨n,T,⟨bx,rw⟩,(i,.c (.sl k cs))::ts⟩ Q)(hz:0<z:=by decide):bo P c ⟨n,T,⟨bx,⟨v,E,z,k,cs⟩::rw⟩,ts⟩ Q:=
 rA (Hj (st:=⟨n,T,⟨bx,⟨v,E,z,k,cs⟩::rw⟩,ts⟩) (A:=[]) i hi rfl hz) h
theorem A8{y:Code}{st:AS}(h:bo P y st Q):j_ (λs=>bo P y s Q) Q .normal st:=h
theorem P_{st:AS}{id:Nat}(h:Q .normal st):o8 id Q (.exit id) st:=by show (if id=id then _ else _);rw [if_pos rfl];exact h
theorem Vb{st:AS}{id id':Nat}(hne:id'≠id)(h:Q (.exit id') st):o8 id Q (.exit id') st:=by show (if id'=id then _ else _);rw [if_neg hne];exact h
theorem o_{c:bc}{x y:Code}{st:AS}{b:Bool}(hc:ay st c=some (.c (.val (.bool b))))(hb:b=true)(h:bo P x st Q):bo P (.cond c x y) st Q:=iB hc (λ_=>h) (λh=>by rw [hb] at h;cases h)
theorem R0{c:bc}{x y:Code}{st:AS}{b:Bool}(hc:ay st c=some (.c (.val (.bool b))))(hb:b=false)(h:bo P y st Q):bo P (.cond c x y) st Q:=iB hc (λh=>by rw [hb] at h;cases h) (λ_=>h)
theorem wrap64{m:Int}(h1:-9223372036854775808 <= m)(h2:m <= 9223372036854775807):IntKind.i64.wrap m=m:=IntWalk.i64_in _ ⟨h1,h2⟩
theorem w_{st:AS}{E yt:bA}{x y:bc}{m k:Int}(ho:o.op=.binOp .add E x y yt)(hx:ay st x=some (.c (.val (.int .i64 m))))(hy:ay st y=some (.c (.val (.int .i64 k))))(h1:-9223372036854775808 <= m+k)(h2:m+k <= 9223372036854775807):cf P U o st (.c (.val (.int .i64 (m+k)))):=
 Mk ho hx hy (by simp only [Am,wrap64 h1 h2])
theorem mC{st:AS}{E yt:bA}{x y:bc}{m k:Int}(ho:o.op=.binOp .sub E x y yt:=by exact rfl)(hx:ay st x=some (.c (.val (.int .i64 m))):=by exact rfl)(hy:ay st y=some (.c (.val (.int .i64 k))):=by exact rfl)(h1:-9223372036854775808 <= m-k:=by omega)(h2:m-k <= 9223372036854775807:=by omega):cf P U o st (.c (.val (.int .i64 (m-k)))):=
 Mk ho hx hy (by simp only [Am,wrap64 h1 h2])
theorem Mm{α:Type}(enc:α -> List aN)(z:Nat)(hz:∀x,(enc x).length=z):∀(l:List α)(k:Nat)(hk:k<l.length),(l.flatMap enc).drop (k*z)=enc l[k]++(l.drop (k+1)).flatMap enc
 |[],k,hk=>absurd hk aK
 |x::l,0,_=>aK
 |x::l,k+1,hk=>by
  have ih:=Mm enc z hz l k nS;rw [fD,List.drop_append,zD (by rw [hz,wO];omega),hz,dw];have e:(k+1)*z-z=k*z:=by rw [wO];omega
  rw [e,ih];simp
theorem fN{α:Type}(enc:α -> List aN)(z:Nat)(hz:∀x,(enc x).length=z):∀l:List α,(l.flatMap enc).length=l.length*z
 |[]=>aK
 |x::l=>by rw [fD,Cf,hz,fN enc z hz l,wE,wO];omega
theorem bS{st:AS}{E e:bA}{x y:bc}{z:Nat}{α:Type}(enc enc':α -> List aN)(lst:List α)(hz:∀x,(enc x).length=z)(he:∀x,enc x=enc' x){k:IntKind}{i:Int}(j:Nat)(ho:o.op=.indexAddr E x y)(hx:ay st x=some (.c (.sl lst.length (lst.flatMap enc))))(hy:ay st y=some (.c (.val (.int k i))))(hi:i=j)(hj:j<lst.length)(h0:0<z)
  (hu:∀w,(underlying E).run P w=.ok (.slice e) w) (hS:∀w,(sizeOf e).run P w=.ok z w):cf P U o st (.el (enc' lst[j]++(lst.drop (j+1)).flatMap enc)):=by
 have h:=J4 (P:=P) (U:=U) j ho hx hy hi hj (by rw [fN enc z hz];exact Nat.mul_lt_mul_of_pos_right hj h0) hu hS;rw [Mm enc z hz lst j hj,he] at h;exact h
theorem zM{cs ds:List aN}(h:ds.length=cs.length):splice cs 0 ds=ds:=by unfold splice;simp [h]
theorem Tk{ag:Bool}{z:Nat}{cs R:List aN}(h:cs.length=z)(ha:ag=true):gV ag z (cs++R) 0=some (.agg cs):=by
 subst ha;subst h;simp [gV]
theorem cY{ag:Bool}{z:Nat}{cs:List aN}(h:cs.length=z)(ha:ag=true):gV ag z cs 0=some (.agg cs):=by
 subst ha;subst h;simp [gV]
end
def kv.r{x:aN}{xs ys:List aN}(h:kv xs ys):kv (x::xs) (x::ys):=.cons (tW.refl _) h
def kv.n{xs ys:List aN}(h:kv xs ys):kv (.val (.slice none 0 0)::xs) (.sl 0 []::ys):=.cons py h
section
variable {P:Program}{ops:Array Oper}{U Z:List Nat}{o:Oper}{n d:Nat}{T:List Nat}{s:aH}{ts:List (Nat×AT)}{Q:Exit -> AS -> Prop}{l:List Oper}{t:AT}{st:AS}
theorem Ze{x:bc}(hw:dn ops o ⟨n,T,s,ts⟩=some true)(ho:o.op=.move x)(hd:o.dst=some d)(hn:Nat.blt d n=true)(hx:ay ⟨n,T,s,ts⟩ x=some t)(h:cL P ops l ⟨n,T,s,(d,t)::ts⟩ Q):cL P ops (o::l) ⟨n,T,s,ts⟩ Q:=yp hw hd (ez hn) (nQ ho hx) h
theorem Xv{x:bc}(hw:dn ops o ⟨n,T,s,ts⟩=some true)(ho:o.op=.assign x)(hd:o.dst=some d)(hn:Nat.blt d n=true)(hx:ay ⟨n,T,s,ts⟩ x=some t)(h:cL P ops l ⟨n,T,s,(d,t)::ts⟩ Q):cL P ops (o::l) ⟨n,T,s,ts⟩ Q:=yp hw hd (ez hn) (wK ho hx) h
theorem Bp(hw:dn ops o ⟨n,T,s,ts⟩=some true)(hd:o.dst=some d)(hn:Nat.blt d n=true)(hy:cf P [] o ⟨n,T,s,ts⟩ t)(h:cL P ops l ⟨n,T,s,(d,t)::ts⟩ Q):cL P ops (o::l) ⟨n,T,s,ts⟩ Q:=yp hw hd (ez hn) hy h
theorem Sb{y:Code}(h:bo P y st Q):cL P ops [] st (j_ (λs=>bo P y s Q) Q):=FL (A8 h)
theorem Vx{id:Nat}{l:List Oper}{y:Code}(h:cL P l.toArray l st (j_ (λs=>bo P y s Q) Q)):bo P (.seq (.region id l.toArray false) y) st Q:=AG (F3 h)
theorem JY{id:Nat}{l:List Oper}{y:Code}(h:cL P l.toArray l st (j_ (λs=>bo P y s Q) Q)):cL P ops [] st (j_ (λs=>bo P (.seq (.region id l.toArray false) y) s Q) Q):=Sb (Vx h)
theorem bV{p:Nat}{L:List Nat}(h:p∈L:=by simp):∀b,b∈[p] -> b∈L:=by intro b hb;simp at hb;subst hb;exact h
theorem Sy{p:Nat}{F:FuncId}{ars:Array bc}{tys:Array bA}{us:List AT}{QQ:AT -> aH -> Prop}(hw:dn ops o ⟨n,T,s,ts⟩=some true)(ho:o.op=.call {callee:=.value (.func F),args:=ars,argTypes:=tys})(hd:o.dst=some d)(hn:Nat.blt d n=true)
  (hcf:∀args w,(callFunc F args).run P w=.ok (.enter F args) w) (has:ars.toList.map (ay ⟨n,T,s,ts⟩)=us.map some) (hc:aR P F us [p] s QQ) (hT:p∈T) (hTb:p∈s.bl)
  (h:∀r s',QQ r s' -> cL P ops l ⟨n,T,s',(d,r)::ts⟩ Q):cL P ops (o::l) ⟨n,T,s,ts⟩ Q:=aW hw (bj [p] ho hd (ez hn) hcf has hc (bV (h:=hT)) (bV (h:=hTb)) (λ_=>bV (h:=hT)) h)
theorem bC{p:Nat}{F:FuncId}{ars:Array bc}{tys:Array bA}{us:List AT}{QQ:AT -> aH -> Prop}(h0:(dn ops o ⟨n,T,s,ts⟩,o.op,o.dst,Nat.blt d n)=(some true,.call {callee:=.value (.func F),args:=ars,argTypes:=tys},some d,true))
  (hcf:∀args w,(callFunc F args).run P w=.ok (.enter F args) w) (has:ars.toList.map (ay ⟨n,T,s,ts⟩)=us.map some) (hc:aR P F us [p] s QQ)
  (h:∀r s',QQ r s' -> cL P ops l ⟨n,T,s',(d,r)::ts⟩ Q) (hT:p∈T:=by simp) (hTb:p∈s.bl:=by simp [aH.bl]):cL P ops (o::l) ⟨n,T,s,ts⟩ Q:=by
 simp only [iN] at h0;exact Sy h0.1 h0.2.1 h0.2.2.1 h0.2.2.2 hcf has hc hT hTb h
theorem aF(h0:(dn ops o ⟨n,T,s,ts⟩,o.dst,Nat.blt d n)=(some true,some d,true))(hy:cf P [] o ⟨n,T,s,ts⟩ t)(h:cL P ops l ⟨n,T,s,(d,t)::ts⟩ Q):cL P ops (o::l) ⟨n,T,s,ts⟩ Q:=by
 simp only [iN] at h0;exact Bp h0.1 h0.2.1 h0.2.2 hy h
theorem Vl(i:Nat){fuel:Nat}{listed:Array Bool}{Q:AS -> Prop}(hr:((Region.ready .any ops listed).contains i && Region.free .any ops listed i && Region.noSelect ops)=true)(hi:ops.toList[i]?=some o)
  (hw:dn ops o ⟨n,T,s,ts⟩=some true) (hd:o.dst=some d) (hn:Nat.blt d n=true) (hy:cf P (fG s Z) o ⟨n,T,s,ts⟩ t) (h:dh P ops Z fuel (listed.setIfInBounds i true) ⟨n,T,s,(d,t)::ts⟩ Q):dh P ops Z (fuel+1) listed ⟨n,T,s,ts⟩ Q:=by
 simp only [cz] at hr;exact RY i hr.1.1 hi hr.1.2 hr.2 hw hd (ez hn) hy h
theorem S9(i:Nat){fuel:Nat}{listed:Array Bool}{Q:AS -> Prop}(hr:((Region.ready .any ops listed).contains i && Region.free .any ops listed i && Region.noSelect ops)=true)
  (h0:(ops.toList[i]?,dn ops o ⟨n,T,s,ts⟩,o.dst,Nat.blt d n)=(some o,some true,some d,true)) (hy:cf P (fG s Z) o ⟨n,T,s,ts⟩ t) (h:dh P ops Z fuel (listed.setIfInBounds i true) ⟨n,T,s,(d,t)::ts⟩ Q):dh P ops Z (fuel+1) listed ⟨n,T,s,ts⟩ Q:=by
 simp only [iN] at h0;exact Vl i hr h0.1 h0.2.1 h0.2.2.1 h0.2.2.2 hy h
theorem bJ{E yt:bA}{x y:bc}{m k:Int}(h0:(dn ops o ⟨n,T,s,ts⟩,o.dst,Nat.blt d n,o.op,ay ⟨n,T,s,ts⟩ x,ay ⟨n,T,s,ts⟩ y)=(some true,some d,true,.binOp .add E x y yt,some (.c (.val (.int .i64 m))),some (.c (.val (.int .i64 k)))))
  (h:cL P ops l ⟨n,T,s,(d,.c (.val (.int .i64 (m+k))))::ts⟩ Q) (h1:-9223372036854775808 <= m+k:=by omega) (h2:m+k <= 9223372036854775807:=by omega):cL P ops (o::l) ⟨n,T,s,ts⟩ Q:=by
 simp only [iN] at h0;exact Bp h0.1 h0.2.1 h0.2.2.1 (w_ h0.2.2.2.1 h0.2.2.2.2.1 h0.2.2.2.2.2 h1 h2) h
theorem cy{F:FuncId}{ars:Array bc}{tys:Array bA}{us:List AT}{QQ:AT -> aH -> Prop}(h0:(dn ops o ⟨n,T,s,ts⟩,o.op,o.dst,Nat.blt d n)=(some true,.call {callee:=.value (.func F),args:=ars,argTypes:=tys},some d,true))
  (hcf:∀args w,(callFunc F args).run P w=.ok (.enter F args) w) (has:ars.toList.map (ay ⟨n,T,s,ts⟩)=us.map some) (hc:aR P F us [] s QQ) (h:∀r s',QQ r s' -> cL P ops l ⟨n,T,s',(d,r)::ts⟩ Q):cL P ops (o::l) ⟨n,T,s,ts⟩ Q:=by
 simp only [iN] at h0;exact aW h0.1 (bj [] h0.2.1 h0.2.2.1 (ez h0.2.2.2) hcf has hc gr gr (λ_ _ h=>gM) h)
theorem aCD{F:FuncId}{fn:Func}{c:Code}{args:List AT}{Q:AT -> aH -> Prop}(hf:P.funcs[F]?=some fn)(hb:(fn.body,Nat.ble args.length fn.ntmps)=(some c,true))
  (h:bo P c ⟨fn.ntmps,T,s,sC 0 args⟩ λe st=>(e=.normal∨e=.ret) /\ ∃r s',mN P fn st r /\ jU st.s s' /\ Q r s'):aR P F args T s Q:=by
 simp only [iN] at hb;exact F9 hf hb.1 (ez hb.2) h
theorem bN(m:Nat){F:FuncId}{fn:Func}{c:Code}{args:List AT}{Q:AT -> aH -> Prop}(hf:P.funcs[F]?=some fn)
  (h:bo P c ⟨m,T,s,ts⟩ λe st=>(e=.normal∨e=.ret) /\ ∃r s',mN P fn st r /\ jU st.s s' /\ Q r s') (hb:(fn.body,fn.ntmps,Nat.ble args.length fn.ntmps)=(some c,m,true):=by exact rfl) (ht:sC 0 args=ts:=by dsimp only [sC,Nat.reduceAdd]):aR P F args T s Q:=by
 simp only [iN] at hb;obtain ⟨h1,rfl,h3⟩:=hb;subst ht;exact F9 hf h1 (ez h3) h
theorem dm{s:aH}:jU s s:=jU.refl s
theorem cM{x:aT}{B:List aT}{r:List aS}:jU ⟨x::B,r⟩ ⟨B,r⟩:=aj (.cons _ (.refl _)) (.refl _)
theorem eX{x y:aT}{B:List aT}{r:List aS}:jU ⟨x::y::B,r⟩ ⟨B,r⟩:=aj (.cons _ (.cons _ (.refl _))) (.refl _)
theorem ao{ts':List (Nat×AT)}(h:ts'.map (λp=>look st.ts p.1)=ts'.map (λp=>some p.2)):Sub st {st with ts:=ts'}:=by
 induction ts' with
 |nil=>exact Ui
 |cons p ts' ih=>
  simp only [cd,qY] at h;exact av h.1 (bu.refl _) (ih h.2)
theorem aC{op:BinOp}{k:IntKind}{E yt:bA}{x y:bc}{m q:Int}(r:Bool)(h0:(dn ops o ⟨n,T,s,ts⟩,o.dst,Nat.blt d n,o.op,ay ⟨n,T,s,ts⟩ x,ay ⟨n,T,s,ts⟩ y)=(some true,some d,true,.binOp op E x y yt,some (.c (.val (.int k m))),some (.c (.val (.int k q)))))(hr:eU op m q=some r)
  (h:cL P ops l ⟨n,T,s,(d,.c (.val (.bool r)))::ts⟩ Q):cL P ops (o::l) ⟨n,T,s,ts⟩ Q:=by
 simp only [iN] at h0;exact Bp h0.1 h0.2.1 h0.2.2.1 (ej r h0.2.2.2.1 h0.2.2.2.2.1 h0.2.2.2.2.2 hr) h
abbrev aE(b:Nat):AT:=.c (.val (.pointer (some ⟨b,0,none⟩)))
abbrev aB{α:Type}(f:α -> List aN)(l:List α):aN:=.sl l.length (l.flatMap f)
abbrev aI:aN:=.val (.slice none 0 0)
abbrev aA(x:Int):aN:=.val (.int .i64 x)
abbrev ae(x:ByteArray):aN:=.val (.string x)
abbrev bD(x:Bool):aN:=.val (.bool x)
abbrev aD(g:Nat):aN:=.val (.map (some g))
abbrev bB(x:Int):AT:=.c (.val (.int .i64 x))
abbrev cB(x:ByteArray):AT:=.c (.val (.string x))
abbrev ap(x:Bool):AT:=.c (.val (.bool x))
abbrev au(v:Value):AT:=.c (.val v)
abbrev am(k:Nat):aN:=.val (.int .i64 ((k:Nat):Int))
abbrev aX(k:Nat):AT:=.c (.val (.int .i64 ((k:Nat):Int)))
theorem P7{fn:Func}{st:AS}{r:AT}{s':aH}{K:AT -> aH -> Prop}{rv:ResultVar}{e:Exit}(he:e=.normal∨e=.ret)(h1:fn.results=#[rv])(h2:lN P st rv r)(hs:jU st.s s')(hk:K r s'):(e=.normal∨e=.ret) /\ ∃r s',mN P fn st r /\ jU st.s s' /\ K r s':=⟨he,r,s',bT h1 h2,hs,hk⟩
theorem aw{fn:Func}{st:AS}{r:AT}{s':aH}{K:AT -> aH -> Prop}{t:Tmp}(h1:(fn.results,look st.ts t)=(#[.tmp t],some r))(hs:jU st.s s')(hk:K r s'):(Exit.ret=.normal∨Exit.ret=.ret) /\ ∃r s',mN P fn st r /\ jU st.s s' /\ K r s':=by
 simp only [iN] at h1;exact P7 (.inr J) h1.1 (bM h1.2) hs hk
theorem dL{L:List Nat}:∀b,b∈([]:List Nat) -> b∈L:=λ_ h=>gM
end
end
end Go.Proofs.YtjgeihmhppadaaaGreatDoor
