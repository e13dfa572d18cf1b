import Derived.Test.YtjgeihmhppadaaaGreatDoorA1J
import Derived.Deep.RegionHeld3
import Derived.Deep.LoopGhost
set_option linter.all false
namespace Go.Proofs.YtjgeihmhppadaaaGreatDoor
section
inductive aH where
 |mk (op num:Int) (name:ByteArray) (args:List aH)
structure cY where
 name:ByteArray
 index:List aH
structure eN where
 mutex:Bool
 ref:cY
 expr:aH
inductive aJ where
 |mk (kind:Int) (name:ByteArray) (expr:aH) (ref:cY) (args:List eN) (thn els:List aJ)
structure aS where
 name:ByteArray
 mutex:Bool
structure bS where
 name:ByteArray
 params:List aS
 body:List aJ
structure aI where
 name:ByteArray
 init:Int
structure cL where
 name:ByteArray
 reentrant:Bool
 size:Int
structure cK where
 globals:List aI
 mutexes:List cL
 funcs:List bS
def aH.op:aH -> Int|.mk o _ _ _=>o
def aH.num:aH -> Int|.mk _ n _ _=>n
def aH.name:aH -> ByteArray|.mk _ _ n _=>n
def aH.args:aH -> List aH|.mk _ _ _ a=>a
def aJ.kind:aJ -> Int|.mk k _ _ _ _ _ _=>k
def aJ.name:aJ -> ByteArray|.mk _ n _ _ _ _ _=>n
def aJ.expr:aJ -> aH|.mk _ _ e _ _ _ _=>e
def aJ.ref:aJ -> cY|.mk _ _ _ r _ _ _=>r
def aJ.args:aJ -> List eN|.mk _ _ _ _ a _ _=>a
def aJ.thn:aJ -> List aJ|.mk _ _ _ _ _ t _=>t
def aJ.els:aJ -> List aJ|.mk _ _ _ _ _ _ e=>e
def aK:ByteArray:=⟨#[]⟩
def aH.zero:aH:=.mk 0 0 aK []
def cY.zero:cY:=⟨aK,[]⟩
def cO(n:Nat):List UInt8:=if n<10 then [UInt8.ofNat (48+n)] else cO (n/10)++[UInt8.ofNat (48+n%10)]
def eH(n:Int):List UInt8:=if n<0 then 45::cO n.natAbs else cO n.natAbs
def aM(op:Int):Nat:=
 if op=17 then 0 else if op=16 then 1 else if 10 <= op /\ op <= 15 then 2 else if op=8∨op=9 then 3 else if 5 <= op /\ op <= 7 then 4 else if op=3∨op=4 then 5 else 6
def cV(b:Int)(k:Nat)(a:Int):Bool:=decide (aM a<aM b∨aM a=aM b /\ k=1)
def iW(op:Int):List UInt8:=
 if op=17 then [124,124] else if op=16 then [38,38] else if op=14 then [61,61] else if op=15 then [33,61] else if op=10 then [60] else if op=11 then [60,61] else if op=12 then [62] else if op=13 then [62,61] else
 if op=8 then [43] else if op=9 then [45] else if op=5 then [42] else if op=6 then [47] else if op=7 then [37] else []
def iX(op num:Int)(name:ByteArray)(ts:List (List UInt8)):List UInt8:=
 if op=1 then eH num else if op=2 then name.data.toList else if op=3 then 45::ts.getD 0 [] else if op=4 then 33::ts.getD 0 [] else
 if aM op<5 then ts.getD 0 []++[32]++iW op++[32]++ts.getD 1 [] else []
mutual
def aP:aH -> List UInt8
 |.mk op num name args=>iX op num name (dP op 0 args)
def dP(b:Int):Nat -> List aH -> List (List UInt8)
 |_,[]=>[]
 |k,e::es=>(if cV b k e.op then [40]++aP e++[41] else aP e)::dP b (k+1) es
end
def bQ(s:ByteArray):Bool:=
 match s.data.toList with
 |[]=>false
 |c::r=>fU c && r.all cT && decide (s.size <= 16) && !dA s
def jG(op num:Int)(name:ByteArray):Bool:=(decide (op=1 /\ 0 <= num) && decide (name=aK))||(decide (op=2 /\ num=0) && bQ name)
def arity(op:Int):Nat:=if aM op=6 then 0 else if aM op=5 then 1 else 2
mutual
def eO:aH -> Bool
 |.mk op num name args=>(if aM op=6 then jG op num name else decide (num=0) && decide (name=aK)) && decide (args.length=arity op) && dY args
def dY:List aH -> Bool
 |[]=>true
 |e::es=>eO e && dY es
end
mutual
def dI:aH -> Nat
 |.mk op _ _ args=>bSm op 0 args+if aM op=5 then 1 else 0
def bSm(b:Int):Nat -> List aH -> Nat
 |_,[]=>0
 |k,e::es=>max (dI e+if cV b k e.op then 1 else 0) (bSm b (k+1) es)
end
def dM(e:aH):Bool:=eO e && decide (dI e <= 24)
end
section
def dC(r:cY):List UInt8:=match r.index with|[]=>r.name.data.toList|e::_=>r.name.data.toList++[91]++aP e++[93]
def dE(a:eN):List UInt8:=if a.mutex then [109,117,116,101,120,32]++dC a.ref else aP a.expr
def bW{α:Type}(f:α -> List UInt8):List α -> List UInt8
 |[]=>[]
 |x::r=>f x++(r.map λy=>[44,32]++f y).flatten
theorem aF8{α:Type}(f:α -> List UInt8)(l:List α)(x:α):bW f (l++[x])=bW f l++(if l=[] then [] else [44,32])++f x:=by
 cases l with
 |nil=>simp [bW]
 |cons a r=>simp [bW]
theorem hJ{α:Type}(f:α -> List UInt8)(l:List α)(k:Nat)(hk:k<l.length):bW f (l.take (k+1))=bW f (l.take k)++(if k=0 then [] else [44,32])++f l[k]:=by
 rw [List.take_succ_eq_append_getElem hk,aF8]
 have:(l.take k=[])↔k=0:=by
  rw [List.take_eq_nil_iff]
  constructor
  ·rintro (h|h)
   ·exact h
   subst h;simp at hk
  exact .inl
 by_cases h:k=0
 ·rw [if_pos (this.2 h),if_pos h]
 rw [if_neg (λh'=>h (this.1 h')),if_neg h]
def dF(l:List eN):List UInt8:=[40]++bW dE l++[41]
mutual
def bY(tabs:List UInt8):aJ -> List UInt8
 |.mk kind name expr ref args thn els=>tabs++
  (if kind=1 then [118,97,114,32]++name.data.toList++[32,61,32]++aP expr++[59]
   else if kind=2 then name.data.toList++[32,61,32]++aP expr++[59]
   else if kind=3 then name.data.toList++dF args++[59]
   else if kind=4 then [103,111,32]++name.data.toList++dF args++[59]
   else if kind=5 then [108,111,99,107,32]++dC ref++[59]
   else if kind=6 then [117,110,108,111,99,107,32]++dC ref++[59]
   else if kind=7∨kind=8 then
    (if kind=8 then [119,104,105,108,101,32] else [105,102,32])++aP expr++[32,123,10]++aC (tabs++[9]) thn++tabs++[125]++
     (if els.length=0 then [] else [32,101,108,115,101,32,123,10]++aC (tabs++[9]) els++tabs++[125])
   else [114,101,116,117,114,110,59])++[10]
def aC(tabs:List UInt8):List aJ -> List UInt8
 |[]=>[]
 |s::r=>bY tabs s++aC tabs r
end
theorem oX(tabs:List UInt8)(l m:List aJ):aC tabs (l++m)=aC tabs l++aC tabs m:=by
 induction l with
 |nil=>simp [aC]
 |cons a r ih=>simp [aC,ih]
def aU(g:aI):List UInt8:=[118,97,114,32]++g.name.data.toList++(if g.init=0 then [] else [32,61,32]++eH g.init)++[59,10]
def bE(m:cL):List UInt8:=(if m.reentrant then [114] else [])++[109,117,116,101,120,32]++m.name.data.toList++(if 0<m.size then [91]++eH m.size++[93] else [])++[59,10]
def bX(x:aS):List UInt8:=(if x.mutex then [109,117,116,101,120,32] else [])++x.name.data.toList
def funcText(f:bS):List UInt8:=[102,117,110,99,32]++f.name.data.toList++[40]++bW bX f.params++[41,32,123,10]++aC [9] f.body++[125,10]
def cR(p:cK):List UInt8:=(p.globals.map aU).flatten++(p.mutexes.map bE).flatten++(p.funcs.map funcText).flatten
def bLg(e:aH):Bool:=decide (e.op=0 /\ e.num=0) && decide (e.name=aK) && decide (e.args.length=0)
def kM(r:cY):Bool:=decide (r.name=aK) && decide (r.index.length=0)
def okRefB(r:cY):Bool:=bQ r.name && (match r.index with|[]=>true|[e]=>dM e|_=>false)
def fY(a:eN):Bool:=if a.mutex then okRefB a.ref && bLg a.expr else kM a.ref && dM a.expr
mutual
def bK9(deep:Nat):aJ -> Bool
 |.mk k name expr ref args thn els=>
  decide (1 <= k /\ k <= 9) && (if 1 <= k /\ k <= 4 then bQ name else decide (name=aK)) &&
  (if k=1∨k=2∨k=7∨k=8 then dM expr else bLg expr) && (if k=5∨k=6 then okRefB ref else kM ref) &&
  (decide (k=3∨k=4)||decide (args.length=0)) && args.all fY &&
  (if k=7∨k=8 then bM (deep+1) thn else decide (thn.length=0)) &&
  (decide (els.length=0)||(decide (k=7) && bM (deep+1) els))
def bM(deep:Nat):List aJ -> Bool
 |[]=>decide (deep<24)
 |s::r=>bK9 deep s && bM deep r
end
def gH(g:aI):Bool:=bQ g.name && decide (g.init≠-9223372036854775808)
def fS(m:cL):Bool:=bQ m.name && decide (0 <= m.size /\ m.size <= 64) && !(m.reentrant && decide (0<m.size))
def gW(f:bS):Bool:=bQ f.name && decide (f.params.length <= 6) && bM 0 f.body && f.params.all λx=>bQ x.name
def fX.isOk:fX -> Bool|.ok _=>true|.err _ _=>false
def jI(p:cK):Bool:=decide (p.globals.length <= 16 /\ p.mutexes.length <= 12 /\ p.funcs.length <= 16) && p.globals.all gH && p.mutexes.all fS && p.funcs.all gW && (iH (cR p)).isOk
end
section
open Go.RowKit
def gE{α:Type}(w:World)(R:α -> List Value -> Prop)(z:Nat)(v:Value)(l:List α):Prop:=
 ∃rows:List (List Value),dD w v l.length rows.flatten /\ rows.length=l.length /\ ∀k (h:k<l.length) (h':k<rows.length),R l[k] rows[k] /\ rows[k].length=z
mutual
def fA(w:World):aH -> List Value -> Prop
 |.mk op num name args,cs=>∃(v:Value) (rows:List (List Value)),cs=[.int .i64 op,.int .i64 num,.string name,v] /\ dD w v args.length rows.flatten /\ gB w args rows
def gB(w:World):List aH -> List (List Value) -> Prop
 |[],rows=>rows=[]
 |e::es,rows=>∃r rs,rows=r::rs /\ fA w e r /\ gB w es rs
end
theorem fA.len{w:World}{e:aH}{cs:List Value}(h:fA w e cs):cs.length=4:=by
 cases e;rw [fA] at h;obtain ⟨v,rows,rfl,_⟩:=h;rfl
mutual
theorem fA.below{w w':World}(hb:Below w.heap.size w w'):∀(e:aH) {cs:List Value},fA w e cs -> fA w' e cs
 |.mk op num name args,cs,h=>by
  rw [fA] at h⊢
  obtain ⟨v,rows,rfl,h1,h2⟩:=h
  exact ⟨v,rows,Y,h1.below hb (Nat.le_refl _),gB.below hb args h2⟩
theorem gB.below{w w':World}(hb:Below w.heap.size w w'):∀(l:List aH) {rows:List (List Value)},gB w l rows -> gB w' l rows
 |[],rows,h=>by rw [gB] at h⊢;exact h
 |e::es,rows,h=>by
  rw [gB] at h⊢
  obtain ⟨r,rs,rfl,h1,h2⟩:=h
  exact ⟨r,rs,Y,fA.below hb e h1,gB.below hb es h2⟩
end
theorem gE.below{α:Type}{w w':World}{R R':α -> List Value -> Prop}{z:Nat}{v:Value}{l:List α}(hb:Below w.heap.size w w')(h:gE w R z v l)(hR:∀a cs,a∈l -> R a cs -> R' a cs):gE w' R' z v l:=by
 obtain ⟨rows,h1,h2,h3⟩:=h
 exact ⟨rows,h1.below hb (Nat.le_refl _),h2,λk h h'=>⟨hR _ _ (List.getElem_mem h) (h3 k h h').1,(h3 k h h').2⟩⟩
theorem gE.nil{α:Type}(w:World)(R:α -> List Value -> Prop)(z:Nat):gE w R z (.slice none 0 0) []:=⟨[],dD.nil w,rfl,λk h=>absurd h G0⟩
def qS(w:World)(r:cY)(cs:List Value):Prop:=∃v,cs=[.string r.name,v] /\ gE w (fA w) 4 v r.index
def pW(w:World)(a:eN)(cs:List Value):Prop:=∃cr ce,cs=.bool a.mutex::(cr++ce) /\ qS w a.ref cr /\ fA w a.expr ce
theorem qS.below{w w':World}(hb:Below w.heap.size w w'){r:cY}{cs:List Value}(h:qS w r cs):qS w' r cs:=by
 obtain ⟨v,rfl,h⟩:=h
 exact ⟨v,Y,h.below hb λa cs _ h=>fA.below hb a h⟩
theorem pW.below{w w':World}(hb:Below w.heap.size w w'){a:eN}{cs:List Value}(h:pW w a cs):pW w' a cs:=by
 obtain ⟨cr,ce,rfl,h1,h2⟩:=h
 exact ⟨cr,ce,Y,h1.below hb,fA.below hb _ h2⟩
mutual
def gX(w:World):aJ -> List Value -> Prop
 |.mk k name e r args t el,cs=>∃(ce cr:List Value) (va vt ve:Value) (rt re:List (List Value)),cs=[.int .i64 k,.string name]++ce++cr++[va,vt,ve] /\ fA w e ce /\ qS w r cr /\ gE w (pW w) 7 va args /\
   dD w vt t.length rt.flatten /\ eZ w t rt /\ dD w ve el.length re.flatten /\ eZ w el re
def eZ(w:World):List aJ -> List (List Value) -> Prop
 |[],rows=>rows=[]
 |e::es,rows=>∃r rs,rows=r::rs /\ gX w e r /\ eZ w es rs
end
mutual
theorem gX.below{w w':World}(hb:Below w.heap.size w w'):∀(s:aJ) {cs:List Value},gX w s cs -> gX w' s cs
 |.mk k name e r args t el,cs,h=>by
  rw [gX] at h⊢
  obtain ⟨ce,cr,va,vt,ve,rt,re,rfl,h1,h2,h3,h4,h5,h6,h7⟩:=h
  exact ⟨ce,cr,va,vt,ve,rt,re,Y,fA.below hb _ h1,h2.below hb,h3.below hb (λ_ _ _ h=>pW.below hb h),h4.below hb (Nat.le_refl _),eZ.below hb t h5,h6.below hb (Nat.le_refl _),eZ.below hb el h7⟩
theorem eZ.below{w w':World}(hb:Below w.heap.size w w'):∀(l:List aJ) {rows:List (List Value)},eZ w l rows -> eZ w' l rows
 |[],rows,h=>by rw [eZ] at h⊢;exact h
 |e::es,rows,h=>by
  rw [eZ] at h⊢
  obtain ⟨r,rs,rfl,h1,h2⟩:=h
  exact ⟨r,rs,Y,gX.below hb e h1,eZ.below hb es h2⟩
end
theorem gX.len{w:World}{s:aJ}{cs:List Value}(h:gX w s cs):cs.length=11:=by
 cases s;rw [gX] at h
 obtain ⟨ce,cr,va,vt,ve,rt,re,rfl,h1,⟨v,rfl,_⟩,_⟩:=h
 simp [h1.len]
def aLl(x:aS)(cs:List Value):Prop:=cs=[.string x.name,.bool x.mutex]
def mJ(w:World)(f:bS)(cs:List Value):Prop:=∃vp vb,cs=[.string f.name,vp,vb] /\ gE w aLl 2 vp f.params /\ gE w (gX w) 11 vb f.body
def aKi(g:aI)(cs:List Value):Prop:=cs=[.string g.name,.int .i64 g.init]
def aLe(m:cL)(cs:List Value):Prop:=cs=[.string m.name,.bool m.reentrant,.int .i64 m.size]
def sN(w:World)(p:cK)(cs:List Value):Prop:=∃vg vm vf,cs=[vg,vm,vf] /\ gE w aKi 2 vg p.globals /\ gE w aLe 3 vm p.mutexes /\ gE w (mJ w) 3 vf p.funcs
theorem mJ.below{w w':World}(hb:Below w.heap.size w w'){f:bS}{cs:List Value}(h:mJ w f cs):mJ w' f cs:=by
 obtain ⟨vp,vb,rfl,h1,h2⟩:=h
 exact ⟨vp,vb,Y,h1.below hb (λ_ _ _ h=>h),h2.below hb (λ_ _ _ h=>gX.below hb _ h)⟩
theorem sN.below{w w':World}(hb:Below w.heap.size w w'){p:cK}{cs:List Value}(h:sN w p cs):sN w' p cs:=by
 obtain ⟨vg,vm,vf,rfl,h1,h2,h3⟩:=h
 exact ⟨vg,vm,vf,Y,h1.below hb (λ_ _ _ h=>h),h2.below hb (λ_ _ _ h=>h),h3.below hb (λ_ _ _ h=>mJ.below hb h)⟩
theorem rN{z:Nat}:∀(rows:List (List Value)),(∀r∈rows,r.length=z) -> ∀k f,(hk:k<rows.length) -> f<z -> (rows.flatten)[k*z+f]?=rows[k][f]?
 |[],_,k,f,hk,_=>by simp at hk
 |r::rs,hz,k,f,hk,hf=>by
  have hr:r.length=z:=hz r (List.mem_cons_self ..)
  rw [List.flatten_cons]
  cases k with
  |zero=>rw [Nat.zero_mul,Nat.zero_add,List.getElem?_append_left J];rfl
  |succ k=>
   rw [List.getElem?_append_right (by rw [hr,Nat.add_mul];omega)]
   have:=rN rs (λr h=>hz r (List.mem_cons_of_mem _ h)) k f Cz hf
   rw [hr,show (k+1)*z+f-z=k*z+f by rw [Nat.add_mul];omega,this];rfl
theorem gE.get{α:Type}{w:World}{R:α -> List Value -> Prop}{z:Nat}{v:Value}{l:List α}(h:gE w R z v l)(hz:0<z){k:Nat}(hk:k<l.length):
  ∃b off cap row,v=.slice (some ⟨b,off,none⟩) l.length cap /\ l.length <= cap /\ R l[k] row /\ row.length=z /\ b<w.heap.size /\ ∀f u,row[f]?=some u -> w.cell? ⟨b,off+k*z+f,none⟩=some u:=by
 obtain ⟨rows,⟨a,cap,rfl,hc,hr⟩,h2,h3⟩:=h
 have hk':k<rows.length:=J
 obtain ⟨h4,h5⟩:=h3 k hk hk'
 have hall:∀r∈rows,r.length=z:=by
  intro r hr'
  obtain ⟨i,hi,rfl⟩:=List.getElem_of_mem hr'
  exact (h3 i J hi).2
 rcases hr with h0|⟨b,off,rfl,hr⟩
 ·exfalso
  have:=rN rows hall k 0 hk' hz
  rw [h0] at this
  simp at this
  rw [this] at h5;simp at h5;omega
 have hcell:∀f u,rows[k][f]?=some u -> w.cell? ⟨b,off+k*z+f,none⟩=some u:=by
  intro f u hu
  have hf:f<z:=by
   have:=(List.getElem?_eq_some_iff.1 hu).1
   omega
  rw [Nat.add_assoc]
  exact hr _ _ (by rw [rN rows hall k f hk' hf];exact hu)
 refine ⟨b,off,cap,rows[k],Y,hc,h4,h5,?_,hcell⟩
 have h0:(rows[k])[0]?=some ((rows[k])[0]'(by omega)):=G0
 exact gV (hcell 0 _ h0)
theorem gE.slice{α:Type}{w:World}{R:α -> List Value -> Prop}{z:Nat}{v:Value}{l:List α}(h:gE w R z v l):∃a cap,v=.slice a l.length cap /\ l.length <= cap:=by
 obtain ⟨rows,⟨a,cap,rfl,hc,_⟩,_⟩:=h
 exact ⟨a,cap,Y,hc⟩
def bI(H:List Nat)(w:World):World:={w with heap:=Array.ofFn (n:=w.heap.size) λi=>if i.1∈H then Obj.cells #[] 0 (0,0) else w.heap[i]}
theorem tY(H:List Nat)(w:World):(bI H w).heap.size=w.heap.size:=by simp [bI]
theorem aFp(H:List Nat)(w:World)(k:Nat)(h:k∉H):(bI H w).heap[k]?=w.heap[k]?:=by
 unfold bI
 by_cases hk:k<w.heap.size
 ·rw [Array.getElem?_ofFn,dif_pos hk,Array.getElem?_eq_getElem hk];simp [h]
 rw [Array.getElem?_ofFn,dif_neg hk,Array.getElem?_eq_none J]
theorem aC1(H:List Nat)(w:World)(k:Nat)(h:k∈H)(hk:k<w.heap.size):(bI H w).heap[k]?=some (Obj.cells #[] 0 (0,0)):=by
 unfold bI
 rw [Array.getElem?_ofFn,dif_pos hk];simp [h]
theorem eW(H:List Nat)(w:World)(a:Addr)(h:a.block∉H):(bI H w).cell? a=w.cell? a:=World.cell?_of_block (w:=w) (aFp H w _ h)
theorem aA0(H:List Nat)(w:World)(a:Addr)(h:a.block∈H):(bI H w).cell? a=none:=by
 unfold World.cell?
 by_cases hk:a.block<w.heap.size
 ·rw [aC1 H w _ h hk];simp
 rw [Array.getElem?_eq_none (by rw [tY];omega)]
theorem gA{H:List Nat}{w:World}{a:Addr}{u:Value}(h:(bI H w).cell? a=some u):w.cell? a=some u /\ a.block∉H:=by
 by_cases hm:a.block∈H
 ·rw [aA0 H w a hm] at h;cases h
 rw [eW H w a hm] at h;exact ⟨h,hm⟩
structure cW (H:List Nat) (w w':World):Prop where
 os:w'.os=w.os
 tape:w'.tape=w.tape
 output:w'.output=w.output
 size:w.heap.size <= w'.heap.size
 block:∀k,k<w.heap.size -> k∉H -> w'.heap[k]?=w.heap[k]?
theorem cW.refl(H:List Nat)(w:World):cW H w w:=⟨rfl,rfl,rfl,Nat.le_refl _,λ_ _ _=>rfl⟩
theorem cW.trans{H:List Nat}{a b c:World}(h:cW H a b)(k:cW H b c):cW H a c:=
 ⟨k.os.trans h.os,k.tape.trans h.tape,k.output.trans h.output,Nat.le_trans h.size k.size,λi hi hn=>(k.block i (Nat.lt_of_lt_of_le hi h.size) hn).trans (h.block i hi hn)⟩
theorem cW.mono{H H':List Nat}{a b:World}(h:cW H a b)(hs:∀x,x∈H -> x∈H'):cW H' a b:=⟨h.os,h.tape,h.output,h.size,λi hi hn=>h.block i hi λhm=>hn (hs i hm)⟩
theorem cW.of_below{H:List Nat}{w w':World}(h:Below w.heap.size w w'):cW H w w':=⟨h.os,h.tape,h.output,h.size,λk hk _=>h.block k hk⟩
theorem cW.drew{H:List Nat}{a w:World}(h:cW H a w):cW H a w.drew:=⟨h.os,h.tape,h.output,h.size,h.block⟩
theorem cW.drewN{H:List Nat}{a w:World}(h:cW H a w)(k:Nat):cW H a (w.drewN k):=⟨h.os,h.tape,h.output,h.size,h.block⟩
theorem cW.alloc{H:List Nat}{a w:World}(h:cW H a w)(o:Obj):cW H a (w.alloc o):=h.trans (cW.of_below ((Below.refl _ _).alloc (Nat.le_refl _) o))
theorem cW.step{H:List Nat}{a w w':World}(h:cW H a w)(hb:Below w.heap.size w w'):cW H a w':=h.trans (cW.of_below hb)
theorem cW.setCell{H:List Nat}{a w:World}(h:cW H a w){p:Addr}(hp:p.block∈H∨a.heap.size <= p.block)(u:Value):cW H a (w.setCell p u):=
 ⟨h.os,h.tape,h.output,by simpa [World.setCell] using h.size,λk hk hn=>(Below.heap_setCell w p u k (by rintro rfl;rcases hp with hp|hp;exact hn hp;omega)).trans (h.block k hk hn)⟩
theorem cW.cell{H:List Nat}{w w':World}(h:cW H w w'){p:Addr}(hp:p.block<w.heap.size)(hn:p.block∉H):w'.cell? p=w.cell? p:=World.cell?_of_block (w:=w) (h.block p.block hp hn)
theorem cW.frozen{H:List Nat}{w w':World}(h:cW H w w'){p:Addr}(hp:p.block<w.heap.size)(hn:p.block∉H):w'.frozen? p=w.frozen? p:=World.frozen?_of_block (w:=w) (h.block p.block hp hn)
theorem cW.below{H:List Nat}{w w':World}{B:Nat}(h:cW H w w')(hB:B <= w.heap.size)(hH:∀x,x∈H -> B <= x):Below B w w':=
 ⟨h.os,h.tape,h.output,h.size,λk hk=>h.block k J λhm=>by have:=hH k hm;omega⟩
theorem cW.old{H:List Nat}{w w':World}(h:cW H w w'){p:Addr}{u:Value}(hc:(bI H w).cell? p=some u):w'.cell? p=some u:=by
 obtain ⟨h1,h2⟩:=gA hc
 rw [h.cell (gV h1) h2];exact h1
theorem dD.mono{w w':World}(hm:∀a u,w.cell? a=some u -> w'.cell? a=some u){v:Value}{n:Nat}{cells:List Value}(h:dD w v n cells):dD w' v n cells:=by
 obtain ⟨a,cap,rfl,hc,hr⟩:=h
 refine ⟨a,cap,Y,hc,?_⟩
 rcases hr with h0|⟨b,off,rfl,hr⟩
 ·exact .inl h0
 exact .inr ⟨b,off,Y,λj u hj=>hm _ _ (hr j u hj)⟩
theorem dD.hide_new(H:List Nat)(w:World)(l:List Value)(T:TypeId)(n k:Nat)(hk:k=w.heap.size)(hH:∀x,x∈H -> x<w.heap.size):dD (bI H (w.alloc (Obj.cells l.toArray T))) (.slice (some ⟨k,0,none⟩) n n) n l:=by
 obtain ⟨a,cap,he,hc,hr⟩:=dD.new_at w l T n k hk
 refine ⟨a,cap,he,hc,?_⟩
 rcases hr with h0|⟨b,off,rfl,hr⟩
 ·exact .inl h0
 refine .inr ⟨b,off,Y,λj u hj=>?_⟩
 have hb:b=k:=by injection he with h1;injection h1 with h2;injection h2 with h3;exact h3.symm
 rw [eW]
 ·exact hr j u hj
 intro hm;have:=hH b hm;omega
mutual
theorem fA.mono{w w':World}(hm:∀a u,w.cell? a=some u -> w'.cell? a=some u):∀(e:aH) {cs:List Value},fA w e cs -> fA w' e cs
 |.mk op num name args,cs,h=>by
  rw [fA] at h⊢
  obtain ⟨v,rows,rfl,h1,h2⟩:=h
  exact ⟨v,rows,Y,h1.mono hm,gB.mono hm args h2⟩
theorem gB.mono{w w':World}(hm:∀a u,w.cell? a=some u -> w'.cell? a=some u):∀(l:List aH) {rows:List (List Value)},gB w l rows -> gB w' l rows
 |[],rows,h=>by rw [gB] at h⊢;exact h
 |e::es,rows,h=>by
  rw [gB] at h⊢
  obtain ⟨r,rs,rfl,h1,h2⟩:=h
  exact ⟨r,rs,Y,fA.mono hm e h1,gB.mono hm es h2⟩
end
theorem gE.mono{α:Type}{w w':World}(hm:∀a u,w.cell? a=some u -> w'.cell? a=some u){R R':α -> List Value -> Prop}{z:Nat}{v:Value}{l:List α}(h:gE w R z v l)(hR:∀a cs,a∈l -> R a cs -> R' a cs):gE w' R' z v l:=by
 obtain ⟨rows,h1,h2,h3⟩:=h
 exact ⟨rows,h1.mono hm,h2,λk h h'=>⟨hR _ _ (List.getElem_mem h) (h3 k h h').1,(h3 k h h').2⟩⟩
theorem qS.mono{w w':World}(hm:∀a u,w.cell? a=some u -> w'.cell? a=some u){r:cY}{cs:List Value}(h:qS w r cs):qS w' r cs:=by
 obtain ⟨v,rfl,h⟩:=h
 exact ⟨v,Y,h.mono hm λa cs _ h=>fA.mono hm a h⟩
theorem pW.mono{w w':World}(hm:∀a u,w.cell? a=some u -> w'.cell? a=some u){a:eN}{cs:List Value}(h:pW w a cs):pW w' a cs:=by
 obtain ⟨cr,ce,rfl,h1,h2⟩:=h
 exact ⟨cr,ce,Y,h1.mono hm,fA.mono hm _ h2⟩
mutual
theorem gX.mono{w w':World}(hm:∀a u,w.cell? a=some u -> w'.cell? a=some u):∀(s:aJ) {cs:List Value},gX w s cs -> gX w' s cs
 |.mk k name e r args t el,cs,h=>by
  rw [gX] at h⊢
  obtain ⟨ce,cr,va,vt,ve,rt,re,rfl,h1,h2,h3,h4,h5,h6,h7⟩:=h
  exact ⟨ce,cr,va,vt,ve,rt,re,Y,fA.mono hm _ h1,h2.mono hm,h3.mono hm (λ_ _ _ h=>pW.mono hm h),h4.mono hm,eZ.mono hm t h5,h6.mono hm,eZ.mono hm el h7⟩
theorem eZ.mono{w w':World}(hm:∀a u,w.cell? a=some u -> w'.cell? a=some u):∀(l:List aJ) {rows:List (List Value)},eZ w l rows -> eZ w' l rows
 |[],rows,h=>by rw [eZ] at h⊢;exact h
 |e::es,rows,h=>by
  rw [eZ] at h⊢
  obtain ⟨r,rs,rfl,h1,h2⟩:=h
  exact ⟨r,rs,Y,gX.mono hm e h1,eZ.mono hm es h2⟩
end
theorem mJ.mono{w w':World}(hm:∀a u,w.cell? a=some u -> w'.cell? a=some u){f:bS}{cs:List Value}(h:mJ w f cs):mJ w' f cs:=by
 obtain ⟨vp,vb,rfl,h1,h2⟩:=h
 exact ⟨vp,vb,Y,h1.mono hm (λ_ _ _ h=>h),h2.mono hm (λ_ _ _ h=>gX.mono hm _ h)⟩
theorem sN.mono{w w':World}(hm:∀a u,w.cell? a=some u -> w'.cell? a=some u){p:cK}{cs:List Value}(h:sN w p cs):sN w' p cs:=by
 obtain ⟨vg,vm,vf,rfl,h1,h2,h3⟩:=h
 exact ⟨vg,vm,vf,Y,h1.mono hm (λ_ _ _ h=>h),h2.mono hm (λ_ _ _ h=>h),h3.mono hm (λ_ _ _ h=>mJ.mono hm h)⟩
theorem dAa{P:Program}(w:World){o:Oper}{a:Act}{K:Act -> World -> Prop}{Q:Exit -> Act -> World -> Prop}(s x:Operand)(t:TypeId)
  (ho:o.op=.call {callee:=.builtin .append,args:=#[s,x],argTypes:=#[t,t]})
  (base:Nat) (e:TypeId) (i:TypeInfo) (z:Value) (size bytes:Nat) (ht:P.underlying t=some (.slice e)) (hi:P.info? e=some i) (hz:i.zero=some z)
  (hsize:i.size=size) (hby:i.bytes=bytes) (hzs:z.cells.size=size) (hsz:0<size)
  (v:Value) (n:Nat) (xs:List Value) (hs:a.eval s=v) (hown:w.ownsRow base e size v n xs)
  (ad:Addr) (m c:Nat) (news:List Value) (hx:a.eval x=.slice (some ad) m c) (hl:news.length=m*size) (hnews:∀j u,news[j]?=some u -> w.cell? (ad.add j)=some u) (h1:∀u∈news,u.oneCell'=true)
  (h63:n+m <= maxLen) (hbytes:(n+m)*bytes <= 140737488355328) (hbase:base <= w.heap.size)
  (h:∀v' w',w'.ownsRow base e size v' (n+m) (xs++news) -> w.grownBy w' v.ownBlock -> (∀g,v'.ownBlock=some g -> v.ownBlock=some g∨w.heap.size <= g) -> K (a.put o.dst v') w'):o.wp P a w K Q:=by
 obtain ⟨v',w',hr,h2,h3,h4⟩:=run_append_own (P:=P) w base t o.type e i z size bytes ht hi hz hsize hby hzs hsz v n xs hown ad m c news hl hnews h1 h63 hbytes hbase
 have hfr:∀g,v'.ownBlock=some g -> v.ownBlock=some g∨w.heap.size <= g:=by
  rcases hown.2 with ⟨hv0,hn0⟩|⟨g,cap,cur,hv0,hbg,hg,hnc,hcm,hcs,htake⟩
  ·obtain ⟨v2,w2,hr2,h5,_,_⟩:=run_append_own (P:=P) w w.heap.size t o.type e i z size bytes ht hi hz hsize hby hzs hsz v n xs ⟨hown.1,.inl ⟨hv0,hn0⟩⟩ ad m c news hl hnews h1 h63 hbytes (Nat.le_refl _)
   rw [hr] at hr2
   injection hr2 with e1 e2
   subst e1
   intro k hk
   exact Or.inr (h5.lt k hk).1
  subst hv0
  by_cases hroom:n+m <= cap
  ·have hr2:=run_append_room (P:=P) w t o.type e i ht hi g n cap cur hg ad m c news (by rw [hsize];exact hl) hnews h1 hroom (by rw [hsize,hl,hcs,←Nat.add_mul];exact Nat.mul_le_mul_right _ hroom)
   rw [hr] at hr2
   injection hr2 with e1 e2
   subst e1
   intro k hk
   exact .inl hk
  have holds:∀j u,xs[j]?=some u -> w.cell? ((⟨g,0,none⟩:Addr).add j)=some u:=hown.cells (g:=g) Y
  have hr2:=run_append_grow (P:=P) w t o.type e i z ht hi hz ⟨g,0,none⟩ n cap xs (by rw [hsize];exact hown.1) holds ad m c news (by rw [hsize];exact hl) hnews J (by simp only [maxLen] at h63;omega) (by rw [hby];exact growslice_fits J hbytes)
  rw [hr] at hr2
  injection hr2 with e1 e2
  subst e1
  intro k hk
  simp [Value.ownBlock] at hk
  exact .inr J
 unfold Oper.wp execOp
 simp only [ho,resolve,invoke,builtin,Sem.run_bind,Sem.run_pure,Result.andThen_ok,List.map_toArray,List.map_cons,List.map_nil,hs,hx,hr]
 exact h v' w' h2 h3 hfr
inductive AC where
 |val (v:Value)
 |sl (n:Nat) (cs:List AC)
inductive Rep (w:World):AC -> Value -> Prop
 |val (v:Value) (h:v.oneCell'=true):Rep w (.val v) v
 |sl (n:Nat) (cs:List AC) (us:List Value) (v:Value) (h:dD w v n us) (hl:us.length=cs.length) (hr:∀i (h:i<cs.length) (h':i<us.length),Rep w cs[i] us[i]) (hcap:∀a k c,v=.slice a k c -> c <= 9223372036854775807):Rep w (.sl n cs) v
structure fG (w:World) (cs:List AC) (us:List Value):Prop where
 len:us.length=cs.length
 at_:∀i (h:i<cs.length) (h':i<us.length),Rep w cs[i] us[i]
inductive AT where
 |c (x:AC)
 |agg (cs:List AC)
 |tup (ts:List AT)
 |el (cs:List AC)
 |raw (v:Value)
 |fact (t:AT) (b o:Nat) (cs:List AC)
 |ride (t:AT) (p:World -> Prop)
def Up2(w w':World):Prop:=(∀a u,w.cell? a=some u -> w'.cell? a=some u) /\ ∀(g:Nat)(cs:Array Value)(t:TypeId)(fz:Nat×Nat),w.heap[g]?=some (Obj.cells cs t fz) -> cs.size≠0 -> w'.heap[g]?=some (Obj.cells cs t fz)
theorem Up2.trans{w w1 w2:World}(h:Up2 w w1)(k:Up2 w1 w2):Up2 w w2:=⟨λa u x=>k.1 a u (h.1 a u x),λg cs t fz x y=>k.2 g cs t fz (h.2 g cs t fz x y) y⟩
inductive dO (w:World):AT -> Value -> Prop
 |c (x:AC) (v:Value) (h:Rep w x v):dO w (.c x) v
 |agg (cs:List AC) (us:List Value) (h:fG w cs us):dO w (.agg cs) (.agg us.toArray)
 |tup (ts:List AT) (vs:List Value) (hl:vs.length=ts.length) (h:∀i (h:i<ts.length) (h':i<vs.length),dO w ts[i] vs[i]):dO w (.tup ts) (.tuple vs.toArray)
 |el (cs:List AC) (b o:Nat) (us:List Value) (h:fG w cs us) (hc:∀j u,us[j]?=some u -> w.cell? ⟨b,o+j,none⟩=some u) (hb:b<w.heap.size):dO w (.el cs) (.pointer (some ⟨b,o,none⟩))
 |raw (v:Value):dO w (.raw v) v
 |fact (t:AT) (b o:Nat) (cs:List AC) (us:List Value) (v:Value) (h:dO w t v) (hc:fG w cs us) (ha:∀j u,us[j]?=some u -> w.cell? ⟨b,o+j,none⟩=some u):dO w (.fact t b o cs) v
 |ride (t:AT) (p:World -> Prop) (v:Value) (h:dO w t v) (hp:∀w',Up2 w w' -> p w'):dO w (.ride t p) v
theorem Rep.mono{w w':World}(hm:Up2 w w'){x:AC}{v:Value}(h:Rep w x v):Rep w' x v:=by
 induction h with
 |val v h=>exact .val v h
 |sl n cs us v h hl _ hcap ih=>exact .sl n cs us v (h.mono hm.1) hl ih hcap
theorem fG.mono{w w':World}(hm:Up2 w w'){cs:List AC}{us:List Value}(h:fG w cs us):fG w' cs us:=⟨h.len,λi h1 h2=>(h.at_ i h1 h2).mono hm⟩
theorem dO.mono{w w':World}(hm:Up2 w w')(hs:w.heap.size <= w'.heap.size){x:AT}{v:Value}(h:dO w x v):dO w' x v:=by
 induction h with
 |c x v h=>exact .c x v (h.mono hm)
 |agg cs us h=>exact .agg cs us (h.mono hm)
 |tup ts vs hl _ ih=>exact .tup ts vs hl ih
 |el cs b o us h hc hb=>exact .el cs b o us (h.mono hm) (λj u hj=>hm.1 _ _ (hc j u hj)) J
 |raw v=>exact .raw v
 |fact t b o cs us v _ hc ha ih=>exact .fact t b o cs us v ih (hc.mono hm) (λj u hj=>hm.1 _ _ (ha j u hj))
 |ride t p v _ hp ih=>exact .ride t p v ih (λw'' h=>hp w'' (hm.trans h))
theorem fG.nil(w:World):fG w [] []:=⟨rfl,λi h=>absurd h G0⟩
theorem fG.cons{w:World}{c:AC}{u:Value}{cs:List AC}{us:List Value}(h:Rep w c u)(t:fG w cs us):fG w (c::cs) (u::us):=
 ⟨by simp [t.len],λi h1 h2=>by cases i with|zero=>exact h|succ i=>exact t.at_ i C2 B4⟩
theorem gU(w:World):∀(us:List Value),(∀u,u∈us -> u.oneCell'=true) -> fG w (us.map .val) us
 |[],_=>.nil w
 |u::us,h=>.cons (.val u (h u G0)) (gU w us λx hx=>h x (by simp [hx]))
theorem Rep.one{w:World}{x:AC}{v:Value}(h:Rep w x v):v.oneCell'=true:=by
 cases h with
 |val _ h=>exact h
 |sl n cs us v hr hl hh=>obtain ⟨a,cap,he,_⟩:=hr;rw [he];rfl
theorem fG.get{w:World}{cs:List AC}{us:List Value}(h:fG w cs us){i:Nat}{x:AC}(hx:cs[i]?=some x):∃u,us[i]?=some u /\ Rep w x u:=by
 obtain ⟨hi,rfl⟩:=List.getElem?_eq_some_iff.1 hx
 have h2:i<us.length:=ER
 exact ⟨us[i],by simp [h2],h.at_ i hi h2⟩
theorem fG.drop{w:World}{cs:List AC}{us:List Value}(h:fG w cs us)(k:Nat):fG w (cs.drop k) (us.drop k):=
 ⟨by simp [h.len],λi h1 h2=>by simpa using h.at_ (k+i) Fq Fp⟩
theorem fG.take{w:World}{cs:List AC}{us:List Value}(h:fG w cs us)(k:Nat):fG w (cs.take k) (us.take k):=
 ⟨by simp [h.len],λi h1 h2=>by simpa using h.at_ i Fq Fp⟩
theorem fG.app{w:World}{cs ds:List AC}{us vs:List Value}(h:fG w cs us)(k:fG w ds vs):fG w (cs++ds) (us++vs):=by
 refine ⟨by simp [h.len,k.len],λi h1 h2=>?_⟩
 rcases Nat.lt_or_ge i cs.length with hi|hi
 ·rw [List.getElem_append_left hi,List.getElem_append_left ER];exact h.at_ _ _ _
 rw [List.getElem_append_right hi,List.getElem_append_right ER]
 have e:=h.len
 simp only [e]
 exact k.at_ _ Fq Fp
theorem fG.set{w:World}{cs:List AC}{us:List Value}(h:fG w cs us)(k:Nat){x:AC}{u:Value}(hx:Rep w x u):fG w (cs.set k x) (us.set k u):=by
 refine ⟨by simp [h.len],λi h1 h2=>?_⟩
 rw [List.getElem_set,List.getElem_set]
 split
 ·exact hx
 exact h.at_ _ _ _
theorem fG.one{w:World}{cs:List AC}{us:List Value}(h:fG w cs us):∀u,u∈us -> u.oneCell'=true:=by
 intro u hu
 obtain ⟨i,hi,rfl⟩:=List.getElem_of_mem hu
 exact (h.at_ i (by rw [←h.len];exact hi) hi).one
def aY(u:Value):List Nat:=match u.ownBlock with|some g=>[g]|none=>[]
structure Box where
 b:Nat
 T:TypeId
 cs:List AC
structure bA where
 v:Value
 E:TypeId
 z:Nat
 n:Nat
 cs:List AC
def bWn(g:Nat):Value:=.slice (some ⟨g,1,none⟩) 0 0
def bXj(e:MapEntry):List Value:=e.key::e.val.cells.toList
def bWl(m:Nat)(e:MapEntry):Prop:=(∃k,e.key=.string k) /\ if m=0 then e.val.oneCell'=true else ∃us:List Value,e.val=.agg us.toArray /\ us.length=m
structure bWm (w:World) (r:bA) (us:List Value):Prop where
 z0:r.z=0
 is:∃g es clock,r.v=bWn g /\ w.heap[g]?=some (.map es clock) /\ es.size=r.n /\ us=es.toList.flatMap bXj /\ ∀e,e∈es.toList -> bWl r.E e
def bWg(w:World)(r:bA)(us:List Value):Prop:=w.ownsRow 0 r.E r.z r.v r.n us∨bWm w r us
theorem bWg.row{w:World}{r:bA}{us:List Value}(h:bWg w r us)(hz:0<r.z):w.ownsRow 0 r.E r.z r.v r.n us:=h.resolve_right λh=>by have:=h.z0;omega
theorem bWg.row0{w:World}{r:bA}{us:List Value}(h:bWg w r us){g n c:Nat}(hv:r.v=.slice (some ⟨g,0,none⟩) n c):w.ownsRow 0 r.E r.z r.v r.n us:=h.resolve_right λh=>by
 obtain ⟨g',es,cl,e,-⟩:=h.is
 rw [hv] at e;cases e
theorem bWg.keep{w w1:World}{r:bA}{us:List Value}(h:bWg w r us)(hk:∀g,g∈aY r.v -> w1.heap[g]?=w.heap[g]?):bWg w1 r us:=by
 rcases h with ⟨h1,h2⟩|⟨h0,g,es,cl,h1,h2,h3⟩
 ·refine .inl ⟨h1,?_⟩
  rcases h2 with h2|⟨g,cap,cur,hv,hg,hh,r⟩
  ·exact .inl h2
  exact .inr ⟨g,cap,cur,hv,hg,by rw [hk g (by rw [hv];simp [aY,Value.ownBlock])];exact hh,r⟩
 exact .inr ⟨h0,g,es,cl,h1,by rw [hk g (by rw [h1];simp [aY,bWn,Value.ownBlock])];exact h2,h3⟩
structure Sto where
 boxes:List Box
 rows:List bA
def Sto.bl(s:Sto):List Nat:=s.boxes.map Box.b++s.rows.flatMap λr=>aY r.v
structure Mem (s:Sto) (w:World):Prop where
 nodup:s.bl.Nodup
 lt:∀b,b∈s.bl -> b<w.heap.size
 box:∀x,x∈s.boxes -> ∃us,(∃fz:Nat×Nat,(fz=(0,0)∨us.length <= fz.1) /\ w.heap[x.b]?=some (.cells us.toArray x.T fz)) /\ fG (bI s.bl w) x.cs us
 row:∀r,r∈s.rows -> ∃us,bWg w r us /\ fG (bI s.bl w) r.cs us
structure AS where
 n:Nat
 T:List Nat
 s:Sto
 ts:List (Nat×AT)
def look:List (Nat×AT) -> Nat -> Option AT
 |[],_=>none
 |(i,t)::r,j=>if i=j then some t else look r j
structure Sim (st:AS) (a:Act) (w:World):Prop where
 df:a.defers=[]
 sz:a.tmps.size=st.n
 tm:∀i t,look st.ts i=some t -> ∃v,a.tmps[i]?=some v /\ dO (bI st.s.bl w) t v
 mem:Mem st.s w
structure Ext (st:AS) (w:World) (st':AS) (w':World):Prop where
 keep:cW st.s.bl w w'
 keepT:cW st.T w w'
 bl:∀b,b∈st'.s.bl -> b∈st.s.bl∨w.heap.size <= b
 T:∀b,b∈st'.T -> b∈st.T∨w.heap.size <= b
theorem rY{T T1:List Nat}{w w1 w2:World}(h:cW T w w1)(k:cW T1 w1 w2)(hT:∀b,b∈T1 -> b∈T∨w.heap.size <= b):cW T w w2:=
 ⟨k.os.trans h.os,k.tape.trans h.tape,k.output.trans h.output,Nat.le_trans h.size k.size,λi hi hn=>(k.block i (Nat.lt_of_lt_of_le hi h.size) (λhm=>(hT i hm).elim hn (λh=>J))).trans (h.block i hi hn)⟩
theorem Ext.trans{s0 s1 s2:AS}{w0 w1 w2:World}(h:Ext s0 w0 s1 w1)(k:Ext s1 w1 s2 w2):Ext s0 w0 s2 w2:=
 ⟨rY h.keep k.keep h.bl,rY h.keepT k.keepT h.T,λb hb=>(k.bl b hb).elim (h.bl b) (λh1=>.inr (Nat.le_trans h.keep.size h1)),λb hb=>(k.T b hb).elim (h.T b) (λh1=>.inr (Nat.le_trans h.keep.size h1))⟩
theorem Ext.refl(st:AS)(w:World):Ext st w st w:=⟨cW.refl _ _,cW.refl _ _,λ_ h=>.inl h,λ_ h=>.inl h⟩
theorem bK3{bl:List Nat}{w:World}{g:Nat}{cs:Array Value}{t:TypeId}{fz:Nat×Nat}(h:(bI bl w).heap[g]?=some (.cells cs t fz))(h0:cs.size≠0):g∉bl /\ w.heap[g]?=some (.cells cs t fz):=by
 have hn:g∉bl:=λhm=>by
  have hlt:g<w.heap.size:=by
   have:=(Array.getElem?_eq_some_iff.1 h).1;rwa [tY] at this
  unfold bI at h
  rw [Array.getElem?_ofFn,dif_pos hlt] at h
  simp only [if_pos hm,Option.some.injEq,Obj.cells.injEq] at h
  exact h0 (by rw [←h.1];rfl)
 exact ⟨hn,by rw [aFp _ _ _ hn] at h;exact h⟩
theorem jA{T bl bl1:List Nat}{w w1:World}(hk:cW T w w1)(hT:∀b,b∈T -> b∈bl)(hb:∀b,b∈bl1 -> b∈bl∨w.heap.size <= b):Up2 (bI bl w) (bI bl1 w1):=by
 refine ⟨λa u h=>?_,λg cs t fz h h0=>?_⟩
 ·obtain ⟨h1,h2⟩:=gA h
  have hl:=gV h1
  rw [eW _ _ _ (λhm=>(hb _ hm).elim h2 (λh=>J)),hk.cell hl (λhm=>h2 (hT _ hm))];exact h1
 obtain ⟨h2,h1⟩:=bK3 h h0
 have hl:g<w.heap.size:=(Array.getElem?_eq_some_iff.1 h1).1
 rw [aFp _ _ _ (λhm=>(hb _ hm).elim h2 (λh=>J)),hk.block g hl (λhm=>h2 (hT _ hm))];exact h1
theorem bRm(bl:List Nat)(w:World):Up2 (bI bl w) w:=⟨λ_ _ h=>(gA h).1,λ_ _ _ _ h h0=>(bK3 h h0).2⟩
theorem up_sub{bl bl1:List Nat}{w:World}(hb:∀b,b∈bl1 -> b∈bl):Up2 (bI bl w) (bI bl1 w):=jA (T:=[]) (cW.refl _ _) Bu (λb h=>.inl (hb b h))
theorem mW{bl bl1:List Nat}{w w1:World}(h:w.heap.size <= w1.heap.size):(bI bl w).heap.size <= (bI bl1 w1).heap.size:=by rw [tY,tY];exact h
theorem dO.keep{T bl bl1:List Nat}{w w1:World}{t:AT}{v:Value}(h:dO (bI bl w) t v)(hk:cW T w w1)(hT:∀b,b∈T -> b∈bl)(hb:∀b,b∈bl1 -> b∈bl∨w.heap.size <= b):dO (bI bl1 w1) t v:=
 h.mono (jA hk hT hb) (mW hk.size)
theorem Sim.put{st:AS}{a:Act}{w:World}{d:Nat}{t:AT}{v:Value}(h:Sim st a w)(hd:d<st.n)(hr:dO (bI st.s.bl w) t v):Sim {st with ts:=(d,t)::st.ts} (a.put (some d) v) w:=by
 refine ⟨h.df,by simp [Act.put,h.sz],λi u hu=>?_,h.mem⟩
 simp only [look] at hu
 split at hu
 ·rename_i he;subst he;cases hu
  exact ⟨v,by simp [Act.put,h.sz,hd],hr⟩
 rename_i he
 obtain ⟨x,h1,h2⟩:=h.tm i u hu
 exact ⟨x,by simp only [Act.put];rw [Array.getElem?_setIfInBounds_ne he];exact h1,h2⟩
theorem dO.keepB{bl bl1:List Nat}{w w1:World}{t:AT}{v:Value}(h:dO (bI bl w) t v)(hk:cW bl w w1)(hb:∀b,b∈bl1 -> b∈bl∨w.heap.size <= b):dO (bI bl1 w1) t v:=h.keep hk (λ_ h=>h) hb
theorem Sim.step{st:AS}{a:Act}{w w1:World}{s1:Sto}(T1:List Nat)(h:Sim st a w)(hk:cW st.s.bl w w1)(hm:Mem s1 w1)(hb:∀b,b∈s1.bl -> b∈st.s.bl∨w.heap.size <= b):Sim {st with s:=s1,T:=T1} a w1:=
 ⟨h.df,h.sz,λi t ht=>let ⟨v,h1,h2⟩:=h.tm i t ht;⟨v,h1,h2.keepB hk hb⟩,hm⟩
theorem aCu(bl:List Nat)(w:World):Up2 (bI bl w) (bI bl w.drew):=jA (T:=[]) (cW.refl _ _).drew Bu (λb h=>.inl h)
theorem Mem.drew{s:Sto}{w:World}(h:Mem s w):Mem s w.drew:=
 ⟨h.nodup,h.lt,λx hx=>let ⟨us,h1,h2⟩:=h.box x hx;⟨us,h1,h2.mono (aCu _ _)⟩,λr hr=>let ⟨us,h1,h2⟩:=h.row r hr;⟨us,h1.keep λ_ _=>rfl,h2.mono (aCu _ _)⟩⟩
theorem Sim.drew{st:AS}{a:Act}{w:World}(h:Sim st a w):Sim st a w.drew:=⟨h.df,h.sz,λi t ht=>let ⟨v,h1,h2⟩:=h.tm i t ht;⟨v,h1,h2.mono (aCu _ _) (mW (Nat.le_refl _))⟩,h.mem.drew⟩
def cst:Value -> AT
 |.agg cs=>if cs.toList.all (·.oneCell') then .agg (cs.toList.map .val) else .raw (.agg cs)
 |.tuple vs=>.raw (.tuple vs)
 |v=>.c (.val v)
theorem aCw(w:World)(v:Value):dO w (cst v) v:=by
 cases v with
 |agg cs=>
  show dO w (if cs.toList.all (·.oneCell') then .agg (cs.toList.map .val) else .raw (.agg cs)) _
  split
  ·rename_i h;exact dO.agg _ cs.toList (gU w _ λu hu=>by simpa using List.all_eq_true.1 h u hu)
  ·exact .raw _
 |tuple vs=>exact .raw _
 |_=>exact dO.c _ _ (.val _ rfl)
def AT.bare:AT -> AT
 |.fact (.fact t _ _ _) _ _ _=>t
 |.fact t _ _ _=>t
 |.ride t _=>t
 |t=>t
theorem dO.bare{w:World}{t:AT}{v:Value}(h:dO w t v):dO w t.bare v:=by
 cases h with
 |fact t b o cs us v h _ _=>
  cases h with
  |fact t b o cs us v h _ _=>exact h
  |c x v h=>exact .c x v h
  |agg cs us h=>exact .agg cs us h
  |tup ts vs hl h=>exact .tup ts vs hl h
  |el cs b o us h hc hb=>exact .el cs b o us h hc hb
  |raw v=>exact .raw v
  |ride t p v h hp=>exact .ride t p v h hp
 |c x v h=>exact .c x v h
 |agg cs us h=>exact .agg cs us h
 |tup ts vs hl h=>exact .tup ts vs hl h
 |el cs b o us h hc hb=>exact .el cs b o us h hc hb
 |raw v=>exact .raw v
 |ride t p v h _=>exact h
def evA(st:AS):Operand -> Option AT
 |.tmp t=>(look st.ts t).map AT.bare
 |.const v=>some (cst v)
 |.global g=>some (.c (.val (.pointer (some ⟨g,0,none⟩))))
 |.func f=>some (.c (.val (.func (.func f) #[] #[])))
theorem Sim.ev{st:AS}{a:Act}{w:World}(h:Sim st a w){x:Operand}{t:AT}(hx:evA st x=some t):dO (bI st.s.bl w) t (a.eval x):=by
 cases x with
 |tmp i=>
  obtain ⟨t0,h0,rfl⟩:=Option.map_eq_some_iff.1 hx
  obtain ⟨v,h1,h2⟩:=h.tm i t0 h0
  show dO _ _ (a.tmps.getD i undef)
  rw [Array.getD_eq_getD_getElem?,h1];exact h2.bare
 |const v=>cases hx;exact aCw _ v
 |global g=>cases hx;exact dO.c _ _ (.val _ rfl)
 |func f=>cases hx;exact dO.c _ _ (.val _ rfl)
theorem Sim.val{st:AS}{a:Act}{w:World}(h:Sim st a w){x:Operand}{v:Value}(hx:evA st x=some (.c (.val v))):a.eval x=v:=by
 have:=h.ev hx
 generalize a.eval x=u at this
 cases this with|c _ _ h=>cases h;rfl
def aBh(want:Bool):Value -> Bool
 |.bool b=>b == want
 |_=>false
def fC(ops:Array Oper)(o:Oper)(st:AS):Option Bool:=
 match o.guard with
 |none=>some true
 |some (j,want)=>
  match (ops.toList[j]?).bind (·.dst) with
  |none=>none
  |some t=>match look st.ts t with
   |some (.c (.val v))=>some (aBh want v)
   |some (.raw v)=>some (aBh want v)
   |_=>none
theorem sL{ops:Array Oper}{o:Oper}{st:AS}{a:Act}{w:World}{b:Bool}(h:Sim st a w)(hw:fC ops o st=some b):Region.wanted o (yielded ops a.tmps)=b:=by
 unfold fC at hw
 unfold Region.wanted
 cases hg:o.guard with
 |none=>rw [hg] at hw;cases hw;rfl
 |some p=>
  obtain ⟨j,want⟩:=p
  rw [hg] at hw
  dsimp only at hw⊢
  cases hd:(ops.toList[j]?).bind (·.dst) with
  |none=>rw [hd] at hw;cases hw
  |some t=>
   rw [hd] at hw
   dsimp only at hw
   cases hl:look st.ts t with
   |none=>rw [hl] at hw;cases hw
   |some x=>
    have key:∀v,(∀u,dO (bI st.s.bl w) x u -> u=v) -> some (aBh want v)=some b -> ((yielded ops a.tmps j) == some want)=b:=by
     intro v hv hw
     injection hw with hw
     obtain ⟨u,h1,h2⟩:=h.tm t _ hl
     have hu:u=v:=hv u h2
     subst hu
     have hd':(ops[j]?).bind (·.dst)=some t:=by rw [←Array.getElem?_toList];exact hd
     rw [←hw]
     have hy:∀z:Option Value,a.tmps[t]?=z -> yielded ops a.tmps j=(match z with|some (.bool b)=>some b|_=>none):=by
      rintro _ rfl;unfold yielded;rw [hd'];rfl
     rw [hy _ h1]
     clear hy h2 hl hw h1 hv
     cases u<;>simp [aBh]
    cases x with
    |c y=>
     cases y with
     |val v=>
      rw [hl] at hw
      exact key v (λu hu=>by cases hu with|c _ _ h=>cases h;rfl) hw
     |sl _ _=>rw [hl] at hw;cases hw
    |raw v=>
     rw [hl] at hw
     exact key v (λu hu=>by cases hu;rfl) hw
    |_=>rw [hl] at hw;cases hw
section
variable {P:Program}
def AWp(P:Program)(c:Code)(st:AS)(Q:Exit -> AS -> Prop):Prop:=
 ∀a w,Sim st a w -> ∀QQ:Exit -> Act -> World -> Prop,(∀e a' w' st',Q e st' -> Sim st' a' w' -> Ext st w st' w' -> QQ e a' w') -> c.wp P QQ a w
def eQ(P:Program)(ops:Array Oper)(l:List Oper)(st:AS)(Q:Exit -> AS -> Prop):Prop:=
 ∀a w,Sim st a w -> ∀QQ:Exit -> Act -> World -> Prop,(∀e a' w' st',Q e st' -> Sim st' a' w' -> Ext st w st' w' -> QQ e a' w') -> wpList P ops QQ l a w
def AY(P:Program)(U:List Nat)(o:Oper)(st:AS)(t:AT):Prop:=
 ∀a w,Sim st a w -> (∀b,b∈U -> b∈st.s.bl) -> ∃v,dO (bI st.s.bl w) t v /\ ∀w',cW U w w' -> (execOp a.eval o).run P w'=.ok (.value v) w'
def AO(P:Program)(U:List Nat)(o:Oper)(st:AS)(K:AS -> Prop):Prop:=
 ∀a w,Sim st a w -> ∀(KK:Act -> World -> Prop)(QQ:Exit -> Act -> World -> Prop),(∀a' w' st',K st' -> Sim st' a' w' -> Ext st w st' w' -> cW U w w' -> KK a' w') -> o.wp P a w KK QQ
def sU(K:AS -> Prop)(Q:Exit -> AS -> Prop):Exit -> AS -> Prop
 |.normal,s=>K s
 |e,s=>Q e s
def InB(id:Nat)(Q:Exit -> AS -> Prop):Exit -> AS -> Prop
 |.exit id',s=>if id'=id then Q .normal s else Q (.exit id') s
 |e,s=>Q e s
theorem sE{c:Code}{st:AS}{Q Q':Exit -> AS -> Prop}(h:AWp P c st Q)(hq:∀e s,Q e s -> Q' e s):AWp P c st Q':=
 λa w hs QQ hQ=>h a w hs QQ λe a' w' st' q=>hQ e a' w' st' (hq _ _ q)
def Sub(st st':AS):Prop:=∀a w,Sim st a w -> Sim st' a w /\ (∀b,b∈st'.s.bl -> b∈st.s.bl) /\ ∀b,b∈st'.T -> b∈st.T
theorem Sub.ext{st st':AS}(h:Sub st st'){a:Act}{w:World}(hs:Sim st a w):Ext st w st' w:=⟨cW.refl _ _,cW.refl _ _,λb hb=>.inl ((h a w hs).2.1 b hb),λb hb=>.inl ((h a w hs).2.2 b hb)⟩
theorem Sub.refl(st:AS):Sub st st:=λa w h=>⟨h,λ_ h=>h,λ_ h=>h⟩
theorem Sub.trans{a b c:AS}(h:Sub a b)(k:Sub b c):Sub a c:=λx w hs=>⟨(k x w (h x w hs).1).1,λy hy=>(h x w hs).2.1 y ((k x w (h x w hs).1).2.1 y hy),λy hy=>(h x w hs).2.2 y ((k x w (h x w hs).1).2.2 y hy)⟩
theorem zU{c:Code}{st st':AS}{Q:Exit -> AS -> Prop}(hs:Sub st st')(h:AWp P c st' Q):AWp P c st Q:=
 λa w hS QQ hQ=>h a w (hs a w hS).1 QQ λe a' w' st2 q s2 k=>hQ e a' w' st2 q s2 ((hs.ext hS).trans k)
theorem uQ{ops:Array Oper}{l:List Oper}{st st':AS}{Q:Exit -> AS -> Prop}(hs:Sub st st')(h:eQ P ops l st' Q):eQ P ops l st Q:=
 λa w hS QQ hQ=>h a w (hs a w hS).1 QQ λe a' w' st2 q s2 k=>hQ e a' w' st2 q s2 ((hs.ext hS).trans k)
theorem aHp{x y:Code}{st:AS}{Q:Exit -> AS -> Prop}(h:AWp P x st (sU (λs=>AWp P y s Q) Q)):AWp P (.seq x y) st Q:=by
 intro a w hs QQ hQ
 refine wp_seq (h a w hs _ ?_)
 intro e a' w' st' q s' k
 cases e with
 |normal=>exact q a' w' s' QQ λe a2 w2 st2 q2 s2 k2=>hQ e a2 w2 st2 q2 s2 (k.trans k2)
 |_=>exact hQ _ a' w' st' q s' k
theorem gY{c:Operand}{x y:Code}{st:AS}{Q:Exit -> AS -> Prop}{b:Bool}(hc:evA st c=some (.c (.val (.bool b))))(ht:b=true -> AWp P x st Q)(hf:b=false -> AWp P y st Q):AWp P (.cond c x y) st Q:=by
 intro a w hs QQ hQ
 exact wp_cond_split (hs.val hc) (λh=>ht h a w hs QQ hQ) (λh=>hf h a w hs QQ hQ)
theorem aM4{id:Nat}{c:Code}{st:AS}{Q:Exit -> AS -> Prop}(h:AWp P c st (InB id Q)):AWp P (.block id c) st Q:=by
 intro a w hs QQ hQ
 refine wp_block (h a w hs _ ?_)
 intro e a' w' st' q s' k
 cases e with
 |exit id'=>
  simp only [InB] at q
  simp only [Exit.inBlock]
  split
  ·rename_i he;rw [if_pos he] at q;exact hQ _ a' w' st' q s' k
  ·rename_i he;rw [if_neg he] at q;exact hQ _ a' w' st' q s' k
 |_=>exact hQ _ a' w' st' q s' k
theorem aOa{id:Nat}{st:AS}{Q:Exit -> AS -> Prop}(h:Q (.exit id) st):AWp P (.exit id) st Q:=λa w hs QQ hQ=>wp_exit (hQ _ a w st h hs (Ext.refl _ _))
theorem aQo{st:AS}{Q:Exit -> AS -> Prop}(h:Q .ret st):AWp P .ret st Q:=λa w hs QQ hQ=>wp_ret (hQ _ a w st h hs (Ext.refl _ _))
theorem aO3{st:AS}{Q:Exit -> AS -> Prop}(h:Q .normal st):AWp P .skip st Q:=λa w hs QQ hQ=>wp_skip (hQ _ a w st h hs (Ext.refl _ _))
theorem fM{α:Type}(I:α -> AS)(p:α -> Prop)(μ:α -> Nat)(g0:α){c:Code}{st:AS}{Q:Exit -> AS -> Prop}(hs:Sub st (I g0))(hp:p g0)
  (round:∀g,p g -> AWp P c (I g) (sU (λs=>∃g',p g' /\ μ g'<μ g /\ Sub s (I g')) Q)):AWp P (.loop c) st Q:=by
 intro a w hS QQ hQ
 refine wp_loop_ghost (λn a' w'=>∃g,p g /\ μ g=n /\ Sim (I g) a' w' /\ Ext st w (I g) w') (μ g0) ⟨g0,hp,Y,(hs a w hS).1,hs.ext hS⟩ ?_
 rintro n a1 w1 ⟨g,hg,rfl,s1,k1⟩
 refine round g hg a1 w1 s1 _ ?_
 intro e a' w' st' q s' k
 cases e with
 |normal=>
  obtain ⟨g',hg',hlt,hsub⟩:=q
  exact ⟨_,hlt,g',hg',Y,(hsub a' w' s').1,(k1.trans k).trans (hsub.ext s')⟩
 |_=>exact hQ _ a' w' st' q s' (k1.trans k)
theorem aCg{id:Nat}{l:List Oper}{st:AS}{Q:Exit -> AS -> Prop}(h:eQ P l.toArray l st Q):AWp P (.region id l.toArray false) st Q:=
 λa w hs QQ hQ=>wp_region_lit (h a w hs QQ hQ)
theorem aD1{ops:Array Oper}{st:AS}{Q:Exit -> AS -> Prop}(h:Q .normal st):eQ P ops [] st Q:=λa w hs QQ hQ=>hQ _ a w st h hs (Ext.refl _ _)
theorem aQp{ops:Array Oper}{o:Oper}{l:List Oper}{st:AS}{Q:Exit -> AS -> Prop}{d:Nat}{t:AT}(hw:fC ops o st=some true)(hd:o.dst=some d)(hn:d<st.n)(hy:AY P [] o st t)
  (h:eQ P ops l {st with ts:=(d,t)::st.ts} Q):eQ P ops (o::l) st Q:=by
 intro a w hs QQ hQ
 obtain ⟨v,hr,hx⟩:=hy a w hs Bu
 refine wpList_step λK hK=>?_
 rw [if_pos (sL hs hw)]
 unfold Oper.wp
 rw [hx w (cW.refl _ _),Oper.upon_value,hd]
 exact hK _ _ (h _ _ (hs.put hn hr) QQ λe a' w' st' q s' k=>hQ e a' w' st' q s' ⟨k.keep,k.keepT,k.bl,k.T⟩)
theorem aJm{ops:Array Oper}{o:Oper}{l:List Oper}{st:AS}{Q:Exit -> AS -> Prop}{d:Nat}(hw:fC ops o st=some false)(hd:o.dst=some d)(hn:d<st.n)
  (h:eQ P ops l {st with ts:=(d,.raw undef)::st.ts} Q):eQ P ops (o::l) st Q:=by
 intro a w hs QQ hQ
 refine wpList_step λK hK=>?_
 rw [if_neg (by rw [sL hs hw];decide),hd]
 exact hK _ _ (h _ _ (hs.put hn (.raw _)) QQ λe a' w' st' q s' k=>hQ e a' w' st' q s' ⟨k.keep,k.keepT,k.bl,k.T⟩)
theorem aQ2{ops:Array Oper}{o:Oper}{l:List Oper}{st:AS}{Q:Exit -> AS -> Prop}(hw:fC ops o st=some true)(h:AO P st.T o st λs=>eQ P ops l s Q):eQ P ops (o::l) st Q:=by
 intro a w hs QQ hQ
 refine wpList_step λK hK=>?_
 rw [if_pos (sL hs hw)]
 refine h a w hs K QQ λa' w' st' q s' k _=>hK _ _ (q a' w' s' QQ λe a2 w2 st2 q2 s2 k2=>hQ e a2 w2 st2 q2 s2 (k.trans k2))
theorem rE{md:Region.Mode}{ops:Array Oper}{Q:Exit -> Act -> World -> Prop}{S S':World -> Prop}(hS:∀w,S' w -> S w):∀(fuel:Nat)(listed:Array Bool)(a:Act)(w:World),wpAnyH P md ops Q S' fuel listed a w -> wpAnyH P md ops Q S fuel listed a w
 |0,_,_,_,h=>h
 |fuel+1,_,_,_,h=>⟨h.1,λi hi=>wpOp_mono (λ_ _ h'=>⟨hS _ h'.1,rE hS fuel _ _ _ h'.2⟩) (h.2 i hi)⟩
def lM(s:Sto)(Z:List Nat):List Nat:=s.bl.filter λb=>!Z.contains b
theorem kH{s:Sto}{Z:List Nat}{b:Nat}:b∈lM s Z↔b∈s.bl /\ b∉Z:=by unfold lM;simp
theorem aPp{s:Sto}{Z:List Nat}:∀b,b∈lM s Z -> b∈s.bl:=λ_ h=>(kH.1 h).1
def lD(P:Program)(ops:Array Oper)(Z:List Nat)(fuel:Nat)(listed:Array Bool)(st:AS)(Q:AS -> Prop):Prop:=
 ∀a w,Sim st a w -> ∀QQ:Exit -> Act -> World -> Prop,(∀c a w,¬QQ (.panic c) a w) -> (∀a' w' st',Q st' -> Sim st' a' w' -> Ext st w st' w' -> QQ .normal a' w') ->
  wpAnyH P .any ops QQ (λw'=>cW (lM st.s Z) w w') fuel listed a w
theorem aB{id:Nat}{ops:Array Oper}{st:AS}{Q:Exit -> AS -> Prop}(Z:List Nat)(hm:P.follows .mixedOrders=true)(h:lD P ops Z ops.size (Array.replicate ops.size false) st (Q .normal)):AWp P (.region id ops true) st Q:=by
 intro a w hs QQ hQ
 refine Code.wp_mono (Q:=λe a' w'=>match e with|.normal=>QQ .normal a' w'|_=>False) EB ?_
 refine wp_region_held_drew (S:=λw'=>cW (lM st.s Z) w.drew w') hm (cW.refl _ _) λ_=>?_
 refine h a w.drew hs.drew _ (λ_ _ _ q=>q) λa' w' st' q s' k=>hQ _ a' w' st' q s' ⟨⟨k.keep.os,k.keep.tape,k.keep.output,k.keep.size,k.keep.block⟩,⟨k.keepT.os,k.keepT.tape,k.keepT.output,k.keepT.size,k.keepT.block⟩,k.bl,k.T⟩
theorem aE{ops:Array Oper}{Z:List Nat}{fuel:Nat}{listed:Array Bool}{st:AS}{Q:AS -> Prop}(hr:Region.ready .any ops listed=[])(h:Q st):lD P ops Z fuel listed st Q:=
 λa w hs QQ _ hQ=>wpAnyH_done hr (hQ a w st h hs (Ext.refl _ _)) _
theorem aD2(i:Nat){ops:Array Oper}{Z:List Nat}{fuel:Nat}{listed:Array Bool}{st:AS}{Q:AS -> Prop}{o:Oper}{d:Nat}{t:AT}(hr:(Region.ready .any ops listed).contains i=true)(hi:ops.toList[i]?=some o)(hf:Region.free .any ops listed i=true)(hsel:Region.noSelect ops=true)
  (hw:fC ops o st=some true) (hd:o.dst=some d) (hn:d<st.n) (hy:AY P (lM st.s Z) o st t) (h:lD P ops Z fuel (listed.setIfInBounds i true) {st with ts:=(d,t)::st.ts} Q):lD P ops Z (fuel+1) listed st Q:=by
 intro a w hs QQ hp hQ
 obtain ⟨v,hrep,hx⟩:=hy a w hs aPp
 refine wpAnyH_take (v:=v) Da hsel hf hr (λc a w q=>(hp _ _ _ q).elim) (Or.inl ⟨sL hs hw,hx⟩) (cW.refl _ _) ?_
 rw [hd]
 exact h _ _ (hs.put hn hrep) QQ hp λa' w' st' q s' k=>hQ a' w' st' q s' ⟨k.keep,k.keepT,k.bl,k.T⟩
theorem aM6(i:Nat){ops:Array Oper}{Z:List Nat}{fuel:Nat}{listed:Array Bool}{st:AS}{Q:AS -> Prop}{o:Oper}{d:Nat}(hr:(Region.ready .any ops listed).contains i=true)(hi:ops.toList[i]?=some o)(hf:Region.free .any ops listed i=true)(hsel:Region.noSelect ops=true)
  (hw:fC ops o st=some false) (hd:o.dst=some d) (hn:d<st.n) (h:lD P ops Z fuel (listed.setIfInBounds i true) {st with ts:=(d,.raw undef)::st.ts} Q):lD P ops Z (fuel+1) listed st Q:=by
 intro a w hs QQ hp hQ
 refine wpAnyH_take (v:=undef) Da hsel hf hr (λc a w q=>(hp _ _ _ q).elim) (Or.inr ⟨sL hs hw,Y⟩) (cW.refl _ _) ?_
 rw [hd]
 exact h _ _ (hs.put hn (.raw _)) QQ hp λa' w' st' q s' k=>hQ a' w' st' q s' ⟨k.keep,k.keepT,k.bl,k.T⟩
def aCk(P:Program)(ops:Array Oper)(Z:List Nat)(fuel:Nat)(listed:Array Bool)(st:AS)(Q:AS -> Prop)(rs:List Nat):Prop:=
 ∀a w,Sim st a w -> ∀QQ:Exit -> Act -> World -> Prop,(∀c a w,¬QQ (.panic c) a w) -> (∀a' w' st',Q st' -> Sim st' a' w' -> Ext st w st' w' -> QQ .normal a' w') ->
  AllReadyH P .any ops QQ (λw'=>cW (lM st.s Z) w w') fuel listed a w rs
theorem uU{rs:List Nat}{ops:Array Oper}{Z:List Nat}{fuel:Nat}{listed:Array Bool}{st:AS}{Q:AS -> Prop}(hr:Region.ready .any ops listed=rs)(hne:rs.isEmpty=false)(h:aCk P ops Z fuel listed st Q rs):lD P ops Z (fuel+1) listed st Q:=
 λa w hs QQ hp hQ=>wpAnyH_ready hr (by cases rs;cases hne;simp) (h a w hs QQ hp hQ)
theorem pO{ops:Array Oper}{Z:List Nat}{fuel:Nat}{listed:Array Bool}{st:AS}{Q:AS -> Prop}:aCk P ops Z fuel listed st Q []:=λa w hs QQ hp hQ=>AllReadyH.nil
theorem nJ{i:Nat}{rs:List Nat}{ops:Array Oper}{Z:List Nat}{fuel:Nat}{listed:Array Bool}{st:AS}{Q:AS -> Prop}{o:Oper}(hi:ops.toList[i]?=some o)(hw:fC ops o st=some true)
  (h:AO P (lM st.s Z) o st λs=>lD P ops Z fuel (listed.setIfInBounds i true) s Q) (hs2:aCk P ops Z fuel listed st Q rs):aCk P ops Z fuel listed st Q (i::rs):=by
 intro a w hs QQ hp hQ
 refine AllReadyH.cons Da (λK' hK=>?_) (hs2 a w hs QQ hp hQ)
 rw [if_pos (sL hs hw)]
 refine h a w hs K' QQ λa' w' st' q s' k hk=>?_
 refine hK.out a' w' hk λ_=>?_
 refine rE (S':=λw2=>cW (lM st'.s Z) w' w2) (λw2 h2=>rY hk h2 λb hb=>?_) _ _ _ _ ?_
 ·obtain ⟨h3,h4⟩:=kH.1 hb
  exact (k.bl b h3).imp (λh5=>kH.2 ⟨h5,h4⟩) id
 exact q a' w' s' QQ hp λa2 w2 st2 q2 s2 k2=>hQ a2 w2 st2 q2 s2 (k.trans k2)
def aL(P:Program)(F:FuncId)(args:List AT)(T:List Nat)(s:Sto)(Q:AT -> Sto -> Prop):Prop:=
 ∀(vs:List Value)(w:World),Mem s w -> (∀b,b∈T -> b∈s.bl) -> vs.length=args.length -> (∀i (h:i<args.length) (h':i<vs.length),dO (bI s.bl w) args[i] vs[i]) ->
  Calls P F vs.toArray w λen w'=>∃r v s',en=.returned v /\ Q r s' /\ dO (bI s'.bl w') r v /\ Mem s' w' /\ cW T w w' /\ ∀b,b∈s'.bl -> b∈s.bl∨w.heap.size <= b
theorem aL.mono{F:FuncId}{args:List AT}{T:List Nat}{s:Sto}{Q Q':AT -> Sto -> Prop}(h:aL P F args T s Q)(hq:∀r s,Q r s -> Q' r s):aL P F args T s Q':=
 λvs w hm hT hl hr=>(h vs w hm hT hl hr).mono λ_ _ ⟨r,v,s',h1,h2,h3⟩=>⟨r,v,s',h1,hq _ _ h2,h3⟩
theorem aE3{α β:Type}(f:α -> List β){l m:List α}(h:l.Sublist m):(l.flatMap f).Sublist (m.flatMap f):=by
 induction h with
 |slnil=>exact List.Sublist.slnil
 |cons a _ ih=>rw [List.flatMap_cons];exact ih.trans (List.sublist_append_right _ _)
 |cons_cons a _ ih=>rw [List.flatMap_cons,List.flatMap_cons];exact List.Sublist.append (List.Sublist.refl _) ih
def aAz(s s':Sto):Prop:=∀w,Mem s w -> Mem s' w /\ ∀b,b∈s'.bl -> b∈s.bl
theorem aAz.refl(s:Sto):aAz s s:=λ_ h=>⟨h,λ_ h=>h⟩
theorem aA{s s':Sto}(h1:s'.boxes.Sublist s.boxes)(h2:s'.rows.Sublist s.rows):aAz s s':=by
 intro w hm
 have hbl:s'.bl.Sublist s.bl:=List.Sublist.append (h1.map _) (aE3 _ h2)
 have hu:Up2 (bI s.bl w) (bI s'.bl w):=up_sub λb hb=>hbl.subset hb
 exact ⟨⟨hbl.nodup hm.nodup,λb hb=>hm.lt b (hbl.subset hb),λx hx=>let ⟨us,e,r⟩:=hm.box x (h1.subset hx);⟨us,e,r.mono hu⟩,λx hx=>let ⟨us,e,r⟩:=hm.row x (h2.subset hx);⟨us,e,r.mono hu⟩⟩,λb hb=>hbl.subset hb⟩
def aEt(P:Program)(fn:Func)(st:AS)(r:AT):Prop:=∀a w,Sim st a w -> ∃v,dO (bI st.s.bl w) r v /\ (results fn a.tmps).run P w=.ok v w
def aCr:Nat -> List AT -> List (Nat×AT)
 |_,[]=>[]
 |k,t::ts=>(k,t)::aCr (k+1) ts
theorem aBs:∀(ts:List AT)(k i:Nat)(t:AT),look (aCr k ts) i=some t -> k <= i /\ ts[i-k]?=some t
 |[],_,_,_,h=>DV
 |u::ts,k,i,t,h=>by
  simp only [aCr,look] at h
  split at h
  ·rename_i he;subst he;cases h;simp
  obtain ⟨h1,h2⟩:=aBs ts (k+1) i t h
  refine ⟨J,?_⟩
  obtain ⟨j,rfl⟩:∃j,i=k+1+j:=⟨i-(k+1),J⟩
  have e1:k+1+j-k=j+1:=J
  have e2:k+1+j-(k+1)=j:=J
  rw [e1];rw [e2] at h2;simpa using h2
theorem aD{F:FuncId}{fn:Func}{c:Code}{args:List AT}{T:List Nat}{s:Sto}{Q:AT -> Sto -> Prop}(hf:P.funcs[F]?=some fn)(hb:fn.body=some c)(hl:args.length <= fn.ntmps)
  (h:AWp P c ⟨fn.ntmps,T,s,aCr 0 args⟩ λe st=>(e=.normal∨e=.ret) /\ ∃r s',aEt P fn st r /\ aAz st.s s' /\ Q r s'):aL P F args T s Q:=by
 intro vs w hm hT hvl hr
 refine calls_of_wp hf hb ?_
 refine h _ w ⟨Y,?_,λi t ht=>?_,hm⟩ _ ?_
 ·simp;omega
 ·obtain ⟨-,h2⟩:=aBs args 0 i t ht
  simp only [Nat.sub_zero] at h2
  obtain ⟨hi,rfl⟩:=List.getElem?_eq_some_iff.1 h2
  have hi':i<vs.length:=J
  refine ⟨vs[i],?_,hr i hi hi'⟩
  rw [Array.getElem?_append_left (by simpa using hi')]
  simp [hi']
 intro e a' w' st' q s' k
 obtain ⟨he,r,s2,hres,hsub,hq⟩:=q
 obtain ⟨v,h1,h2⟩:=hres a' w' s'
 obtain ⟨hm2,hbl⟩:=hsub w' s'.mem
 rcases he with rfl|rfl
 rotate_left
 all_goals
  exact ⟨s'.df,v,h2,⟨r,v,s2,Y,hq,h1.mono (up_sub hbl) (mW (Nat.le_refl _)),hm2,k.keepT,λb hb=>k.bl b (hbl b hb)⟩⟩
end
end
section
open Go.RowKit
def aC9(op:BinOp)(k:IntKind)(m n:Int):Option Int:=match op with|.add=>some (k.wrap (m+n))|.sub=>some (k.wrap (m-n))|.mul=>some (k.wrap (m*n))|_=>none
def bC(op:BinOp)(m n:Int):Option Bool:=match op with|.eql=>some (m == n)|.neq=>some (m != n)|.lss=>some (decide (m<n))|.leq=>some (decide (m <= n))|.gtr=>some (decide (n<m))|.geq=>some (decide (n <= m))|_=>none
def aTx(op:BinOp)(k:IntKind)(m n:Int):Option Int:=match op with|.quo=>some (k.wrap (m.tdiv n))|.rem=>some (m.tmod n)|_=>none
def oM(op:BinOp)(m n:ByteArray):Option Bool:=match op with|.eql=>some (decide (m=n))|.neq=>some (!decide (m=n))|_=>none
def aEb(op:BinOp)(m n:Bool):Option Bool:=match op with|.eql=>some (m == n)|.neq=>some (m != n)|_=>none
section
variable {P:Program}{U:List Nat}{o:Oper}{st:AS}
theorem dO.val{w:World}{x v:Value}(h:dO w (.c (.val x)) v):v=x:=by cases h with|c _ _ h=>cases h;rfl
theorem lW{x:Operand}{t:AT}(ho:o.op=.move x)(hx:evA st x=some t):AY P U o st t:=by
 intro a w hs _
 exact ⟨a.eval x,hs.ev hx,λw' _=>by simp only [execOp,ho];rfl⟩
theorem aCd{x:Operand}{t:AT}(ho:o.op=.assign x)(hx:evA st x=some t):AY P U o st t:=by
 intro a w hs _
 exact ⟨a.eval x,hs.ev hx,λw' _=>by simp only [execOp,ho];rfl⟩
theorem aIk{c x y:Operand}{b:Bool}{t:AT}(ho:o.op=.pick c x y)(hc:evA st c=some (.c (.val (.bool b))))(hx:evA st (if b then x else y)=some t):AY P U o st t:=by
 intro a w hs _
 refine ⟨a.eval (if b then x else y),hs.ev hx,λw' _=>?_⟩
 simp only [execOp,ho,hs.val hc]
 cases b<;>simp [go_sem]
theorem fW{v:Value}(h1:v.oneCell'=true)(h:∀a w,Sim st a w -> ∀w',(execOp a.eval o).run P w'=.ok (.value v) w'):AY P U o st (.c (.val v)):=
 λa w hs _=>⟨v,.c _ _ (.val _ h1),λw' _=>h a w hs w'⟩
theorem vK{op:BinOp}{k:IntKind}{t yt:TypeId}{x y:Operand}{m n r:Int}(ho:o.op=.binOp op t x y yt)(hx:evA st x=some (.c (.val (.int k m))))(hy:evA st y=some (.c (.val (.int k n))))
  (hr:aC9 op k m n=some r):AY P U o st (.c (.val (.int k r))):=
 fW rfl λa w hs w'=>by
  simp only [execOp,ho,hs.val hx,hs.val hy]
  cases op<;>simp_all [go_sem,eqGuard,binOp,Op.intArith,aC9]
theorem bO{op:BinOp}{k:IntKind}{t yt:TypeId}{x y:Operand}{m n:Int}(r:Bool)(ho:o.op=.binOp op t x y yt)(hx:evA st x=some (.c (.val (.int k m))))(hy:evA st y=some (.c (.val (.int k n))))
  (hr:bC op m n=some r):AY P U o st (.c (.val (.bool r))):=
 fW rfl λa w hs w'=>by
  simp only [execOp,ho,hs.val hx,hs.val hy]
  cases op<;>simp_all [go_sem,eqGuard,binOp,Op.intCmp,bC]
theorem aG3{op:BinOp}{k:IntKind}{t yt:TypeId}{x y:Operand}{m n r:Int}(ho:o.op=.binOp op t x y yt)(hx:evA st x=some (.c (.val (.int k m))))(hy:evA st y=some (.c (.val (.int k n))))(hn:n≠0)
  (hr:aTx op k m n=some r):AY P U o st (.c (.val (.int k r))):=
 fW rfl λa w hs w'=>by
  simp only [execOp,ho,hs.val hx,hs.val hy]
  cases op<;>simp_all [go_sem,eqGuard,binOp,Op.intDiv,aTx]
theorem aZ{op:BinOp}{t yt:TypeId}{x y:Operand}{m n:ByteArray}(r:Bool)(ho:o.op=.binOp op t x y yt)(hx:evA st x=some (.c (.val (.string m))))(hy:evA st y=some (.c (.val (.string n))))
  (hr:oM op m n=some r):AY P U o st (.c (.val (.bool r))):=
 fW rfl λa w hs w'=>by
  have e:(m.toList == n.toList)=decide (m=n):=by
   by_cases h:m=n
   ·rw [zZ h,decide_eq_true h]
   rw [xB h,decide_eq_false h]
  simp only [execOp,ho,hs.val hx,hs.val hy]
  cases op<;>simp_all [go_sem,eqGuard,binOp,Op.stringOp,oM]
theorem aHr{t yt:TypeId}{x y:Operand}{m n:ByteArray}(ho:o.op=.binOp .add t x y yt)(hx:evA st x=some (.c (.val (.string m))))(hy:evA st y=some (.c (.val (.string n))))(hl:m.size+n.size <= 9223372036854775807):AY P U o st (.c (.val (.string (m++n)))):=
 fW rfl λa w hs w'=>by
  have h:¬(((m.size+n.size:Nat):Int)>IntKind.i64.max):=by rw [show IntKind.i64.max=9223372036854775807 from by decide];omega
  simp only [execOp,ho,hs.val hx,hs.val hy]
  simp [go_sem,eqGuard,binOp,Op.stringOp]
  omega
theorem run_equal_bool(d:Nat){t:TypeId}(m n:Bool)(w:World)(hu:∀w,(underlying t).run P w=.ok .bool w):(Op.equalIn (d+1) t (.bool m) (.bool n)).run P w=.ok (m == n) w:=by
 simp [Op.equalIn,go_sem,hu]
theorem aJ8{op:BinOp}{t yt:TypeId}{x y:Operand}{m n:Bool}(r:Bool)(ho:o.op=.binOp op t x y yt)(hx:evA st x=some (.c (.val (.bool m))))(hy:evA st y=some (.c (.val (.bool n))))
  (hu:∀w,(underlying t).run P w=.ok .bool w) (hr:aEb op m n=some r):AY P U o st (.c (.val (.bool r))):=
 fW rfl λa w hs w'=>by
  have e2:(Op.equal t (.bool m) (.bool n)).run P w'=.ok (m == n) w':=run_equal_bool _ m n w' hu
  generalize hg:Op.equal t (.bool m) (.bool n)=E at e2
  simp only [execOp,ho,hs.val hx,hs.val hy]
  cases op<;>simp_all [go_sem,eqGuard,binOp,bne,aEb]
theorem lF{t:TypeId}{x:Operand}{m:Bool}(ho:o.op=.unOp .not t x)(hx:evA st x=some (.c (.val (.bool m)))):AY P U o st (.c (.val (.bool (!m)))):=
 fW rfl λa w hs w'=>by
  simp only [execOp,ho,hs.val hx]
  simp [go_sem,Op.unary]
theorem bG9{t:TypeId}{x:Operand}{k:IntKind}{m:Int}(ho:o.op=.unOp .neg t x)(hx:evA st x=some (.c (.val (.int k m)))):AY P U o st (.c (.val (.int k (k.wrap (0-m))))):=
 fW rfl λa w hs w'=>by
  simp only [execOp,ho,hs.val hx]
  simp [go_sem,Op.unary,Op.intArith]
theorem aEd{x:Operand}{b off:Nat}(ho:o.op=.nilCheck x)(hx:evA st x=some (.c (.val (.pointer (some ⟨b,off,none⟩))))):AY P U o st (.c (.val (.pointer (some ⟨b,off,none⟩)))):=
 fW rfl λa w hs w'=>by
  simp only [execOp,ho,hs.val hx]
  rfl
theorem yM{x:Operand}{cs:List AC}(ho:o.op=.nilCheck x)(hx:evA st x=some (.el cs)):AY P U o st (.el cs):=by
 intro a w hs _
 have h:=hs.ev hx
 generalize he:a.eval x=u at h
 refine ⟨u,h,λw' _=>?_⟩
 cases h with
 |el _ b of us h1 h2 h3=>
  simp only [execOp,ho,he]
  rfl
theorem aHt{x:Operand}{t:TypeId}{s:ByteArray}(ho:o.op=.call {callee:=.builtin .len,args:=#[x],argTypes:=#[t]})(hx:evA st x=some (.c (.val (.string s))))(hu:∀w,(underlying t).run P w=.ok .string w):AY P U o st (.c (.val (.int .i64 s.size))):=
 fW rfl λa w hs w'=>by
  simp only [execOp,ho,resolve,List.map_toArray,List.map_cons,List.map_nil,hs.val hx]
  simp [go_sem,invoke,builtin,Builtin.len_,hu,goInt]
theorem aHy{x:Operand}{t e:TypeId}{p:Option Addr}{n m:Nat}(ho:o.op=.call {callee:=.builtin .len,args:=#[x],argTypes:=#[t]})(hx:evA st x=some (.c (.val (.slice p n m))))(hu:∀w,(underlying t).run P w=.ok (.slice e) w):AY P U o st (.c (.val (.int .i64 n))):=
 fW rfl λa w hs w'=>by
  simp only [execOp,ho,resolve,List.map_toArray,List.map_cons,List.map_nil,hs.val hx]
  simp [go_sem,invoke,builtin,Builtin.len_,hu,goInt]
theorem aJl{x:Operand}{t e:TypeId}{n:Nat}{cs:List AC}(ho:o.op=.call {callee:=.builtin .len,args:=#[x],argTypes:=#[t]})(hx:evA st x=some (.c (.sl n cs)))(hu:∀w,(underlying t).run P w=.ok (.slice e) w):AY P U o st (.c (.val (.int .i64 n))):=
 fW rfl λa w hs w'=>by
  have h:=hs.ev hx
  generalize he:a.eval x=u at h
  cases h with
  |c _ _ h=>cases h with
   |sl n cs us v hr hl hh=>
    obtain ⟨p,cap,rfl,-⟩:=hr
    simp only [execOp,ho,resolve,List.map_toArray,List.map_cons,List.map_nil,he]
    simp [go_sem,invoke,builtin,Builtin.len_,hu,goInt]
end
end
section
open Go.RowKit
section
variable {P:Program}{U:List Nat}{o:Oper}{st:AS}
def pk(ag:Bool)(z:Nat)(cs:List AC)(off:Nat):Option AT:=
 if ag then (if off+z <= cs.length then some (.agg ((cs.drop off).take z)) else none) else (cs[off]?).map .c
theorem oU(b o k:Nat):(⟨b,o,none⟩:Addr).add k=⟨b,o+k,none⟩:=Cl
theorem run_loadCells{w:World}{b o:Nat}{us:List Value}(hc:∀j u,us[j]?=some u -> w.cell? ⟨b,o+j,none⟩=some u):∀(n i:Nat)(acc:Array Value),i+n <= us.length -> (loadCellsFrom ⟨b,o,none⟩ i n acc).run P w=.ok (acc++((us.drop i).take n).toArray) w
 |0,i,acc,_=>by simp [loadCellsFrom,go_sem]
 |n+1,i,acc,h=>by
  have hi:i<us.length:=J
  have h1:=hc i us[i] (by simp [hi])
  have ih:=run_loadCells hc n (i+1) (acc.push us[i]) J
  rw [loadCellsFrom]
  have e:(load ((⟨b,o,none⟩:Addr).add i)).run P w=.ok us[i] w:=by
   rw [oU];simp only [load,Sem.run,h1]
  rw [Sem.run_bind,e,Result.andThen_ok,ih]
  congr 1
  rw [List.drop_eq_getElem_cons hi,List.take_succ_cons]
  simp
theorem pR{w:World}{bl:List Nat}{t:TypeId}{ag:Bool}{z b o off:Nat}{cs:List AC}{us:List Value}{r:AT}(hA:∀w,(isAgg t).run P w=.ok ag w)(hS:∀w,(sizeOf t).run P w=.ok z w)(hr:fG (bI bl w) cs us)(hp:pk ag z cs off=some r):
  ∃v,dO (bI bl w) r v /\ ∀w',(∀j u,us[j]?=some u -> w'.cell? ⟨b,o+j,none⟩=some u) -> (loadVar t ⟨b,o+off,none⟩).run P w'=.ok v w':=by
 unfold pk at hp
 cases ag with
 |true=>
  simp only [if_true] at hp
  split at hp
  ·rename_i hl
   cases hp
   refine ⟨_,.agg _ _ ((hr.drop off).take z),λw' hc=>?_⟩
   have h2:=run_loadCells (P:=P) (w:=w') (b:=b) (o:=o+off) (us:=us.drop off) (λj u hj=>by rw [List.getElem?_drop] at hj;rw [Nat.add_assoc];exact hc _ _ hj) z 0 #[] (by simp [hr.len];omega)
   simp only [loadVar,Sem.run_bind,hA,Result.andThen_ok,if_true,hS,loadCells,h2]
   simp [go_sem]
  ·cases hp
 |false=>
  simp only [Bool.false_eq_true,if_false,Option.map_eq_some_iff] at hp
  obtain ⟨x,hx,rfl⟩:=hp
  obtain ⟨u,hu,hrep⟩:=hr.get hx
  refine ⟨u,.c _ _ hrep,λw' hc=>?_⟩
  have h1:=hc off u hu
  simp only [loadVar,Sem.run_bind,hA,Result.andThen_ok,Bool.false_eq_true,if_false,load,Sem.run,h1]
theorem iP{t:TypeId}{x:Operand}{cs:List AC}{ag:Bool}{z:Nat}{r:AT}(ho:o.op=.load t x)(hx:evA st x=some (.el cs))(hA:∀w,(isAgg t).run P w=.ok ag w)(hS:∀w,(sizeOf t).run P w=.ok z w)(hp:pk ag z cs 0=some r):AY P U o st r:=by
 intro a w hs hU
 have h:=hs.ev hx
 generalize he:a.eval x=u at h
 cases h with
 |el _ b of us h1 h2 h3=>
  obtain ⟨v,hv,hl⟩:=pR (P:=P) (b:=b) (o:=of) hA hS h1 hp
  refine ⟨v,hv,λw' hk=>?_⟩
  have hl2:=hl w' (λj u hj=>by
   obtain ⟨h4,h5⟩:=gA (h2 j u hj)
   rw [hk.cell (gV h4) (λhm=>h5 (hU _ hm))];exact h4)
  simp only [execOp,ho,he,Instr.loadAt,Instr.sureAddr,Sem.run_bind,Sem.run_pure,Result.andThen_ok,Nat.add_zero] at hl2⊢
  rw [hl2];rfl
theorem aX{t:TypeId}{x:Operand}{b off:Nat}{T:TypeId}{cs:List AC}{ag:Bool}{z:Nat}{r:AT}(A:List Box){B:List Box}(hA:∀w,(isAgg t).run P w=.ok ag w)(hS:∀w,(sizeOf t).run P w=.ok z w)(ho:o.op=.load t x:=by exact rfl)(hx:evA st x=some (.c (.val (.pointer (some ⟨b,off,none⟩)))):=by exact rfl)(hb:st.s.boxes=A++⟨b,T,cs⟩::B:=by exact rfl)(hp:pk ag z cs off=some r:=by exact rfl)(hU:st.s.bl.Nodup -> b∉U:=by exact λ_ h=>DV):AY P U o st r:=by
 intro a w hs hU2
 have hmem:(⟨b,T,cs⟩:Box)∈st.s.boxes:=DO
 obtain ⟨us,⟨fz,-,h1⟩,h2⟩:=hs.mem.box _ hmem
 obtain ⟨v,hv,hl⟩:=pR (P:=P) (b:=b) (o:=0) hA hS h2 hp
 refine ⟨v,hv,λw' hk=>?_⟩
 have hlt:b<w.heap.size:=hs.mem.lt b (List.mem_append_left _ (List.mem_map.2 ⟨_,hmem,Y⟩))
 have hh:=hk.block b hlt (hU hs.mem.nodup)
 have hl2:=hl w' (λj u hj=>by
  unfold World.cell?
  simp only [hh,h1]
  simpa using hj)
 simp only [Nat.zero_add] at hl2
 simp only [execOp,ho,hs.val hx,Instr.loadAt,Instr.sureAddr,Sem.run_bind,Sem.run_pure,Result.andThen_ok]
 rw [hl2];rfl
def fld(fs:Array Field)(f:Nat):Option (Nat×TypeId):=(fs[f]?).map λx=>(x.offset,x.type)
theorem wU{t ft:TypeId}{fs:Array Field}{f off z b p:Nat}{w:World}(hu:∀w,(underlying t).run P w=.ok (.struct fs) w)(hf:fld fs f=some (off,ft))(hS:∀w,(sizeOf ft).run P w=.ok z w)(hz:z≠0):
  (Instr.fieldAt t (.pointer (some ⟨b,p,none⟩)) f).run P w=.ok (.pointer (some ⟨b,p+off,none⟩)) w:=by
 unfold fld at hf
 cases hx:fs[f]? with
 |none=>rw [hx] at hf;cases hf
 |some x=>
  rw [hx] at hf
  simp only [Option.map_some,Option.some.injEq,Prod.mk.injEq] at hf
  obtain ⟨rfl,rfl⟩:=hf
  simp only [Instr.fieldAt,Sem.run_bind,hu,Result.andThen_ok,hx,Instr.sureAddr,Sem.run_pure,fieldPlace,hS,if_neg hz,oU]
theorem uX(off q:Nat){t ft:TypeId}{x:Operand}{fs:Array Field}{f z b p:Nat}(hu:∀w,(underlying t).run P w=.ok (.struct fs) w)(hS:∀w,(sizeOf ft).run P w=.ok z w)(ho:o.op=.fieldAddr t x f:=by exact rfl)(hx:evA st x=some (.c (.val (.pointer (some ⟨b,p,none⟩)))):=by exact rfl)(hf:fld fs f=some (off,ft):=by exact rfl)(hz:z≠0:=by decide)(hq:p+off=q:=by exact rfl):AY P U o st (.c (.val (.pointer (some ⟨b,q,none⟩)))):=
 fW rfl λa w hs w'=>by
  subst hq
  simp only [execOp,ho,hs.val hx,Sem.run_bind,wU hu hf hS hz];rfl
theorem dO.el_drop{w:World}{cs:List AC}{b p:Nat}(k:Nat)(h:dO w (.el cs) (.pointer (some ⟨b,p,none⟩))):dO w (.el (cs.drop k)) (.pointer (some ⟨b,p+k,none⟩)):=by
 cases h with
 |el _ _ _ us h1 h2 h3=>exact .el _ b (p+k) (us.drop k) (h1.drop k) (λj u hj=>by rw [List.getElem?_drop] at hj;rw [Nat.add_assoc];exact h2 _ _ hj) h3
theorem xW(off:Nat){t ft:TypeId}{x:Operand}{fs:Array Field}{f z:Nat}{cs:List AC}(ho:o.op=.fieldAddr t x f)(hx:evA st x=some (.el cs))(hu:∀w,(underlying t).run P w=.ok (.struct fs) w)(hf:fld fs f=some (off,ft))(hS:∀w,(sizeOf ft).run P w=.ok z w)(hz:z≠0):AY P U o st (.el (cs.drop off)):=by
 intro a w hs _
 have h:=hs.ev hx
 generalize he:a.eval x=u at h
 have h9:=h
 cases h with
 |el _ b of us h1 h2 h3=>
  refine ⟨_,h9.el_drop off,λw' _=>?_⟩
  simp only [execOp,ho,he,Sem.run_bind,wU hu hf hS hz];rfl
theorem aNn(off:Nat){t ft:TypeId}{x:Operand}{fs:Array Field}{f z:Nat}{cs:List AC}{ag:Bool}{r:AT}(ho:o.op=.field t x f)(hx:evA st x=some (.agg cs))(hu:∀w,(underlying t).run P w=.ok (.struct fs) w)(hf:fld fs f=some (off,ft))(hA:∀w,(isAgg ft).run P w=.ok ag w)(hS:∀w,(sizeOf ft).run P w=.ok z w)(hp:pk ag z cs off=some r):AY P U o st r:=by
 intro a w hs _
 have h:=hs.ev hx
 generalize he:a.eval x=u at h
 cases h with
 |agg _ us h1=>
  unfold fld at hf
  cases hxx:fs[f]? with
  |none=>rw [hxx] at hf;cases hf
  |some y=>
   rw [hxx] at hf
   simp only [Option.map_some,Option.some.injEq,Prod.mk.injEq] at hf
   obtain ⟨rfl,rfl⟩:=hf
   unfold pk at hp
   cases ag with
   |true=>
    simp only [if_true] at hp
    split at hp
    ·cases hp
     refine ⟨_,.agg _ _ ((h1.drop _).take z),λw' _=>?_⟩
     simp only [execOp,ho,he,Instr.field,Sem.run_bind,hu,Result.andThen_ok,hxx,asAgg,Sem.run_pure,part,hA,if_true,hS]
     simp [List.extract_eq_take_drop]
    ·cases hp
   |false=>
    simp only [Bool.false_eq_true,if_false,Option.map_eq_some_iff] at hp
    obtain ⟨c,hc,rfl⟩:=hp
    obtain ⟨v,hv,hrep⟩:=h1.get hc
    refine ⟨v,.c _ _ hrep,λw' _=>?_⟩
    simp only [execOp,ho,he,Instr.field,Sem.run_bind,hu,Result.andThen_ok,hxx,asAgg,Sem.run_pure,part,hA,Bool.false_eq_true,if_false]
    simp [hv,go_sem]
theorem wX{t e:TypeId}{x y:Operand}{n z:Nat}{cs:List AC}{k:IntKind}{i:Int}(j:Nat)(ho:o.op=.indexAddr t x y)(hx:evA st x=some (.c (.sl n cs)))(hy:evA st y=some (.c (.val (.int k i))))(hi:i=j)(hj:j<n)(hne:j*z<cs.length)
  (hu:∀w,(underlying t).run P w=.ok (.slice e) w) (hS:∀w,(sizeOf e).run P w=.ok z w):AY P U o st (.el (cs.drop (j*z))):=by
 intro a w hs _
 subst hi
 have h:=hs.ev hx
 generalize he:a.eval x=u at h
 cases h with
 |c _ _ h=>cases h with
  |sl n cs us v hr hl hh=>
   obtain ⟨p,cap,rfl,hcap,hr⟩:=hr
   rcases hr with rfl|⟨b,of,rfl,hc⟩
   ·simp at hl;omega
   have hel:dO (bI st.s.bl w) (.el cs) (.pointer (some ⟨b,of,none⟩)):=by
    have h0:0<us.length:=J
    exact .el _ b of us ⟨hl,hh⟩ hc (gV (hc 0 us[0] (by simp [h0])))
   refine ⟨_,hel.el_drop (j*z),λw' _=>?_⟩
   simp only [execOp,ho,he,hs.val hy,Instr.indexAt,asIntOf,Sem.run_bind,Sem.run_pure,Result.andThen_ok,hu]
   simp [go_sem,hS,hj,oU]
theorem dH{t e:TypeId}{x y:Operand}{n cap z b p:Nat}{k:IntKind}{i:Int}(j:Nat)(ho:o.op=.indexAddr t x y)(hx:evA st x=some (.c (.val (.slice (some ⟨b,p,none⟩) n cap))))(hy:evA st y=some (.c (.val (.int k i))))(hi:i=j)(hj:j<n)
  (hu:∀w,(underlying t).run P w=.ok (.slice e) w) (hS:∀w,(sizeOf e).run P w=.ok z w):AY P U o st (.c (.val (.pointer (some ⟨b,p+j*z,none⟩)))):=
 fW rfl λa w hs w'=>by
  subst hi
  simp only [execOp,ho,hs.val hx,hs.val hy,Instr.indexAt,asIntOf,Sem.run_bind,Sem.run_pure,Result.andThen_ok,hu]
  simp [go_sem,hS,hj,oU]
theorem aHc{x:Operand}{k:Nat}{ts:List AT}{t:AT}(ho:o.op=.extract x k)(hx:evA st x=some (.tup ts))(ht:ts[k]?=some t):AY P U o st t:=by
 intro a w hs _
 have h:=hs.ev hx
 generalize he:a.eval x=u at h
 cases h with
 |tup _ vs hl hr=>
  obtain ⟨hk,rfl⟩:=List.getElem?_eq_some_iff.1 ht
  have hk2:k<vs.length:=J
  refine ⟨vs[k],hr k hk hk2,λw' _=>?_⟩
  simp only [execOp,ho,he,Instr.extract]
  simp [hk2,go_sem]
theorem xR{F:FuncId}{cap:Array Operand}{vs:List Value}(ho:o.op=.makeFunc (.func F) #[] cap)(hc:cap.toList.map (evA st)=vs.map λv=>some (.c (.val v))):AY P U o st (.c (.val (.func (.func F) #[] vs.toArray))):=
 fW rfl λa w hs w'=>by
  have e:cap.map a.eval=vs.toArray:=by
   rw [←Array.toList_inj,Array.toList_map]
   have:∀(l:List Operand)(vs:List Value),l.map (evA st)=vs.map (λv=>some (.c (.val v))) -> l.map a.eval=vs:=by
    intro l
    induction l with
    |nil=>intro vs h;cases vs with|nil=>rfl|cons=>cases h
    |cons x l ih=>
     intro vs h
     cases vs with
     |nil=>cases h
     |cons v vs=>
      simp only [List.map_cons,List.cons.injEq] at h⊢
      exact ⟨hs.val h.1,ih vs h.2⟩
   exact this _ _ hc
  simp only [execOp,ho,Instr.makeFunc,e]
  simp [go_sem]
end
end
end Go.Proofs.YtjgeihmhppadaaaGreatDoor
