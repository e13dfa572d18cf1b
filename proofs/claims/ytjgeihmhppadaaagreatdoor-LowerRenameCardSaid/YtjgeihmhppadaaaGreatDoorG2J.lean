import Derived.Test.YtjgeihmhppadaaaGreatDoorG1J
import Derived.Great.BuildSlice
set_option linter.all false
namespace Go.Proofs.YtjgeihmhppadaaaGreatDoor
section
open Go.RowKit
section
variable {P:Program}{U:List Nat}{o:Oper}{st:AS}{K:AS -> Prop}
def jL:AT -> Option (List AC)
 |.c x=>some [x]
 |.agg cs=>some cs
 |_=>none
theorem mU{w:World}{t:AT}{cs:List AC}{v:Value}(h:jL t=some cs)(hr:dO w t v):fG w cs v.cells.toList:=by
 cases hr with
 |c x v hx=>
  cases h
  have:v.cells=#[v]:=by have:=hx.one;cases v<;>first|rfl|cases this
  rw [this];exact .cons hx (.nil _)
 |agg cs' us h1=>cases h;simpa [Value.cells] using h1
 |_=>cases h
theorem aKg(b:Nat)(bl:List Nat)(w:World)(o:Obj)(hb:b=w.heap.size):Up2 (bI bl w) (bI (b::bl) (w.alloc o)):=
 jA (T:=[]) ((cW.refl _ _).alloc o) Bu (λx hx=>by rcases List.mem_cons.1 hx with rfl|hx;exact .inr J;exact .inl hx)
theorem Mem.up{s:Sto}{w w1:World}{bl1:List Nat}(h:Mem s w)(hu:Up2 (bI s.bl w) (bI bl1 w1))(hk:∀b,b∈s.bl -> w1.heap[b]?=w.heap[b]?):
  (∀x,x∈s.boxes -> ∃us,(∃fz:Nat×Nat,(fz=(0,0)∨us.length <= fz.1) /\ w1.heap[x.b]?=some (.cells us.toArray x.T fz)) /\ fG (bI bl1 w1) x.cs us) /\ (∀r,r∈s.rows -> ∃us,bWg w1 r us /\ fG (bI bl1 w1) r.cs us):=by
 refine ⟨λx hx=>?_,λr hr=>?_⟩
 ·obtain ⟨us,h1,h2⟩:=h.box x hx
  exact ⟨us,by rw [hk _ (List.mem_append_left _ (List.mem_map.2 ⟨x,hx,rfl⟩))];exact h1,h2.mono hu⟩
 obtain ⟨us,h1,h3⟩:=h.row r hr
 exact ⟨us,h1.keep λg hg=>hk g (List.mem_append_right _ (List.mem_flatMap.2 ⟨r,hr,hg⟩)),h3.mono hu⟩
theorem Mem.new{s:Sto}{w:World}(h:Mem s w)(T:TypeId)(cs:List AC)(us:List Value)(hr:fG (bI s.bl w) cs us):Mem ⟨⟨w.heap.size,T,cs⟩::s.boxes,s.rows⟩ (w.alloc (.cells us.toArray T)):=by
 have hu:=aKg w.heap.size s.bl w (.cells us.toArray T) Y
 have hne:∀b,b∈s.bl -> (w.alloc (.cells us.toArray T)).heap[b]?=w.heap[b]?:=λb hb=>((cW.refl [] w).alloc _).block b (h.lt b hb) (λh=>DV)
 obtain ⟨h1,h2⟩:=h.up hu hne
 refine ⟨List.nodup_cons.2 ⟨λhm=>Nat.lt_irrefl _ (h.lt _ hm),h.nodup⟩,λb hb=>?_,λx hx=>?_,h2⟩
 ·rcases List.mem_cons.1 hb with rfl|hb
  ·simp
  have:=h.lt b hb;simp;omega
 rcases List.mem_cons.1 hx with rfl|hx
 ·exact ⟨us,⟨(0,0),.inl Y,Hg⟩,hr.mono hu⟩
 exact h1 x hx
theorem Ext.new(st:AS)(w:World)(o:Obj)(x:Box)(hx:x.b=w.heap.size)(ts:List (Nat×AT)):Ext st w {st with s:=⟨x::st.s.boxes,st.s.rows⟩,T:=x.b::st.T,ts:=ts} (w.alloc o):=
 ⟨(cW.refl _ _).alloc o,(cW.refl _ _).alloc o,λb hb=>Dv,λb hb=>Dv⟩
theorem aNa{d:Nat}{T:TypeId}{cs:List AC}(hd:o.dst=some d)(hn:d<st.n)
  (hx:∀a w,Sim st a w -> ∃us,fG (bI st.s.bl w) cs us /\ (execOp a.eval o).run P w=.ok (.value (.pointer (some ⟨w.heap.size,0,none⟩))) (w.alloc (.cells us.toArray T)))
  (h:∀b,K {st with s:=⟨⟨b,T,cs⟩::st.s.boxes,st.s.rows⟩,T:=b::st.T,ts:=(d,.c (.val (.pointer (some ⟨b,0,none⟩))))::st.ts}):AO P U o st K:=by
 intro a w hs KK QQ hK
 obtain ⟨us,hr,hrun⟩:=hx a w hs
 unfold Oper.wp
 rw [hrun,Oper.upon_value,hd]
 have hm:=hs.mem.new T cs us hr
 have s1:=hs.step (w1:=w.alloc (.cells us.toArray T)) (w.heap.size::st.T) ((cW.refl _ _).alloc _) hm (λb hb=>by rcases List.mem_cons.1 hb with rfl|hb;exact .inr (Nat.le_refl _);exact .inl hb)
 exact hK _ _ _ (h w.heap.size) (s1.put hn (.c _ _ (.val _ Y))) (Ext.new st w _ ⟨w.heap.size,T,cs⟩ Y _) ((cW.refl _ _).alloc _)
theorem aQf{T:TypeId}{x:Operand}{t:AT}{d:Nat}{cs:List AC}(ho:o.op=.box T x)(hd:o.dst=some d)(hn:d<st.n)(hx:evA st x=some t)(hc:jL t=some cs)
  (h:∀b,K {st with s:=⟨⟨b,T,cs⟩::st.s.boxes,st.s.rows⟩,T:=b::st.T,ts:=(d,.c (.val (.pointer (some ⟨b,0,none⟩))))::st.ts}):AO P U o st K:=
 aNa hd hn (λa w hs=>⟨_,mU hc (hs.ev hx),by simp only [execOp,ho,Instr.box,newVar,newRow,Sem.run_bind,run_newObj_alloc,Result.andThen_ok,Sem.run_pure,Array.toArray_toList]⟩) h
theorem aMb{T:TypeId}{d:Nat}{z:Value}{cs:List AC}(ho:o.op=.alloc T)(hd:o.dst=some d)(hn:d<st.n)(hz:∀w,(zeroValue T).run P w=.ok z w)(hc:jL (cst z)=some cs)
  (h:∀b,K {st with s:=⟨⟨b,T,cs⟩::st.s.boxes,st.s.rows⟩,T:=b::st.T,ts:=(d,.c (.val (.pointer (some ⟨b,0,none⟩))))::st.ts}):AO P U o st K:=
 aNa hd hn (λa w hs=>⟨_,mU hc (aCw _ z),by simp only [execOp,ho,Instr.alloc,newVar,newRow,Sem.run_bind,hz,run_newObj_alloc,Result.andThen_ok,Sem.run_pure,Array.toArray_toList]⟩) h
def splice(cs:List AC)(off:Nat)(ds:List AC):List AC:=cs.take off++ds++cs.drop (off+ds.length)
theorem fG.splice{w:World}{cs ds:List AC}{us vs:List Value}(h:fG w cs us)(k:fG w ds vs)(off:Nat):fG w (splice cs off ds) (us.take off++vs++us.drop (off+vs.length)):=by
 unfold Go.Proofs.YtjgeihmhppadaaaGreatDoor.splice
 rw [←k.len]
 exact ((h.take _).app k).app (h.drop _)
theorem oI(w:World)(g:Nat)(c:Array Value):cW [g] w (w.setRow g c):=
 ⟨rfl,rfl,rfl,by simp [World.setRow],λk hk hn=>by
  unfold World.setRow
  simp only [Array.getElem?_modify]
  rw [if_neg (λh=>hn Dq)]⟩
theorem Mem.setRow{s:Sto}{w:World}{A B:List Box}{b:Nat}{T:TypeId}{cs ds:List AC}{us vs:List Value}{fz:Nat×Nat}(h:Mem s w)(hb:s.boxes=A++⟨b,T,cs⟩::B)(hfz:fz=(0,0)∨us.length <= fz.1)(hlv:vs.length=us.length)(h1:w.heap[b]?=some (.cells us.toArray T fz))(hr:fG (bI s.bl w) ds vs):
  Mem ⟨A++⟨b,T,ds⟩::B,s.rows⟩ (w.setRow b vs.toArray):=by
 have hbl:(⟨A++⟨b,T,ds⟩::B,s.rows⟩:Sto).bl=s.bl:=Bt
 have hmem:b∈s.bl:=Bt
 have hk:=oI w b vs.toArray
 have hu:Up2 (bI s.bl w) (bI s.bl (w.setRow b vs.toArray)):=jA hk CU (λx hx=>.inl hx)
 have hnd:=h.nodup
 have hne:∀x,x∈A∨x∈B -> x.b≠b:=by
  intro x hx he
  have h2:(s.boxes.map Box.b).Nodup:=(List.nodup_append.1 hnd).1
  rw [hb] at h2
  simp only [List.map_append,List.map_cons,List.nodup_append,List.nodup_cons,List.mem_cons,List.mem_map] at h2
  rcases hx with hx|hx
  ·exact h2.2.2 x.b ⟨x,hx,Y⟩ b (.inl Y) he
  exact h2.2.1.1 ⟨x,hx,he⟩
 have hrow:∀r,r∈s.rows -> b∉aY r.v:=by
  intro r hr hm
  have h2:=(List.nodup_append.1 hnd).2.2 b DO b (List.mem_flatMap.2 ⟨r,hr,hm⟩)
  exact h2 Y
 refine ⟨by rw [hbl];exact hnd,λx hx=>BS,λx hx=>?_,λr hr2=>?_⟩
 ·rw [hbl]
  simp only [List.mem_append,List.mem_cons] at hx
  have old:x∈A∨x∈B -> ∃us,(∃fz:Nat×Nat,(fz=(0,0)∨us.length <= fz.1) /\ (w.setRow b vs.toArray).heap[x.b]?=some (.cells us.toArray x.T fz)) /\ fG (bI s.bl (w.setRow b vs.toArray)) x.cs us:=λhx=>by
   have hx2:x∈s.boxes:=by rw [hb];simp only [List.mem_append,List.mem_cons];rcases hx with h|h;exact .inl h;exact .inr (.inr h)
   obtain ⟨us',e1,e2⟩:=h.box x hx2
   exact ⟨us',by rw [hk.block _ (h.lt _ (List.mem_append_left _ (List.mem_map.2 ⟨x,hx2,rfl⟩))) (by simp;exact hne x hx)];exact e1,e2.mono hu⟩
  rcases hx with hx|rfl|hx
  ·exact old (.inl hx)
  ·exact ⟨vs,⟨fz,by rw [hlv];exact hfz,setRow_heap w b us.toArray _ T fz h1⟩,hr.mono hu⟩
  exact old (.inr hx)
 rw [hbl]
 obtain ⟨us',e1,e3⟩:=h.row r hr2
 exact ⟨us',e1.keep λg hgb=>hk.block g (h.lt g (List.mem_append_right _ (List.mem_flatMap.2 ⟨r,hr2,hgb⟩))) (by simp;intro he;subst he;exact hrow r hr2 hgb),e3.mono hu⟩
theorem bGv(P:Program)(g o:Nat)(t:TypeId)(fz:Nat×Nat)(vs:List Value):∀(i:Nat)(cur:Array Value)(w:World),w.heap[g]?=some (.cells cur t fz) -> fz=(0,0)∨cur.size <= fz.1 -> o+i+vs.length <= cur.size -> (∀v∈vs,v.oneCell'=true) ->
  (storeCells ⟨g,o,none⟩ vs i).run P w=.ok () (w.setRow g (cur.toList.take (o+i)++vs++cur.toList.drop (o+i+vs.length)).toArray):=by
 induction vs with
 |nil=>
  intro i cur w hg _ _ _
  simp only [storeCells,List.append_nil,List.length_nil,Nat.add_zero,List.take_append_drop,Array.toArray_toList]
  rw [setRow_self w g cur t fz hg]
  rfl
 |cons v rest ih=>
  intro i cur w hg hfz hl h1
  have hi:o+i<cur.size:=by simp only [List.length_cons] at hl;omega
  have hcell:w.cell? ⟨g,o+i,none⟩=some cur[o+i]:=by simp [World.cell?,hg,hi]
  have hfro:w.frozen? ⟨g,o+i,none⟩=false:=by
   obtain ⟨lo,up⟩:=fz
   simp only [World.frozen?,hg,Bool.and_eq_false_iff,decide_eq_false_iff_not]
   rcases hfz with h|h
   ·cases h;exact .inr J
   dsimp only at h;exact .inl J
  have hst:(store ((⟨g,o,none⟩:Addr).add i) v).run P w=.ok () (w.setRow g (cur.setIfInBounds (o+i) v)):=by
   rw [oU,run_store P w _ v _ (h1 v G0),hcell]
   simp [hfro,setCell_eq_setRow w g (o+i) cur t fz v hg]
  have e:=list_seg_step cur.toList (o+i) v rest (by simp only [List.length_cons] at hl;rw [Array.length_toList];omega)
  have hn:=ih (i+1) (cur.setIfInBounds (o+i) v) (w.setRow g (cur.setIfInBounds (o+i) v)) (setRow_heap w g cur _ t _ hg) (by simpa using hfz) (by simp only [List.length_cons] at hl;rw [Array.size_setIfInBounds];omega) λx hx=>h1 x (by simp [hx])
  simp only [storeCells,Sem.run_bind,hst,Result.andThen_ok,hn,setRow_setRow]
  congr 3
  simpa [Array.toList_setIfInBounds,Nat.add_assoc] using e
theorem zQ{ty:TypeId}{x y:Operand}{b off z:Nat}{T:TypeId}{cs ds r:List AC}{t:AT}(A:List Box){B:List Box}(ho:o.op=.store ty x y)(hd:o.dst=none)(hx:evA st x=some (.c (.val (.pointer (some ⟨b,off,none⟩)))))(hy:evA st y=some t)(hc:jL t=some ds)
  (hb:st.s.boxes=A++⟨b,T,cs⟩::B) (hS:∀w,(sizeOf ty).run P w=.ok z w) (hz:ds.length=z) (hl:off+z <= cs.length) (hr:splice cs off ds=r) (hT:b∈st.T) (hU:st.s.bl.Nodup -> b∈U)
  (h:K {st with s:=⟨A++⟨b,T,r⟩::B,st.s.rows⟩}):AO P U o st K:=by
 intro a w hs KK QQ hK
 subst hr
 have hmem:(⟨b,T,cs⟩:Box)∈st.s.boxes:=DO
 obtain ⟨us,⟨fz,hfz,h1⟩,h2⟩:=hs.mem.box _ hmem
 have hv:=mU hc (hs.ev hy)
 have hlen:=hv.len
 have hl2:us.length=cs.length:=h2.len
 have hbl:(⟨A++⟨b,T,splice cs off ds⟩::B,st.s.rows⟩:Sto).bl=st.s.bl:=Bt
 have hbm:b∈st.s.bl:=Bt
 have hst:=bGv P b off T fz (a.eval y).cells.toList 0 us.toArray w h1 (by simpa using hfz) (by simp only [List.size_toArray];omega) hv.one
 simp only [Nat.add_zero,Array.toArray_toList] at hst
 have hk:=oI w b (us.take off++(a.eval y).cells.toList++us.drop (off+(a.eval y).cells.toList.length)).toArray
 unfold Oper.wp
 have hrun:(execOp a.eval o).run P w=.ok .skip (w.setRow b (us.take off++(a.eval y).cells.toList++us.drop (off+(a.eval y).cells.toList.length)).toArray):=by
  have hsz:(a.eval y).cells.size=z:=by rw [←Array.length_toList,hlen,hz]
  simp only [execOp,ho,hs.val hx,Instr.storeAt,Instr.sureAddr,storeVar,Sem.run_bind,Sem.run_pure,Result.andThen_ok,hS,hsz,ne_eq,not_true_eq_false,if_false]
  rw [hst];rfl
 rw [hrun,Oper.upon_skip,hd]
 have hm:=hs.mem.setRow hb hfz (by simp only [List.length_append,List.length_take,List.length_drop];omega) h1 (h2.splice hv off)
 refine hK _ _ _ h (hs.step st.T (hk.mono C0) hm (λx hx=>.inl Bw)) ⟨hk.mono C0,hk.mono DN,λx hx=>.inl Bw,λx hx=>.inl hx⟩ (hk.mono Cp)
def qO(place:Nat -> Option (Nat×Nat))(cells:List AC):List (Nat×AT) -> Option (List AC)
 |[]=>some cells
 |(i,t)::rest=>
  match place i,jL t with
  |some (off,z),some cs=>if cs.length=z /\ off+z <= cells.length then qO place (splice cells off cs) rest else none
  |_,_=>none
theorem aCt(off:Nat)(vs:List Value)(cells:Array Value)(h:off+vs.length <= cells.size):((vs.zipIdx).foldl (λcs (x:Value×Nat)=>cs.setIfInBounds (off+x.2) x.1) cells).toList=cells.toList.take off++vs++cells.toList.drop (off+vs.length):=by
 obtain ⟨h1,h2⟩:=Great.foldl_set off vs 0 cells
 generalize hF:(vs.zipIdx).foldl (λcs (x:Value×Nat)=>cs.setIfInBounds (off+x.2) x.1) cells=F at h1 h2
 refine List.ext_getElem? λk=>?_
 have h3:=h2 k
 rw [←Array.getElem?_toList] at h3
 rw [h3]
 by_cases hk:k<off
 ·rw [if_neg J,List.append_assoc,List.getElem?_append_left DR,List.getElem?_take_of_lt hk];simp
 by_cases hk2:k<off+vs.length
 ·rw [if_pos ⟨J,J,J⟩,List.append_assoc,List.getElem?_append_right DR,List.getElem?_append_left DR]
  congr 1;simp;omega
 rw [if_neg J,List.getElem?_append_right DR,List.getElem?_drop]
 have e:off+vs.length+(k-(cells.toList.take off++vs).length)=k:=DR
 rw [e];simp
theorem aAh{w:World}{place:Nat -> Option (Nat×Nat)}{a:Act}:∀(ps:List (Nat×Operand)) (ts:List (Nat×AT)) (cells:List AC) (us:Array Value) (r:List AC),ps.map Prod.fst=ts.map Prod.fst -> (∀i (h:i<ps.length) (h':i<ts.length),dO w ts[i].2 (a.eval ps[i].2)) -> fG w cells us.toList -> qO place cells ts=some r ->
  ∃vs:Array Value,Instr.fill place us (ps.map λx=>(x.1,a.eval x.2))=some vs /\ fG w r vs.toList
 |[],ts,cells,us,r,hf,_,hr,hfill=>by
  cases ts with
  |nil=>cases hfill;exact ⟨us,rfl,hr⟩
  |cons=>cases hf
 |(i,x)::ps,ts,cells,us,r,hf,hv,hr,hfill=>by
  cases ts with
  |nil=>cases hf
  |cons p ts=>
   obtain ⟨j,t⟩:=p
   simp only [List.map_cons,List.cons.injEq] at hf
   obtain ⟨rfl,hf⟩:=hf
   have hv0:dO w t (a.eval x):=hv 0 G0 G0
   simp only [qO] at hfill
   split at hfill
   ·rename_i off z cs hp hc
    split at hfill
    ·rename_i hz
     obtain ⟨hz1,hz2⟩:=hz
     have hcr:=mU hc hv0
     have hsz:(a.eval x).cells.size=z:=by rw [←Array.length_toList,hcr.len,hz1]
     have hus:us.size=cells.length:=by rw [←Array.length_toList,hr.len]
     have hfo:=aCt off (a.eval x).cells.toList us DR
     have hrep:=hr.splice hcr off
     rw [←hfo] at hrep
     obtain ⟨vs,h1,h2⟩:=aAh ps ts _ _ r hf (λk h h'=>hv (k+1) Er (by simpa using h')) hrep hfill
     refine ⟨vs,?_,h2⟩
     simp only [List.map_cons,Instr.fill,hp]
     rw [if_neg (by simp only [hsz];simp;omega)]
     rw [←h1]
     congr 1
     rw [←Array.foldl_toList]
     congr 1
     simp
    cases hfill
   cases hfill
inductive EvP (st:AS):List (Nat×Operand) -> List (Nat×AT) -> Prop
 |nil:EvP st [] []
 |cons {i:Nat} {x:Operand} {t:AT} {ps:List (Nat×Operand)} {ts:List (Nat×AT)} (h:evA st x=some t) (r:EvP st ps ts):EvP st ((i,x)::ps) ((i,t)::ts)
theorem EvP.map{ps:List (Nat×Operand)}{ts:List (Nat×AT)}(h:EvP st ps ts):ps.map (λp=>(evA st p.2).map (Prod.mk p.1))=ts.map some:=by
 induction h with
 |nil=>rfl
 |cons h _ ih=>simp [h,ih]
theorem aI2{ps:List (Nat×Operand)}{ts:List (Nat×AT)}(h:ps.map (λp=>(evA st p.2).map (Prod.mk p.1))=ts.map some):ps.map Prod.fst=ts.map Prod.fst /\ ∀i (h1:i<ps.length) (h2:i<ts.length),evA st ps[i].2=some ts[i].2:=by
 induction ps generalizing ts with
 |nil=>cases ts with|nil=>exact ⟨rfl,λi h=>absurd h G0⟩|cons=>cases h
 |cons p ps ih=>
  cases ts with
  |nil=>cases h
  |cons t ts=>
   simp only [List.map_cons,List.cons.injEq] at h
   obtain ⟨h1,h2⟩:=ih h.2
   have h3:=h.1
   cases he:evA st p.2 with
   |none=>rw [he] at h3;cases h3
   |some u=>
    rw [he] at h3
    simp only [Option.map_some,Option.some.injEq] at h3
    subst h3
    refine ⟨by simp [h1],λi hi hi2=>?_⟩
    cases i with
    |zero=>exact he
    |succ i=>exact h2 i B3 (by simpa using hi2)
theorem aNs{t:TypeId}{fs:Array Field}(i:TypeInfo){z:Value}{parts:Array (Nat×Operand)}{ps:List (Nat×AT)}(pl:List (Nat×Nat)){zc r:List AC}(ho:o.op=.build t parts)(hps:EvP st parts.toList ps)
  (hu:P.underlying t=some (.struct fs)) (hi:P.info? t=some i) (hz:i.zero=some z) (hpl:fs.toList.mapM (λf=>(P.info? f.type).map λi=>(f.offset,i.size))=some pl) (hzc:jL (cst z)=some zc)
  (hf:qO (pl.toArray[·]?) zc ps=some r):AY P U o st (.agg r):=by
 intro a w hs _
 obtain ⟨h1,h2⟩:=aI2 hps.map
 obtain ⟨vs,e1,e2⟩:=aAh (w:=bI st.s.bl w) (a:=a) parts.toList ps zc z.cells r h1 (λi h h'=>hs.ev (h2 i h h')) (mU hzc (aCw _ z)) hf
 refine ⟨.agg vs,by simpa using dO.agg _ _ e2,λw' _=>?_⟩
 have hb:P.built t (parts.map λp=>(p.1,a.eval p.2)).toList=some vs:=by
  unfold Program.built
  rw [hi,hu]
  simp only [hz,hpl]
  rw [Array.toList_map];exact e1
 simp only [execOp,ho,Sem.run_bind]
 rw [run_build w' t _ vs hb];rfl
theorem aAw{t e:TypeId}(i:TypeInfo){z:Value}{len:Nat}{parts:Array (Nat×Operand)}{ps:List (Nat×AT)}{zc r:List AC}{d:Nat}(ho:o.op=.buildSlice t len parts)(hd:o.dst=some d)(hn:d<st.n)(hps:EvP st parts.toList ps)
  (hu:P.underlying t=some (.slice e)) (hi:P.info? e=some i) (hz:i.zero=some z) (hsmall:¬len*i.size>2 ^ 24) (hpos:¬len*i.size=0) (hzc:(((Array.range (len*i.size)).map (z.cells[·% z.cells.size]!)).toList.all (·.oneCell'))=true) (hzr:((Array.range (len*i.size)).map (z.cells[·% z.cells.size]!)).toList.map .val=zc)
  (hf:qO (λk=>some (k*i.size,i.size)) zc ps=some r) (h:K {st with ts:=(d,.c (.sl len r))::st.ts}):AO P U o st K:=by
 intro a w hs KK QQ hK
 obtain ⟨h1,h2⟩:=aI2 hps.map
 subst hzr
 obtain ⟨vs,e1,e2⟩:=aAh (w:=bI st.s.bl w) (a:=a) (place:=λk=>some (k*i.size,i.size)) parts.toList ps _ ((Array.range (len*i.size)).map (z.cells[·% z.cells.size]!)) r h1 (λi h h'=>hs.ev (h2 i h h')) (gU _ _ λu hu=>Hh) hf
 unfold Oper.wp
 have hrun:(execOp a.eval o).run P w=.ok (.value (.slice (some ⟨w.heap.size,0,none⟩) len len)) (w.alloc (.cells vs e)):=by
  simp only [execOp,ho,Sem.run_bind]
  rw [run_buildSlice w t e len _ vs i z hu hi hz hsmall hpos (by rw [Array.toList_map];exact e1)];rfl
 rw [hrun,Oper.upon_value,hd]
 have hk:cW [] w (w.alloc (.cells vs e)):=(cW.refl _ _).alloc _
 have hub:Up2 (bI st.s.bl w) (bI st.s.bl (w.alloc (.cells vs e))):=jA hk Bu (λb h=>.inl h)
 obtain ⟨m1,m2⟩:=hs.mem.up hub FC
 have hm:Mem st.s (w.alloc (.cells vs e)):=⟨hs.mem.nodup,λb hb=>Nat.lt_of_lt_of_le (hs.mem.lt b hb) hk.size,m1,m2⟩
 have s1:=hs.step (w1:=w.alloc (.cells vs e)) st.T (hk.mono G0) hm (λb hb=>.inl hb)
 have hmaxcap:len <= 16777216:=by
  have h1:0<i.size:=Nat.pos_of_ne_zero λh0=>hpos Hk
  have h2:=Nat.le_mul_of_pos_right len h1
  omega
 have hrow:dO (bI st.s.bl (w.alloc (.cells vs e))) (.c (.sl len r)) (.slice (some ⟨w.heap.size,0,none⟩) len len):=by
  refine .c _ _ (.sl _ _ vs.toList _ ?_ e2.len (λi h h'=>(e2.at_ i h h').mono hub) (λ_ _ _ h=>by cases h;have:=hmaxcap;omega))
  have:=dD.hide_new st.s.bl w vs.toList e len w.heap.size rfl hs.mem.lt
  rw [Array.toArray_toList] at this;exact this
 exact hK _ _ _ h (s1.put hn hrow) ⟨hk.mono G0,hk.mono G0,λb hb=>.inl hb,λb hb=>.inl hb⟩ (hk.mono G0)
end
end
section
open Go.RowKit
section
variable {P:Program}{U:List Nat}{o:Oper}{st:AS}{K:AS -> Prop}
theorem lZ{u:Value}{g:Nat}:g∈aY u↔u.ownBlock=some g:=by
 unfold aY
 cases h:u.ownBlock with
 |none=>simp
 |some k=>simp [eq_comm]
theorem yK(u:Value):(aY u).Nodup:=by unfold aY;cases u.ownBlock<;>simp
theorem aAi{L r r' R:List Nat}{N:Nat}(h:(L++(r++R)).Nodup)(hr:∀b,b∈r' -> b∈r∨N <= b)(hlt:∀b,b∈L++(r++R) -> b<N)(hn:r'.Nodup):(L++(r'++R)).Nodup:=by
 simp only [List.nodup_append,List.mem_append] at h hlt⊢
 obtain ⟨h1,⟨h2,h3,h4⟩,h5⟩:=h
 refine ⟨h1,⟨hn,h3,λa ha b hb=>?_⟩,λa ha b hb=>?_⟩
 ·rcases hr a ha with h6|h6
  ·exact h4 a h6 b hb
  have:=hlt b (.inr (.inr hb));omega
 rcases hb with hb|hb
 ·rcases hr b hb with h6|h6
  ·exact h5 a ha b (.inl h6)
  have:=hlt a (.inl ha);omega
 exact h5 a ha b (.inr hb)
theorem sO(bx:List Box)(A B:List bA)(r:bA):(⟨bx,A++r::B⟩:Sto).bl=(bx.map Box.b++A.flatMap λr=>aY r.v)++(aY r.v++B.flatMap λr=>aY r.v):=by unfold Sto.bl;simp
theorem bGt{e:TypeId}{d n m z:Nat}{v:Value}{cs ds:List AC}(A:List bA){B:List bA}(hd:o.dst=some d)(hn:d<st.n)
  (hrow:st.s.rows=A++⟨v,e,z,n,cs⟩::B) (hz9:0<z)
  (hy:∀a w,Sim st a w -> ∀us,w.ownsRow 0 e z v n us -> ∃ys,fG (bI st.s.bl w) ds ys /\ ∀(KK:Act -> World -> Prop)(QQ:Exit -> Act -> World -> Prop),(∀v' w',w'.ownsRow 0 e z v' (n+m) (us++ys) -> w.grownBy w' v.ownBlock -> (∀g,v'.ownBlock=some g -> v.ownBlock=some g∨w.heap.size <= g) -> KK (a.put o.dst v') w') -> o.wp P a w KK QQ)
  (hU:st.s.bl.Nodup -> ∀b,b∈aY v -> b∈U) (hT:∀b,b∈aY v -> b∈st.T)
  (h:∀v',K {st with s:=⟨st.s.boxes,A++⟨v',e,z,n+m,cs++ds⟩::B⟩,T:=aY v'++st.T,ts:=(d,.c (.val v'))::st.ts}):AO P U o st K:=by
 intro a w hs KK QQ hK
 obtain ⟨us,hownR,hrep⟩:=hs.mem.row ⟨v,e,z,n,cs⟩ C1
 have hown:=hownR.row hz9
 obtain ⟨ys,hyrep,hgo⟩:=hy a w hs us hown
 skip
 refine hgo KK QQ ?_
 intro v' w' hown' hgrow hfr
 have hkr:cW (aY v) w w':=⟨hgrow.os,hgrow.tape,hgrow.output,hgrow.size,λk hk hn=>hgrow.block k hk (λhe=>hn (lZ.2 he.symm))⟩
 have hfr2:∀g,g∈aY v' -> g∈aY v∨w.heap.size <= g:=λg hg=>(hfr g (lZ.1 hg)).imp lZ.2 id
 have hbl0:st.s.bl=(st.s.boxes.map Box.b++A.flatMap λr=>aY r.v)++(aY v++B.flatMap λr=>aY r.v):=by have:=sO st.s.boxes A B ⟨v,e,z,n,cs⟩;rw [←hrow] at this;exact this
 have hbl1:=sO st.s.boxes A B ⟨v',e,z,n+m,cs++ds⟩
 generalize hs1:(⟨st.s.boxes,A++⟨v',e,z,n+m,cs++ds⟩::B⟩:Sto)=s1 at hbl1
 have hvb:∀g,g∈aY v -> g∈st.s.bl:=λg hg=>by rw [hbl0];simp [hg]
 have hsub:∀g,g∈s1.bl -> g∈st.s.bl∨w.heap.size <= g:=λg hg=>by
  rw [hbl1] at hg
  rw [hbl0]
  simp only [List.mem_append] at hg⊢
  rcases hg with (hg|hg)|hg|hg
  ·exact .inl (.inl (.inl hg))
  ·exact .inl (.inl (.inr hg))
  ·rcases hfr2 g hg with hg|hg
   ·exact .inl (.inr (.inl hg))
   exact .inr hg
  exact .inl (.inr (.inr hg))
 have hkb:cW st.s.bl w w':=hkr.mono hvb
 have hup:Up2 (bI st.s.bl w) (bI s1.bl w'):=jA hkb (λ_ h=>h) hsub
 have hnd:=hs.mem.nodup
 rw [hbl0] at hnd
 have hlt0:∀g,g∈(st.s.boxes.map Box.b++A.flatMap λr=>aY r.v)++(aY v++B.flatMap λr=>aY r.v) -> g<w.heap.size:=by rw [←hbl0];exact hs.mem.lt
 have hnd1:s1.bl.Nodup:=by rw [hbl1];exact aAi hnd hfr2 hlt0 (yK _)
 have hltn:∀g,g∈aY v' -> g<w'.heap.size:=λg hg=>pF hown' (lZ.1 hg)
 have hmem:Mem s1 w':=by
  refine ⟨hnd1,λg hg=>?_,λbx hbx=>?_,λr hr=>?_⟩
  ·rw [hbl1] at hg
   simp only [List.mem_append] at hg
   rcases hg with (hg|hg)|hg|hg
   ·exact Nat.lt_of_lt_of_le (hlt0 g (by simp [hg])) hkb.size
   ·exact Nat.lt_of_lt_of_le (hlt0 g (by simp only [List.mem_append];exact .inl (.inr hg))) hkb.size
   ·exact hltn g hg
   exact Nat.lt_of_lt_of_le (hlt0 g (by simp only [List.mem_append];exact .inr (.inr hg))) hkb.size
  ·have hbx2:bx∈st.s.boxes:=by rw [←hs1] at hbx;exact hbx
   obtain ⟨us',e1,e2⟩:=hs.mem.box bx hbx2
   have hbb:bx.b∈st.s.boxes.map Box.b:=List.mem_map.2 ⟨bx,hbx2,Y⟩
   refine ⟨us',?_,e2.mono hup⟩
   rw [hkr.block _ (hlt0 _ (by simp only [List.mem_append];exact .inl (.inl hbb))) (λhm=>?_)]
   ·exact e1
   exact (List.nodup_append.1 hnd).2.2 bx.b (List.mem_append_left _ hbb) bx.b (List.mem_append_left _ hm) Y
  rw [←hs1] at hr
  simp only [List.mem_append,List.mem_cons] at hr
  have old:r∈A∨r∈B -> ∃us,bWg w' r us /\ fG (bI s1.bl w') r.cs us:=λhr=>by
   obtain ⟨us',e1,e2⟩:=hs.mem.row r (by rw [hrow];simp only [List.mem_append,List.mem_cons];rcases hr with h|h;exact .inl h;exact .inr (.inr h))
   refine ⟨us',e1.keep λg hg=>?_,e2.mono hup⟩
   refine hkr.block g ?_ λhm=>?_
   ·rcases hr with hr|hr
    ·exact hlt0 g (by simp only [List.mem_append];exact .inl (.inr (List.mem_flatMap.2 ⟨r,hr,hg⟩)))
    exact hlt0 g (by simp only [List.mem_append];exact .inr (.inr (List.mem_flatMap.2 ⟨r,hr,hg⟩)))
   rcases hr with hr|hr
   ·exact (List.nodup_append.1 hnd).2.2 g (List.mem_append_right _ (List.mem_flatMap.2 ⟨r,hr,hg⟩)) g (List.mem_append_left _ hm) Y
   exact (List.nodup_append.1 (List.nodup_append.1 hnd).2.1).2.2 g hm g (List.mem_flatMap.2 ⟨r,hr,hg⟩) Y
  rcases hr with hr|rfl|hr
  ·exact old (.inl hr)
  ·exact ⟨us++ys,.inl hown',(hrep.mono hup).app (hyrep.mono hup)⟩
  exact old (.inr hr)
 have s2:=hs.step (aY v'++st.T) hkb hmem hsub
 rw [hd]
 have h9:=h v'
 rw [hs1] at h9
 have h1c:v'.oneCell'=true:=by obtain ⟨_,_,he⟩:=lR hown';rw [he];rfl
 refine hK _ _ _ h9 (s2.put (v:=v') hn (.c _ _ (.val _ h1c))) ⟨hkb,hkr.mono hT,hsub,λg hg=>?_⟩ (hkr.mono (hU hs.mem.nodup))
 rcases List.mem_append.1 hg with hg|hg
 ·exact (hfr2 g hg).imp (hT g) id
 exact .inl hg
theorem aBj{t e:TypeId}{x y:Operand}{d n m z bytes:Nat}{v zv:Value}{cs ds:List AC}{i:TypeInfo}(A:List bA){B:List bA}(ho:o.op=.call {callee:=.builtin .append,args:=#[x,y],argTypes:=#[t,t]})(hd:o.dst=some d)(hn:d<st.n)
  (hx:evA st x=some (.c (.val v))) (hrow:st.s.rows=A++⟨v,e,z,n,cs⟩::B) (hy:evA st y=some (.c (.sl m ds))) (hu:P.underlying t=some (.slice e)) (hi:P.info? e=some i) (hz:i.zero=some zv) (hsz:i.size=z) (hby:i.bytes=bytes) (hzs:zv.cells.size=z) (h0:0<z)
  (hm:ds.length=m*z) (hm0:0<m) (hlen:n+m <= maxLen) (hbytes:(n+m)*bytes <= 140737488355328) (hU:st.s.bl.Nodup -> ∀b,b∈aY v -> b∈U) (hT:∀b,b∈aY v -> b∈st.T)
  (h:∀v',K {st with s:=⟨st.s.boxes,A++⟨v',e,z,n+m,cs++ds⟩::B⟩,T:=aY v'++st.T,ts:=(d,.c (.val v'))::st.ts}):AO P U o st K:=by
 refine bGt A hd hn hrow h0 (λa w hs us hown=>?_) hU hT h
 have hye:=hs.ev hy
 generalize hyv:a.eval y=yv at hye
 cases hye with
 |c _ _ hye=>cases hye with
  |sl _ _ ys _ hra hyl hyr=>
   obtain ⟨p,cap,rfl,-,hra⟩:=hra
   rcases hra with rfl|⟨b,of,rfl,hc⟩
   ·simp at hyl
    have:0<m*z:=Nat.mul_pos hm0 h0
    omega
   have hyrep:fG (bI st.s.bl w) ds ys:=⟨hyl,hyr⟩
   exact ⟨ys,hyrep,λKK QQ hK=>dAa w x y t ho 0 e i zv z bytes hu hi hz hsz hby hzs h0 v n us (hs.val hx) hown ⟨b,of,none⟩ m cap ys hyv (by rw [hyl,hm]) (λj u hj=>by rw [oU];exact (gA (hc j u hj)).1) hyrep.one hlen hbytes (Nat.zero_le _) hK⟩
theorem rU{a:Act}{w:World}(hs:Sim st a w):∀{ps:List Operand} {ts:List AT},ps.map (evA st)=ts.map some -> (ps.map a.eval).length=ts.length /\ ∀i (h:i<ts.length) (h':i<(ps.map a.eval).length),dO (bI st.s.bl w) ts[i] (ps.map a.eval)[i]
 |[],ts,h=>by cases ts with|nil=>exact ⟨rfl,λi h=>absurd h G0⟩|cons=>cases h
 |p::ps,ts,h=>by
  cases ts with
  |nil=>cases h
  |cons t ts=>
   simp only [List.map_cons,List.cons.injEq] at h
   obtain ⟨h1,h2⟩:=rU hs h.2
   refine ⟨C2,λi hi hi2=>?_⟩
   cases i with
   |zero=>exact hs.ev h.1
   |succ i=>exact h2 i B3 (by simpa using hi2)
theorem aCf{F:FuncId}{d:Nat}{vs:List Value}{ts:List AT}{T':List Nat}{Q:AT -> Sto -> Prop}{a:Act}{w:World}(hs:Sim st a w)(hd:o.dst=some d)(hn:d<st.n)(hl:vs.length=ts.length)(hv:∀i (h:i<ts.length) (h':i<vs.length),dO (bI st.s.bl w) ts[i] vs[i])
  (hrun:(execOp a.eval o).run P w=.ok (.enter F vs.toArray) w) (hc:aL P F ts T' st.s Q) (hT:∀b,b∈T' -> b∈st.T) (hTb:∀b,b∈T' -> b∈st.s.bl) (hU:st.s.bl.Nodup -> ∀b,b∈T' -> b∈U)
  (h:∀r s',Q r s' -> K {st with s:=s',ts:=(d,r)::st.ts}) (KK:Act -> World -> Prop) (QQ:Exit -> Act -> World -> Prop) (hK:∀a' w' st',K st' -> Sim st' a' w' -> Ext st w st' w' -> cW U w w' -> KK a' w'):o.wp P a w KK QQ:=by
 unfold Oper.wp
 rw [hrun,Oper.upon_enter]
 refine (hc vs w hs.mem hTb hl hv).mono ?_
 rintro en w' ⟨r,v,s',rfl,hq,hr,hm,hk,hb⟩
 dsimp only
 rw [hd]
 have s1:=hs.step st.T (hk.mono hTb) hm hb
 exact hK _ _ _ (h r s' hq) (s1.put hn hr) ⟨hk.mono hTb,hk.mono hT,hb,λb hb=>.inl hb⟩ (hk.mono (hU hs.mem.nodup))
theorem aOs{F:FuncId}{d:Nat}{ars:Array Operand}{tys:Array TypeId}{ts:List AT}(T':List Nat){Q:AT -> Sto -> Prop}(ho:o.op=.call {callee:=.value (.func F),args:=ars,argTypes:=tys})(hd:o.dst=some d)(hn:d<st.n)
  (hcf:∀args w,(callFunc F args).run P w=.ok (.enter F args) w) (has:ars.toList.map (evA st)=ts.map some) (hc:aL P F ts T' st.s Q) (hT:∀b,b∈T' -> b∈st.T) (hTb:∀b,b∈T' -> b∈st.s.bl) (hU:st.s.bl.Nodup -> ∀b,b∈T' -> b∈U)
  (h:∀r s',Q r s' -> K {st with s:=s',ts:=(d,r)::st.ts}):AO P U o st K:=by
 intro a w hs KK QQ hK
 obtain ⟨h1,h2⟩:=rU hs has
 refine aCf hs hd hn h1 h2 ?_ hc hT hTb hU h KK QQ hK
 simp only [execOp,ho,resolve,Deferred.ofValue,Act.eval,Sem.run_bind,Sem.run_pure,Result.andThen_ok,invoke]
 rw [hcf]
 congr 2
 rw [←Array.toList_inj];simp
theorem aBo{w:World}{ts us:List AT}{vs xs:List Value}(h1:vs.length=ts.length)(h2:∀i (h:i<ts.length) (h':i<vs.length),dO w ts[i] vs[i])(k1:xs.length=us.length)(k2:∀i (h:i<us.length) (h':i<xs.length),dO w us[i] xs[i]):
  (vs++xs).length=(ts++us).length /\ ∀i (h:i<(ts++us).length) (h':i<(vs++xs).length),dO w (ts++us)[i] (vs++xs)[i]:=by
 refine ⟨by simp [h1,k1],λi hi hi'=>?_⟩
 rcases Nat.lt_or_ge i ts.length with h|h
 ·rw [List.getElem_append_left h,List.getElem_append_left (by rw [h1];exact h)];exact h2 _ _ _
 rw [List.getElem_append_right h,List.getElem_append_right (by rw [h1];exact h)]
 simp only [h1]
 exact k2 _ (by simp at hi;omega) (by simp at hi';omega)
theorem aA7(w:World)(vs:List Value):vs.length=(vs.map cst).length /\ ∀i (h:i<(vs.map cst).length) (h':i<vs.length),dO w (vs.map cst)[i] vs[i]:=⟨G0,λi h h'=>by simp only [List.getElem_map];exact aCw _ _⟩
def aAc(P:Program)(st:AS)(rv:ResultVar)(r:AT):Prop:=∀a w,Sim st a w -> ∃v,dO (bI st.s.bl w) r v /\ ((match rv with|.tmp t=>pure (a.tmps.getD t undef)|.cell x t=>do loadVar t (←asAddr (a.tmps.getD x undef))):Sem Value).run P w=.ok v w
theorem aF{t:Tmp}{r:AT}(h:look st.ts t=some r):aAc P st (.tmp t) r:=λa w hs=>by
 obtain ⟨v,h1,h2⟩:=hs.tm t r h
 exact ⟨v,h2,by simp only [Sem.run_pure,Array.getD_eq_getD_getElem?,h1,Option.getD_some]⟩
theorem aO{x:Tmp}{ty:TypeId}{r:AT}{b off z:Nat}{T:TypeId}{cs:List AC}{ag:Bool}(A:List Box){B:List Box}(h:look st.ts x=some (.c (.val (.pointer (some ⟨b,off,none⟩)))))(hb:st.s.boxes=A++⟨b,T,cs⟩::B)
  (hA:∀w,(isAgg ty).run P w=.ok ag w) (hS:∀w,(sizeOf ty).run P w=.ok z w) (hp:pk ag z cs off=some r):aAc P st (.cell x ty) r:=λa w hs=>by
 obtain ⟨v,h1,h2⟩:=hs.tm x _ h
 have:=h2.val
 subst this
 obtain ⟨us,⟨fz,-,h3⟩,h4⟩:=hs.mem.box ⟨b,T,cs⟩ DO
 obtain ⟨v,hv,hl⟩:=pR (P:=P) (b:=b) (o:=0) hA hS h4 hp
 refine ⟨v,hv,?_⟩
 have hl2:=hl w (λj u hj=>by unfold World.cell?;simp only [h3];simpa using hj)
 simp only [Nat.zero_add] at hl2
 simp only [Array.getD_eq_getD_getElem?,h1,Option.getD_some,asAddr,Sem.run_bind,Sem.run_pure,Result.andThen_ok,hl2]
theorem cH{fn:Func}(h:fn.results=#[]):aEt P fn st (.tup []):=λa w hs=>⟨.tuple #[],.tup [] [] rfl D8,results_none h _ _ _⟩
theorem aT9{f:ResultVar -> Sem Value}{r1:ResultVar}{v1:Value}{w:World}(e1:(f r1).run P w=.ok v1 w):(#[r1].mapM f).run P w=.ok #[v1] w:=by
 simp [Sem.run_bind,e1]
theorem aSp{f:ResultVar -> Sem Value}{r1 r2:ResultVar}{v1 v2:Value}{w:World}(e1:(f r1).run P w=.ok v1 w)(e2:(f r2).run P w=.ok v2 w):(#[r1,r2].mapM f).run P w=.ok #[v1,v2] w:=by
 simp [Sem.run_bind,e1,e2]
theorem aSd{f:ResultVar -> Sem Value}{r1 r2 r3:ResultVar}{v1 v2 v3:Value}{w:World}(e1:(f r1).run P w=.ok v1 w)(e2:(f r2).run P w=.ok v2 w)(e3:(f r3).run P w=.ok v3 w):(#[r1,r2,r3].mapM f).run P w=.ok #[v1,v2,v3] w:=by
 simp [Sem.run_bind,e1,e2,e3]
theorem aR{fn:Func}{rv:ResultVar}{r:AT}(h:fn.results=#[rv])(h1:aAc P st rv r):aEt P fn st r:=λa w hs=>by
 obtain ⟨v,e1,e2⟩:=h1 a w hs
 refine ⟨v,e1,?_⟩
 unfold results
 rw [h,Sem.run_bind]
 erw [aT9 e2]
 simp [go_sem]
theorem aQ3{w:World}{r1 r2:AT}{v1 v2:Value}(h1:dO w r1 v1)(h2:dO w r2 v2):dO w (.tup [r1,r2]) (.tuple #[v1,v2]):=
 .tup [r1,r2] [v1,v2] rfl λi h h'=>by rcases i with _|_|i;exact h1;exact h2;simp at h;omega
theorem aQ4{w:World}{r1 r2 r3:AT}{v1 v2 v3:Value}(h1:dO w r1 v1)(h2:dO w r2 v2)(h3:dO w r3 v3):dO w (.tup [r1,r2,r3]) (.tuple #[v1,v2,v3]):=
 .tup [r1,r2,r3] [v1,v2,v3] rfl λi h h'=>by rcases i with _|_|_|i;exact h1;exact h2;exact h3;simp at h;omega
theorem uM{fn:Func}{rv1 rv2:ResultVar}{r1 r2:AT}(h:fn.results=#[rv1,rv2])(h1:aAc P st rv1 r1)(h2:aAc P st rv2 r2):aEt P fn st (.tup [r1,r2]):=λa w hs=>by
 obtain ⟨v1,e1,f1⟩:=h1 a w hs
 obtain ⟨v2,e2,f2⟩:=h2 a w hs
 refine ⟨_,aQ3 e1 e2,?_⟩
 unfold results
 rw [h,Sem.run_bind]
 erw [aSp f1 f2]
 simp [go_sem]
theorem pC{fn:Func}{rv1 rv2 rv3:ResultVar}{r1 r2 r3:AT}(h:fn.results=#[rv1,rv2,rv3])(h1:aAc P st rv1 r1)(h2:aAc P st rv2 r2)(h3:aAc P st rv3 r3):aEt P fn st (.tup [r1,r2,r3]):=λa w hs=>by
 obtain ⟨v1,e1,f1⟩:=h1 a w hs
 obtain ⟨v2,e2,f2⟩:=h2 a w hs
 obtain ⟨v3,e3,f3⟩:=h3 a w hs
 refine ⟨_,aQ4 e1 e2 e3,?_⟩
 unfold results
 rw [h,Sem.run_bind]
 erw [aSd f1 f2 f3]
 simp [go_sem]
def Wk(r r':AT):Prop:=∀w v,dO w r v -> dO w r' v
def WkC(x y:AC):Prop:=∀w v,Rep w x v -> Rep w y v
theorem WkC.refl(x:AC):WkC x x:=λ_ _ h=>h
theorem aQl:WkC (.val (.slice none 0 0)) (.sl 0 []):=λw v h=>by cases h;exact .sl 0 [] [] _ (dD.nil w) rfl D8 (λ_ _ _ h=>by cases h;decide)
theorem Wk.refl(r:AT):Wk r r:=λ_ _ h=>h
theorem Wk.c{x y:AC}(h:WkC x y):Wk (.c x) (.c y):=λw v hr=>by cases hr with|c _ _ hr=>exact .c _ _ (h _ _ hr)
inductive WkL:List AC -> List AC -> Prop
 |nil:WkL [] []
 |cons {x y:AC} {xs ys:List AC} (h:WkC x y) (t:WkL xs ys):WkL (x::xs) (y::ys)
theorem WkL.refl:∀xs:List AC,WkL xs xs
 |[]=>.nil
 |x::xs=>.cons (.refl x) (WkL.refl xs)
theorem WkL.rep{w:World}{xs ys:List AC}(h:WkL xs ys):∀{us:List Value},fG w xs us -> fG w ys us:=by
 induction h with
 |nil=>exact λh=>h
 |cons h t ih=>
  intro us hr
  cases us with
  |nil=>have:=hr.len;simp at this
  |cons u us=>exact .cons (h _ _ (hr.at_ 0 G0 G0)) (ih ⟨by have:=hr.len;simpa using this,λi h1 h2=>hr.at_ (i+1) C2 B4⟩)
theorem Wk.agg{xs ys:List AC}(h:WkL xs ys):Wk (.agg xs) (.agg ys):=λw v hr=>by cases hr with|agg _ us hr=>exact .agg _ _ (h.rep hr)
theorem eK{fn:Func}{r r':AT}(h:Wk r r')(hr:aEt P fn st r):aEt P fn st r':=λa w hs=>let ⟨v,e1,e2⟩:=hr a w hs;⟨v,h _ _ e1,e2⟩
theorem aOg:Sub st {st with ts:=[]}:=λa w h=>⟨⟨h.df,h.sz,λi t ht=>(by cases ht),h.mem⟩,λ_ h=>h,λ_ h=>h⟩
theorem aG{i:Nat}{t u:AT}{ts:List (Nat×AT)}(hl:look st.ts i=some u)(hw:Wk u t)(h:Sub st {st with ts:=ts}):Sub st {st with ts:=(i,t)::ts}:=λa w hs=>by
 obtain ⟨h1,h2,h3⟩:=h a w hs
 refine ⟨⟨h1.df,h1.sz,λj x hx=>?_,h1.mem⟩,h2,h3⟩
 simp only [look] at hx
 split at hx
 ·rename_i he;subst he;cases hx
  obtain ⟨v,e1,e2⟩:=hs.tm i u hl
  exact ⟨v,e1,hw _ _ e2⟩
 exact h1.tm j x hx
theorem aPw(T':List Nat)(h:∀b,b∈T' -> b∈st.T):Sub st {st with T:=T'}:=λa w hs=>⟨⟨hs.df,hs.sz,hs.tm,hs.mem⟩,λ_ h=>h,h⟩
theorem vU{s':Sto}(h:aAz st.s s'):Sub st {st with s:=s'}:=λa w hs=>by
 obtain ⟨h1,h2⟩:=h w hs.mem
 exact ⟨⟨hs.df,hs.sz,λi t ht=>let ⟨v,e1,e2⟩:=hs.tm i t ht;⟨v,e1,e2.mono (up_sub h2) (mW (Nat.le_refl _))⟩,h1⟩,h2,λ_ h=>h⟩
theorem aOb(E:TypeId)(z:Nat):Sub st {st with s:=⟨st.s.boxes,⟨.slice none 0 0,E,z,0,[]⟩::st.s.rows⟩}:=λa w hs=>by
 have hbl:(⟨st.s.boxes,⟨.slice none 0 0,E,z,0,[]⟩::st.s.rows⟩:Sto).bl=st.s.bl:=CZ
 refine ⟨⟨hs.df,hs.sz,?_,?_,?_,?_,?_⟩,?_,λ_ h=>h⟩
 ·rw [hbl];exact hs.tm
 ·rw [hbl];exact hs.mem.nodup
 ·rw [hbl];exact hs.mem.lt
 ·rw [hbl];exact hs.mem.box
 ·rw [hbl]
  intro r hr
  rcases List.mem_cons.1 hr with rfl|hr
  ·exact ⟨[],.inl (ownsRow_nil _ _ _ _),.nil _⟩
  exact hs.mem.row r hr
 rw [hbl];exact λ_ h=>h
theorem uK{w:World}{base:Nat}{e:TypeId}{size:Nat}{v:Value}{n:Nat}{xs:List Value}(h:w.ownsRow base e size v n xs):∀a k c,v=.slice a k c -> c <= 9223372036854775807:=by
 rintro a k c rfl
 rcases h.2 with ⟨h1,_⟩|⟨g,cap,cur,h1,_,_,_,h2,_⟩
 ·cases h1;decide
 cases h1;unfold maxLen at h2;omega
theorem yS{A B:List bA}{v:Value}{E:TypeId}{z n:Nat}{cs:List AC}(i:Nat)(hi:look st.ts i=some (.c (.val v)))(hrow:st.s.rows=A++⟨v,E,z,n,cs⟩::B)(hz:0<z:=by decide):Sub st {st with s:=⟨st.s.boxes,A++B⟩,ts:=(i,.c (.sl n cs))::st.ts}:=λa w hs=>by
 have hsub:aAz st.s ⟨st.s.boxes,A++B⟩:=aA (List.Sublist.refl _) (by rw [hrow];exact List.Sublist.append (List.Sublist.refl _) (List.sublist_cons_self _ _))
 obtain ⟨h1,h2,h3⟩:=vU hsub a w hs
 refine ⟨⟨h1.df,h1.sz,λj x hx=>?_,h1.mem⟩,h2,h3⟩
 simp only [look] at hx
 split at hx
 ·rename_i he;subst he;cases hx
  obtain ⟨u,e1,e2⟩:=hs.tm i _ hi
  have:=e2.val
  subst this
  obtain ⟨us,hownR,hrep⟩:=hs.mem.row ⟨u,E,z,n,cs⟩ C1
  have hown:=hownR.row hz
  refine ⟨u,e1,.c _ _ (.sl _ _ us _ ?_ hrep.len (λk h h'=>(hrep.at_ k h h').mono (up_sub h2)) (uK hown))⟩
  obtain ⟨p,cap,he,hc,hr⟩:=dD.of_owns hown
  refine ⟨p,cap,he,hc,?_⟩
  rcases hr with h0|⟨b,off,rfl,hr⟩
  ·exact .inl h0
  refine .inr ⟨b,off,Y,λj x hj=>?_⟩
  have hbv:b∈aY u:=by have he2:u=.slice (some ⟨b,off,none⟩) n cap:=he;rw [he2];simp [aY,Value.ownBlock]
  rw [eW]
  ·exact hr j x hj
  intro hm
  have hnd:=hs.mem.nodup
  have hbl0:st.s.bl=(st.s.boxes.map Box.b++A.flatMap λr=>aY r.v)++(aY u++B.flatMap λr=>aY r.v):=by have:=sO st.s.boxes A B ⟨u,E,z,n,cs⟩;rw [←hrow] at this;exact this
  rw [hbl0] at hnd
  have hm2:b∈(st.s.boxes.map Box.b++A.flatMap λr=>aY r.v)∨b∈B.flatMap λr=>aY r.v:=by
   unfold Sto.bl at hm;simp only [List.flatMap_append,List.mem_append] at hm⊢
   rcases hm with h|h|h
   ·exact .inl (.inl h)
   ·exact .inl (.inr h)
   exact .inr h
  rcases hm2 with hm2|hm2
  ·exact (List.nodup_append.1 hnd).2.2 b hm2 b (List.mem_append_left _ hbv) Y
  exact (List.nodup_append.1 (List.nodup_append.1 hnd).2.1).2.2 b hbv b hm2 Y
 exact h1.tm j x hx
end
end
section
open Go.RowKit
section
variable {P:Program}{ops:Array Oper}{U Z:List Nat}{o:Oper}{l:List Oper}{n d:Nat}{T:List Nat}{s:Sto}{bx:List Box}{rw:List bA}{ts:List (Nat×AT)}{t:AT}{Q:Exit -> AS -> Prop}{KK:AS -> Prop}{K:AS -> Prop}
theorem wy(hw:fC ops o ⟨n,T,s,ts⟩=some true)(hd:o.dst=some d)(hn:d<n)(hy:AY P [] o ⟨n,T,s,ts⟩ t)(h:eQ P ops l ⟨n,T,s,(d,t)::ts⟩ Q):eQ P ops (o::l) ⟨n,T,s,ts⟩ Q:=aQp hw hd hn hy h
theorem aSb(hw:fC ops o ⟨n,T,s,ts⟩=some false)(hd:o.dst=some d)(hn:d<n)(h:eQ P ops l ⟨n,T,s,(d,.raw undef)::ts⟩ Q):eQ P ops (o::l) ⟨n,T,s,ts⟩ Q:=aJm hw hd hn h
theorem wo(hw:fC ops o ⟨n,T,s,ts⟩=some true)(h:AO P T o ⟨n,T,s,ts⟩ λs=>eQ P ops l s Q):eQ P ops (o::l) ⟨n,T,s,ts⟩ Q:=aQ2 hw h
theorem tk(i:Nat){fuel:Nat}{listed:Array Bool}(hr:(Region.ready .any ops listed).contains i=true)(hi:ops.toList[i]?=some o)(hf:Region.free .any ops listed i=true)(hsel:Region.noSelect ops=true)(hw:fC ops o ⟨n,T,s,ts⟩=some true)(hd:o.dst=some d)(hn:d<n)(hy:AY P (lM s Z) o ⟨n,T,s,ts⟩ t)
  (h:lD P ops Z fuel (listed.setIfInBounds i true) ⟨n,T,s,(d,t)::ts⟩ K):lD P ops Z (fuel+1) listed ⟨n,T,s,ts⟩ K:=aD2 i hr hi hf hsel hw hd hn hy h
theorem one(i:Nat){fuel:Nat}{listed:Array Bool}(hr:Region.ready .any ops listed=[i])(hi:ops.toList[i]?=some o)(hw:fC ops o ⟨n,T,s,ts⟩=some true)
  (h:AO P (lM s Z) o ⟨n,T,s,ts⟩ λs=>lD P ops Z fuel (listed.setIfInBounds i true) s K):lD P ops Z (fuel+1) listed ⟨n,T,s,ts⟩ K:=uU hr rfl (nJ hi hw h pO)
theorem two(i j:Nat){o2:Oper}{fuel:Nat}{listed:Array Bool}(hr:Region.ready .any ops listed=[i,j])(hi:ops.toList[i]?=some o)(hw:fC ops o ⟨n,T,s,ts⟩=some true)(hi2:ops.toList[j]?=some o2)(hw2:fC ops o2 ⟨n,T,s,ts⟩=some true)
  (h:AO P (lM s Z) o ⟨n,T,s,ts⟩ λs=>lD P ops Z fuel (listed.setIfInBounds i true) s K) (h2:AO P (lM s Z) o2 ⟨n,T,s,ts⟩ λs=>lD P ops Z fuel (listed.setIfInBounds j true) s K):lD P ops Z (fuel+1) listed ⟨n,T,s,ts⟩ K:=
 uU hr rfl (nJ hi hw h (nJ hi2 hw2 h2 pO))
theorem aXv{st:AS}(hd:o.dst=some d)(hn:d<st.n)(hy:AY P [] o st t)(h:K {st with ts:=(d,t)::st.ts}):AO P U o st K:=by
 intro a w hs KK QQ hK
 obtain ⟨v,hr,hx⟩:=hy a w hs Bu
 unfold Oper.wp
 rw [hx w (cW.refl _ _),Oper.upon_value,hd]
 exact hK _ _ _ h (hs.put hn hr) ⟨cW.refl _ _,cW.refl _ _,λb hb=>.inl hb,λb hb=>.inl hb⟩ (cW.refl _ _)
theorem aSn{E:TypeId}{x:Operand}{cs:List AC}(ho:o.op=.box E x)(hd:o.dst=some d)(hn:d<n)(hx:evA ⟨n,T,⟨bx,rw⟩,ts⟩ x=some t)(hc:jL t=some cs)
  (h:∀b,K ⟨n,b::T,⟨⟨b,E,cs⟩::bx,rw⟩,(d,.c (.val (.pointer (some ⟨b,0,none⟩))))::ts⟩):AO P U o ⟨n,T,⟨bx,rw⟩,ts⟩ K:=aQf ho hd hn hx hc h
theorem jK{E:TypeId}{z:Value}{cs:List AC}(ho:o.op=.alloc E)(hd:o.dst=some d)(hn:d<n)(hz:∀w,(zeroValue E).run P w=.ok z w)(hc:jL (cst z)=some cs)
  (h:∀b,K ⟨n,b::T,⟨⟨b,E,cs⟩::bx,rw⟩,(d,.c (.val (.pointer (some ⟨b,0,none⟩))))::ts⟩):AO P U o ⟨n,T,⟨bx,rw⟩,ts⟩ K:=aMb ho hd hn hz hc h
section
variable {ty E:TypeId}{x y:Operand}{b off z:Nat}{cs ds r:List AC}{A B:List Box}{x1 x2 x3 x4:Box}
theorem cVt(ho:o.op=.store ty x y)(hd:o.dst=none)(hx:evA ⟨n,T,⟨⟨b,E,cs⟩::B,rw⟩,ts⟩ x=some (.c (.val (.pointer (some ⟨b,off,none⟩)))))(hy:evA ⟨n,T,⟨⟨b,E,cs⟩::B,rw⟩,ts⟩ y=some t)(hc:jL t=some ds)
  (hS:∀w,(sizeOf ty).run P w=.ok z w) (hz:ds.length=z) (hl:off+z <= cs.length) (hr:splice cs off ds=r) (hT:b∈T) (hU:(⟨⟨b,E,cs⟩::B,rw⟩:Sto).bl.Nodup -> b∈U) (h:K ⟨n,T,⟨⟨b,E,r⟩::B,rw⟩,ts⟩):AO P U o ⟨n,T,⟨⟨b,E,cs⟩::B,rw⟩,ts⟩ K:=zQ [] ho hd hx hy hc rfl hS hz hl hr hT hU h
end
theorem wbs{E:TypeId}{e:TypeId}(i:TypeInfo){z:Value}{len:Nat}{parts:Array (Nat×Operand)}{ps:List (Nat×AT)}(zc:List AC){r:List AC}(ho:o.op=.buildSlice E len parts)(hd:o.dst=some d)(hn:d<n)(hps:EvP ⟨n,T,s,ts⟩ parts.toList ps)
  (hu:P.underlying E=some (.slice e)) (hi:P.info? e=some i) (hz:i.zero=some z) (hsmall:¬len*i.size>2 ^ 24) (hpos:¬len*i.size=0) (hzc:(((Array.range (len*i.size)).map (z.cells[·% z.cells.size]!)).toList.all (·.oneCell'))=true) (hzr:((Array.range (len*i.size)).map (z.cells[·% z.cells.size]!)).toList.map .val=zc)
  (hf:qO (λk=>some (k*i.size,i.size)) zc ps=some r) (h:K ⟨n,T,s,(d,.c (.sl len r))::ts⟩):AO P U o ⟨n,T,s,ts⟩ K:=aAw i ho hd hn hps hu hi hz hsmall hpos hzc hzr hf h
theorem bFe{E e:TypeId}{x y:Operand}{k m z:Nat}{v zv:Value}{cs ds r:List AC}(i:TypeInfo)(bytes:Nat){B:List bA}(ho:o.op=.call {callee:=.builtin .append,args:=#[x,y],argTypes:=#[E,E]})(hd:o.dst=some d)(hn:d<n)
  (hx:evA ⟨n,T,⟨bx,⟨v,e,z,k,cs⟩::B⟩,ts⟩ x=some (.c (.val v))) (hy:evA ⟨n,T,⟨bx,⟨v,e,z,k,cs⟩::B⟩,ts⟩ y=some (.c (.sl m ds))) (hu:P.underlying E=some (.slice e)) (hi:P.info? e=some i) (hz:i.zero=some zv) (hsz:i.size=z) (hby:i.bytes=bytes) (hzs:zv.cells.size=z) (h0:0<z)
  (hm:ds.length=m*z) (hm0:0<m) (hlen:k+m <= maxLen) (hbytes:(k+m)*bytes <= 140737488355328) {N:Nat} (hN:k+m=N) (hU:(⟨bx,⟨v,e,z,k,cs⟩::B⟩:Sto).bl.Nodup -> ∀b,b∈aY v -> b∈U) (hT:∀b,b∈aY v -> b∈T) (hr:cs++ds=r)
  (h:∀v',K ⟨n,aY v'++T,⟨bx,⟨v',e,z,N,r⟩::B⟩,(d,.c (.val v'))::ts⟩):AO P U o ⟨n,T,⟨bx,⟨v,e,z,k,cs⟩::B⟩,ts⟩ K:=by
 subst hr;subst hN
 exact aBj [] ho hd hn hx Y hy hu hi hz hsz hby hzs h0 hm hm0 hlen hbytes hU hT h
theorem bD{F:FuncId}{ars:Array Operand}{tys:Array TypeId}{us:List AT}(T':List Nat){QQ:AT -> Sto -> Prop}(ho:o.op=.call {callee:=.value (.func F),args:=ars,argTypes:=tys})(hd:o.dst=some d)(hn:d<n)
  (hcf:∀args w,(callFunc F args).run P w=.ok (.enter F args) w) (has:ars.toList.map (evA ⟨n,T,s,ts⟩)=us.map some) (hc:aL P F us T' s QQ) (hT:∀b,b∈T' -> b∈T) (hTb:∀b,b∈T' -> b∈s.bl) (hU:s.bl.Nodup -> ∀b,b∈T' -> b∈U)
  (h:∀r s',QQ r s' -> K ⟨n,T,s',(d,r)::ts⟩):AO P U o ⟨n,T,s,ts⟩ K:=aOs T' ho hd hn hcf has hc hT hTb hU h
theorem cQf{bx':List Box}{rw':List bA}{T':List Nat}{ts':List (Nat×AT)}(h3:∀b,b∈T' -> b∈T)(h1:bx'.Sublist bx:=by exact (.refl _))(h2:rw'.Sublist rw:=by exact (.refl _))(h:Sub ⟨n,T',⟨bx',rw'⟩,ts⟩ ⟨n,T',⟨bx',rw'⟩,ts'⟩:=by exact (sA rfl)):Sub ⟨n,T,⟨bx,rw⟩,ts⟩ ⟨n,T',⟨bx',rw'⟩,ts'⟩:=
 Sub.trans (vU (st:=⟨n,T,⟨bx,rw⟩,ts⟩) (s':=⟨bx',rw'⟩) (aA h1 h2)) (Sub.trans (aPw (st:=⟨n,T,⟨bx',rw'⟩,ts⟩) T' h3) h)
theorem lU{b:Nat}(h:b∈s.bl):b∈lM s []:=kH.2 ⟨h,G0⟩
theorem aN9{st:AS}(i:Nat){u t:AT}(hl:look st.ts i=some u)(hw:Wk u t):Sub st {st with ts:=(i,t)::st.ts}:=λa w hs=>by
 refine ⟨⟨hs.df,hs.sz,λj x hx=>?_,hs.mem⟩,λ_ h=>h,λ_ h=>h⟩
 simp only [look] at hx
 split at hx
 ·rename_i he;subst he;cases hx
  obtain ⟨v,e1,e2⟩:=hs.tm i u hl
  exact ⟨v,e1,hw _ _ e2⟩
 exact hs.tm j x hx
theorem eA(i:Nat){u t:AT}(hl:look ts i=some u)(hw:Wk u t)(h:eQ P ops l ⟨n,T,s,(i,t)::ts⟩ Q):eQ P ops l ⟨n,T,s,ts⟩ Q:=uQ (aN9 (st:=⟨n,T,s,ts⟩) i hl hw) h
theorem qR(E:TypeId)(z:Nat){c:Code}(h:AWp P c ⟨n,T,⟨bx,⟨.slice none 0 0,E,z,0,[]⟩::rw⟩,ts⟩ Q):AWp P c ⟨n,T,⟨bx,rw⟩,ts⟩ Q:=zU (aOb (st:=⟨n,T,⟨bx,rw⟩,ts⟩) E z) h
theorem aH0(i:Nat){c:Code}{v:Value}{E:TypeId}{z k:Nat}{cs:List AC}(hi:look ts i=some (.c (.val v)))(h:AWp P c ⟨n,T,⟨bx,rw⟩,(i,.c (.sl k cs))::ts⟩ Q)(hz:0<z:=by decide):AWp P c ⟨n,T,⟨bx,⟨v,E,z,k,cs⟩::rw⟩,ts⟩ Q:=
 zU (yS (st:=⟨n,T,⟨bx,⟨v,E,z,k,cs⟩::rw⟩,ts⟩) (A:=[]) i hi rfl hz) h
theorem rX{y:Code}{st:AS}(h:AWp P y st Q):sU (λs=>AWp P y s Q) Q .normal st:=h
theorem aLr{st:AS}{id:Nat}(h:Q .normal st):InB id Q (.exit id) st:=by show (if id=id then _ else _);rw [if_pos rfl];exact h
theorem aK1{st:AS}{id id':Nat}(hne:id'≠id)(h:Q (.exit id') st):InB id Q (.exit id') st:=by show (if id'=id then _ else _);rw [if_neg hne];exact h
theorem aM9{c:Operand}{x y:Code}{st:AS}{b:Bool}(hc:evA st c=some (.c (.val (.bool b))))(hb:b=true)(h:AWp P x st Q):AWp P (.cond c x y) st Q:=gY hc (λ_=>h) (λh=>by rw [hb] at h;cases h)
theorem aMs{c:Operand}{x y:Code}{st:AS}{b:Bool}(hc:evA st c=some (.c (.val (.bool b))))(hb:b=false)(h:AWp P y st Q):AWp P (.cond c x y) st Q:=gY hc (λh=>by rw [hb] at h;cases h) (λ_=>h)
theorem wrap64{m:Int}(h1:-9223372036854775808 <= m)(h2:m <= 9223372036854775807):IntKind.i64.wrap m=m:=IntWalk.i64_in _ ⟨h1,h2⟩
theorem bB{st:AS}{E yt:TypeId}{x y:Operand}{m k:Int}(ho:o.op=.binOp .add E x y yt)(hx:evA st x=some (.c (.val (.int .i64 m))))(hy:evA st y=some (.c (.val (.int .i64 k))))(h1:-9223372036854775808 <= m+k)(h2:m+k <= 9223372036854775807):AY P U o st (.c (.val (.int .i64 (m+k)))):=
 vK ho hx hy (by simp only [aC9,wrap64 h1 h2])
theorem qC{st:AS}{E yt:TypeId}{x y:Operand}{m k:Int}(ho:o.op=.binOp .sub E x y yt:=by exact rfl)(hx:evA st x=some (.c (.val (.int .i64 m))):=by exact rfl)(hy:evA st y=some (.c (.val (.int .i64 k))):=by exact rfl)(h1:-9223372036854775808 <= m-k:=by omega)(h2:m-k <= 9223372036854775807:=by omega):AY P U o st (.c (.val (.int .i64 (m-k)))):=
 vK ho hx hy (by simp only [aC9,wrap64 h1 h2])
theorem aB5{α:Type}(enc:α -> List AC)(z:Nat)(hz:∀x,(enc x).length=z):∀(l:List α)(k:Nat)(hk:k<l.length),(l.flatMap enc).drop (k*z)=enc l[k]++(l.drop (k+1)).flatMap enc
 |[],k,hk=>absurd hk G0
 |x::l,0,_=>G0
 |x::l,k+1,hk=>by
  have ih:=aB5 enc z hz l k Cz
  rw [List.flatMap_cons,List.drop_append,List.drop_of_length_le (by rw [hz,Nat.succ_mul];omega),hz,List.nil_append]
  have e:(k+1)*z-z=k*z:=by rw [Nat.succ_mul];omega
  rw [e,ih];simp
theorem aFz{α:Type}(enc:α -> List AC)(z:Nat)(hz:∀x,(enc x).length=z):∀l:List α,(l.flatMap enc).length=l.length*z
 |[]=>G0
 |x::l=>by rw [List.flatMap_cons,List.length_append,hz,aFz enc z hz l,List.length_cons,Nat.succ_mul];omega
theorem bH{st:AS}{E e:TypeId}{x y:Operand}{z:Nat}{α:Type}(enc enc':α -> List AC)(lst:List α)(hz:∀x,(enc x).length=z)(he:∀x,enc x=enc' x){k:IntKind}{i:Int}(j:Nat)(ho:o.op=.indexAddr E x y)(hx:evA st x=some (.c (.sl lst.length (lst.flatMap enc))))(hy:evA st y=some (.c (.val (.int k i))))(hi:i=j)(hj:j<lst.length)(h0:0<z)
  (hu:∀w,(underlying E).run P w=.ok (.slice e) w) (hS:∀w,(sizeOf e).run P w=.ok z w):AY P U o st (.el (enc' lst[j]++(lst.drop (j+1)).flatMap enc)):=by
 have h:=wX (P:=P) (U:=U) j ho hx hy hi hj (by rw [aFz enc z hz];exact Nat.mul_lt_mul_of_pos_right hj h0) hu hS
 rw [aB5 enc z hz lst j hj,he] at h
 exact h
theorem zC{cs ds:List AC}(h:ds.length=cs.length):splice cs 0 ds=ds:=by unfold splice;simp [h]
theorem aOq{ag:Bool}{z:Nat}{cs R:List AC}(h:cs.length=z)(ha:ag=true):pk ag z (cs++R) 0=some (.agg cs):=by
 subst ha;subst h
 simp [pk]
theorem bK{ag:Bool}{z:Nat}{cs:List AC}(h:cs.length=z)(ha:ag=true):pk ag z cs 0=some (.agg cs):=by
 subst ha;subst h
 simp [pk]
end
theorem WkL.r{x:AC}{xs ys:List AC}(h:WkL xs ys):WkL (x::xs) (x::ys):=.cons (WkC.refl _) h
theorem WkL.n{xs ys:List AC}(h:WkL xs ys):WkL (.val (.slice none 0 0)::xs) (.sl 0 []::ys):=.cons aQl h
section
variable {P:Program}{ops:Array Oper}{U Z:List Nat}{o:Oper}{n d:Nat}{T:List Nat}{s:Sto}{ts:List (Nat×AT)}{Q:Exit -> AS -> Prop}{l:List Oper}{t:AT}{st:AS}
theorem wmv{x:Operand}(hw:fC ops o ⟨n,T,s,ts⟩=some true)(ho:o.op=.move x)(hd:o.dst=some d)(hn:Nat.blt d n=true)(hx:evA ⟨n,T,s,ts⟩ x=some t)(h:eQ P ops l ⟨n,T,s,(d,t)::ts⟩ Q):eQ P ops (o::l) ⟨n,T,s,ts⟩ Q:=wy hw hd (Nat.le_of_ble_eq_true hn) (lW ho hx) h
theorem wag{x:Operand}(hw:fC ops o ⟨n,T,s,ts⟩=some true)(ho:o.op=.assign x)(hd:o.dst=some d)(hn:Nat.blt d n=true)(hx:evA ⟨n,T,s,ts⟩ x=some t)(h:eQ P ops l ⟨n,T,s,(d,t)::ts⟩ Q):eQ P ops (o::l) ⟨n,T,s,ts⟩ Q:=wy hw hd (Nat.le_of_ble_eq_true hn) (aCd ho hx) h
theorem wyy(hw:fC ops o ⟨n,T,s,ts⟩=some true)(hd:o.dst=some d)(hn:Nat.blt d n=true)(hy:AY P [] o ⟨n,T,s,ts⟩ t)(h:eQ P ops l ⟨n,T,s,(d,t)::ts⟩ Q):eQ P ops (o::l) ⟨n,T,s,ts⟩ Q:=wy hw hd (Nat.le_of_ble_eq_true hn) hy h
theorem aY9{y:Code}(h:AWp P y st Q):eQ P ops [] st (sU (λs=>AWp P y s Q) Q):=aD1 (rX h)
theorem aX3{id:Nat}{l:List Oper}{y:Code}(h:eQ P l.toArray l st (sU (λs=>AWp P y s Q) Q)):AWp P (.seq (.region id l.toArray false) y) st Q:=aHp (aCg h)
theorem nx{id:Nat}{l:List Oper}{y:Code}(h:eQ P l.toArray l st (sU (λs=>AWp P y s Q) Q)):eQ P ops [] st (sU (λs=>AWp P (.seq (.region id l.toArray false) y) s Q) Q):=aY9 (aX3 h)
theorem bDj{p:Nat}{L:List Nat}(h:p∈L:=by simp):∀b,b∈[p] -> b∈L:=by intro b hb;simp at hb;subst hb;exact h
theorem wcP{p:Nat}{F:FuncId}{ars:Array Operand}{tys:Array TypeId}{us:List AT}{QQ:AT -> Sto -> Prop}(hw:fC ops o ⟨n,T,s,ts⟩=some true)(ho:o.op=.call {callee:=.value (.func F),args:=ars,argTypes:=tys})(hd:o.dst=some d)(hn:Nat.blt d n=true)
  (hcf:∀args w,(callFunc F args).run P w=.ok (.enter F args) w) (has:ars.toList.map (evA ⟨n,T,s,ts⟩)=us.map some) (hc:aL P F us [p] s QQ) (hT:p∈T) (hTb:p∈s.bl)
  (h:∀r s',QQ r s' -> eQ P ops l ⟨n,T,s',(d,r)::ts⟩ Q):eQ P ops (o::l) ⟨n,T,s,ts⟩ Q:=wo hw (bD [p] ho hd (Nat.le_of_ble_eq_true hn) hcf has hc (bDj (h:=hT)) (bDj (h:=hTb)) (λ_=>bDj (h:=hT)) h)
theorem wcQ{p:Nat}{F:FuncId}{ars:Array Operand}{tys:Array TypeId}{us:List AT}{QQ:AT -> Sto -> Prop}(h0:(fC ops o ⟨n,T,s,ts⟩,o.op,o.dst,Nat.blt d n)=(some true,.call {callee:=.value (.func F),args:=ars,argTypes:=tys},some d,true))
  (hcf:∀args w,(callFunc F args).run P w=.ok (.enter F args) w) (has:ars.toList.map (evA ⟨n,T,s,ts⟩)=us.map some) (hc:aL P F us [p] s QQ)
  (h:∀r s',QQ r s' -> eQ P ops l ⟨n,T,s',(d,r)::ts⟩ Q) (hT:p∈T:=by simp) (hTb:p∈s.bl:=by simp [Sto.bl]):eQ P ops (o::l) ⟨n,T,s,ts⟩ Q:=by
 simp only [Prod.mk.injEq] at h0
 exact wcP h0.1 h0.2.1 h0.2.2.1 h0.2.2.2 hcf has hc hT hTb h
theorem wyz(h0:(fC ops o ⟨n,T,s,ts⟩,o.dst,Nat.blt d n)=(some true,some d,true))(hy:AY P [] o ⟨n,T,s,ts⟩ t)(h:eQ P ops l ⟨n,T,s,(d,t)::ts⟩ Q):eQ P ops (o::l) ⟨n,T,s,ts⟩ Q:=by
 simp only [Prod.mk.injEq] at h0
 exact wyy h0.1 h0.2.1 h0.2.2 hy h
theorem tq(i:Nat){fuel:Nat}{listed:Array Bool}{Q:AS -> Prop}(hr:((Region.ready .any ops listed).contains i && Region.free .any ops listed i && Region.noSelect ops)=true)(hi:ops.toList[i]?=some o)
  (hw:fC ops o ⟨n,T,s,ts⟩=some true) (hd:o.dst=some d) (hn:Nat.blt d n=true) (hy:AY P (lM s Z) o ⟨n,T,s,ts⟩ t) (h:lD P ops Z fuel (listed.setIfInBounds i true) ⟨n,T,s,(d,t)::ts⟩ Q):lD P ops Z (fuel+1) listed ⟨n,T,s,ts⟩ Q:=by
 simp only [Bool.and_eq_true] at hr
 exact tk i hr.1.1 hi hr.1.2 hr.2 hw hd (Nat.le_of_ble_eq_true hn) hy h
theorem tr(i:Nat){fuel:Nat}{listed:Array Bool}{Q:AS -> Prop}(hr:((Region.ready .any ops listed).contains i && Region.free .any ops listed i && Region.noSelect ops)=true)
  (h0:(ops.toList[i]?,fC ops o ⟨n,T,s,ts⟩,o.dst,Nat.blt d n)=(some o,some true,some d,true)) (hy:AY P (lM s Z) o ⟨n,T,s,ts⟩ t) (h:lD P ops Z fuel (listed.setIfInBounds i true) ⟨n,T,s,(d,t)::ts⟩ Q):lD P ops Z (fuel+1) listed ⟨n,T,s,ts⟩ Q:=by
 simp only [Prod.mk.injEq] at h0
 exact tq i hr h0.1 h0.2.1 h0.2.2.1 h0.2.2.2 hy h
theorem wad{E yt:TypeId}{x y:Operand}{m k:Int}(h0:(fC ops o ⟨n,T,s,ts⟩,o.dst,Nat.blt d n,o.op,evA ⟨n,T,s,ts⟩ x,evA ⟨n,T,s,ts⟩ y)=(some true,some d,true,.binOp .add E x y yt,some (.c (.val (.int .i64 m))),some (.c (.val (.int .i64 k)))))
  (h:eQ P ops l ⟨n,T,s,(d,.c (.val (.int .i64 (m+k))))::ts⟩ Q) (h1:-9223372036854775808 <= m+k:=by omega) (h2:m+k <= 9223372036854775807:=by omega):eQ P ops (o::l) ⟨n,T,s,ts⟩ Q:=by
 simp only [Prod.mk.injEq] at h0
 exact wyy h0.1 h0.2.1 h0.2.2.1 (bB h0.2.2.2.1 h0.2.2.2.2.1 h0.2.2.2.2.2 h1 h2) h
theorem wc0{F:FuncId}{ars:Array Operand}{tys:Array TypeId}{us:List AT}{QQ:AT -> Sto -> Prop}(h0:(fC ops o ⟨n,T,s,ts⟩,o.op,o.dst,Nat.blt d n)=(some true,.call {callee:=.value (.func F),args:=ars,argTypes:=tys},some d,true))
  (hcf:∀args w,(callFunc F args).run P w=.ok (.enter F args) w) (has:ars.toList.map (evA ⟨n,T,s,ts⟩)=us.map some) (hc:aL P F us [] s QQ) (h:∀r s',QQ r s' -> eQ P ops l ⟨n,T,s',(d,r)::ts⟩ Q):eQ P ops (o::l) ⟨n,T,s,ts⟩ Q:=by
 simp only [Prod.mk.injEq] at h0
 exact wo h0.1 (bD [] h0.2.1 h0.2.2.1 (Nat.le_of_ble_eq_true h0.2.2.2) hcf has hc Bu Bu (λ_ _ h=>DV) h)
theorem acB{F:FuncId}{fn:Func}{c:Code}{args:List AT}{Q:AT -> Sto -> Prop}(hf:P.funcs[F]?=some fn)(hb:(fn.body,Nat.ble args.length fn.ntmps)=(some c,true))
  (h:AWp P c ⟨fn.ntmps,T,s,aCr 0 args⟩ λe st=>(e=.normal∨e=.ret) /\ ∃r s',aEt P fn st r /\ aAz st.s s' /\ Q r s'):aL P F args T s Q:=by
 simp only [Prod.mk.injEq] at hb
 exact aD hf hb.1 (Nat.le_of_ble_eq_true hb.2) h
theorem acX(m:Nat){F:FuncId}{fn:Func}{c:Code}{args:List AT}{Q:AT -> Sto -> Prop}(hf:P.funcs[F]?=some fn)
  (h:AWp P c ⟨m,T,s,ts⟩ λe st=>(e=.normal∨e=.ret) /\ ∃r s',aEt P fn st r /\ aAz st.s s' /\ Q r s') (hb:(fn.body,fn.ntmps,Nat.ble args.length fn.ntmps)=(some c,m,true):=by exact rfl) (ht:aCr 0 args=ts:=by dsimp only [aCr,Nat.reduceAdd]):aL P F args T s Q:=by
 simp only [Prod.mk.injEq] at hb
 obtain ⟨h1,rfl,h3⟩:=hb
 subst ht
 exact aD hf h1 (Nat.le_of_ble_eq_true h3) h
theorem sb0{s:Sto}:aAz s s:=aAz.refl s
theorem sb1{x:Box}{B:List Box}{r:List bA}:aAz ⟨x::B,r⟩ ⟨B,r⟩:=aA (.cons _ (.refl _)) (.refl _)
theorem sb2{x y:Box}{B:List Box}{r:List bA}:aAz ⟨x::y::B,r⟩ ⟨B,r⟩:=aA (.cons _ (.cons _ (.refl _))) (.refl _)
theorem sA{ts':List (Nat×AT)}(h:ts'.map (λp=>look st.ts p.1)=ts'.map (λp=>some p.2)):Sub st {st with ts:=ts'}:=by
 induction ts' with
 |nil=>exact aOg
 |cons p ts' ih=>
  simp only [List.map_cons,List.cons.injEq] at h
  exact aG h.1 (Wk.refl _) (ih h.2)
theorem wcp{op:BinOp}{k:IntKind}{E yt:TypeId}{x y:Operand}{m q:Int}(r:Bool)(h0:(fC ops o ⟨n,T,s,ts⟩,o.dst,Nat.blt d n,o.op,evA ⟨n,T,s,ts⟩ x,evA ⟨n,T,s,ts⟩ y)=(some true,some d,true,.binOp op E x y yt,some (.c (.val (.int k m))),some (.c (.val (.int k q)))))(hr:bC op m q=some r)
  (h:eQ P ops l ⟨n,T,s,(d,.c (.val (.bool r)))::ts⟩ Q):eQ P ops (o::l) ⟨n,T,s,ts⟩ Q:=by
 simp only [Prod.mk.injEq] at h0
 exact wyy h0.1 h0.2.1 h0.2.2.1 (bO r h0.2.2.2.1 h0.2.2.2.2.1 h0.2.2.2.2.2 hr) h
abbrev pP(b:Nat):AT:=.c (.val (.pointer (some ⟨b,0,none⟩)))
abbrev Sq{α:Type}(f:α -> List AC)(l:List α):AC:=.sl l.length (l.flatMap f)
abbrev Nl:AC:=.val (.slice none 0 0)
abbrev Vi(x:Int):AC:=.val (.int .i64 x)
abbrev Vs(x:ByteArray):AC:=.val (.string x)
abbrev Vb(x:Bool):AC:=.val (.bool x)
abbrev Vm(g:Nat):AC:=.val (.map (some g))
abbrev Ci(x:Int):AT:=.c (.val (.int .i64 x))
abbrev Cs(x:ByteArray):AT:=.c (.val (.string x))
abbrev Cb(x:Bool):AT:=.c (.val (.bool x))
abbrev Cv(v:Value):AT:=.c (.val v)
abbrev nC(k:Nat):AC:=.val (.int .i64 ((k:Nat):Int))
abbrev nI(k:Nat):AT:=.c (.val (.int .i64 ((k:Nat):Int)))
theorem cB{fn:Func}{st:AS}{r:AT}{s':Sto}{K:AT -> Sto -> Prop}{rv:ResultVar}{e:Exit}(he:e=.normal∨e=.ret)(h1:fn.results=#[rv])(h2:aAc P st rv r)(hs:aAz st.s s')(hk:K r s'):(e=.normal∨e=.ret) /\ ∃r s',aEt P fn st r /\ aAz st.s s' /\ K r s':=⟨he,r,s',aR h1 h2,hs,hk⟩
theorem bHe{fn:Func}{st:AS}{r:AT}{s':Sto}{K:AT -> Sto -> Prop}{t:Tmp}(h1:(fn.results,look st.ts t)=(#[.tmp t],some r))(hs:aAz st.s s')(hk:K r s'):(Exit.ret=.normal∨Exit.ret=.ret) /\ ∃r s',aEt P fn st r /\ aAz st.s s' /\ K r s':=by
 simp only [Prod.mk.injEq] at h1
 exact cB (.inr Y) h1.1 (aF h1.2) hs hk
theorem bDl{L:List Nat}:∀b,b∈([]:List Nat) -> b∈L:=λ_ h=>DV
end
end
end Go.Proofs.YtjgeihmhppadaaaGreatDoor
