import Derived.Test.YtjgeihmhppadaaaGreatDoorRG3J
import Derived.Test.YtjgeihmhppadaaaGreatDoorRows
import Derived.Test.YtjgeihmhppadaaaGreatDoorRShelfJ
set_option linter.all false
set_option synthInstance.maxHeartbeats 1000000
set_option synthInstance.maxSize 1000000
set_option maxHeartbeats 1600000
set_option maxRecDepth 100000
namespace Go.Proofs.YtjgeihmhppadaaaGreatDoor
open Go.Proofs.Tryz
open List (length_append length_cons length_nil mem_append mem_cons not_mem_nil append_assoc getElem_mem take_of_length_le)
section
open Go.RowKit
open Go.ChangeMaps (setBlock)
def wid(m:Nat):Nat:=if m=0 then 1 else m
def cBz{α:Type}(ev:α -> List AC)(l:List (ByteArray×α)):List AC:=l.flatMap λp=>Vs p.1::ev p.2
abbrev cR3{α:Type}(g m:Nat)(ev:α -> List AC)(l:List (ByteArray×α)):bA:=⟨bWn g,m,0,l.length,cBz ev l⟩
def bZu{α:Type}:List (ByteArray×α) -> ByteArray -> Option α
 |[],_=>none
 |p::l,k=>if p.1=k then some p.2 else bZu l k
def bZq{α:Type}:List (ByteArray×α) -> ByteArray -> α -> List (ByteArray×α)
 |[],k,a=>[(k,a)]
 |p::l,k,a=>if p.1=k then (k,a)::l else p::bZq l k a
def bZy{α:Type}:List (ByteArray×α) -> ByteArray -> List (ByteArray×α)
 |[],_=>[]
 |p::l,k=>if p.1=k then l else p::bZy l k
inductive cAi {α:Type} (w:World) (m:Nat) (ev:α -> List AC):List MapEntry -> List (ByteArray×α) -> Prop
 |nil:cAi w m ev [] []
 |cons {e:MapEntry} {k:ByteArray} {a:α} {L:List MapEntry} {l:List (ByteArray×α)} (hk:e.key=.string k) (hv:fG w (ev a) e.val.cells.toList) (hm:bWl m e) (t:cAi w m ev L l):cAi w m ev (e::L) ((k,a)::l)
section
variable {α:Type}{w:World}{m:Nat}{ev:α -> List AC}
theorem bWl.wid{e:MapEntry}(h:bWl m e):e.val.cells.toList.length=wid m:=by
 obtain ⟨-,h⟩:=h
 unfold Go.Proofs.YtjgeihmhppadaaaGreatDoor.wid
 split at h
 ·rename_i h0
  rw [if_pos h0]
  cases hv:e.val<;>rw [hv] at h<;>first|rfl|cases h
 rename_i h0
 rw [if_neg h0]
 obtain ⟨us,e1,e2⟩:=h
 rw [e1];simpa [Value.cells] using e2
theorem cAi.len{L:List MapEntry}{l:List (ByteArray×α)}(h:cAi w m ev L l):L.length=l.length:=by
 induction h with
 |nil=>rfl
 |cons _ _ _ _ ih=>simp [ih]
theorem cAi.ok{L:List MapEntry}{l:List (ByteArray×α)}(h:cAi w m ev L l):∀e,e∈L -> bWl m e:=by
 induction h with
 |nil=>intro e h;cases h
 |cons _ _ hm _ ih=>intro e h;rcases mem_cons.1 h with rfl|h;exact hm;exact ih e h
theorem cAi.rep{L:List MapEntry}{l:List (ByteArray×α)}(h:cAi w m ev L l):fG w (cBz ev l) (L.flatMap bXj):=by
 induction h with
 |nil=>exact .nil _
 |cons hk hv hm t ih=>
  unfold cBz at ih⊢
  rw [List.flatMap_cons,List.flatMap_cons]
  refine fG.app ?_ ih
  unfold bXj
  rw [hk]
  exact .cons (.val _ Y) hv
theorem cAi.mono{w':World}(hm:Up2 w w'){L:List MapEntry}{l:List (ByteArray×α)}(h:cAi w m ev L l):cAi w' m ev L l:=by
 induction h with
 |nil=>exact .nil
 |cons hk hv h t ih=>exact .cons hk (hv.mono hm) h ih
theorem cC4{v u:Value}(h:Rep w (.val v) u):u=v:=by cases h;rfl
theorem cC0(hev:∀a,(ev a).length=wid m):∀{L:List MapEntry} {l:List (ByteArray×α)},L.length=l.length -> (∀e,e∈L -> bWl m e) -> fG w (cBz ev l) (L.flatMap bXj) -> cAi w m ev L l
 |[],[],_,_,_=>.nil
 |e::L,[],h,_,_=>DU
 |[],p::l,h,_,_=>DU
 |e::L,(k,a)::l,h,hm,hr=>by
  have hme:=hm e G0
  have e1:cBz ev ((k,a)::l)=(Vs k::ev a)++cBz ev l:=by unfold cBz;rw [List.flatMap_cons]
  have e2:(e::L).flatMap bXj=bXj e++L.flatMap bXj:=List.flatMap_cons
  have l1:(AC.val (.string k)::ev a).length=wid m+1:=by rw [length_cons,hev]
  have l2:(bXj e).length=wid m+1:=by unfold bXj;rw [length_cons,hme.wid]
  have hA:=hr.take (wid m+1)
  have hB:=hr.drop (wid m+1)
  rw [e1,e2,List.take_left' l1,List.take_left' l2] at hA
  rw [e1,e2,List.drop_left' l1,List.drop_left' l2] at hB
  have h0:=hA.at_ 0 G0 (by unfold bXj;simp)
  have hk:e.key=.string k:=cC4 h0
  have hv:fG w (ev a) e.val.cells.toList:=by
   have h9:=hA.drop 1
   unfold bXj at h9
   simpa using h9
  exact .cons hk hv hme (cC0 hev Er (λx hx=>hm x (List.mem_cons_of_mem _ hx)) hB)
theorem cAi.find{L:List MapEntry}{l:List (ByteArray×α)}(h:cAi w m ev L l)(k:ByteArray):∀i:Nat,
  (bZu l k=none /\ Instr.findNow .string (.string k) L i=some none /\ (∀a,bZq l k a=l++[(k,a)]) /\ bZy l k=l)∨
  ∃j e a,bZu l k=some a /\ Instr.findNow .string (.string k) L i=some (some (i+j,e.val)) /\ L[j]?=some e /\ e.key=.string k /\ fG w (ev a) e.val.cells.toList /\ bWl m e /\ j<L.length /\ cAi w m ev (L.eraseIdx j) (bZy l k) /\ (bZq l k a).length=l.length /\ ∀a' e',e'.key=.string k -> fG w (ev a') e'.val.cells.toList -> bWl m e' -> cAi w m ev (L.set j e') (bZq l k a'):=by
 induction h with
 |nil=>intro i;exact .inl ⟨rfl,rfl,λ_=>rfl,rfl⟩
 |@cons e k' a L l hk hv hm t ih=>
  intro i
  by_cases hkk:k'=k
  ·subst hkk
   refine .inr ⟨0,e,a,by unfold bZu;rw [if_pos rfl],?_,Y,hk,hv,hm,G0,by unfold bZy;rw [if_pos rfl];exact t,by unfold bZq;rw [if_pos rfl];try rfl,λa' e' h1 h2 h3=>by unfold bZq;rw [if_pos rfl];exact .cons h1 h2 h3 t⟩
   unfold Instr.findNow
   rw [hk]
   simp [Instr.sameNow,(MapKept.bytes_beq k' k').2 rfl]
  have hb:(k == k')=false:=by
   cases hc:k == k' with
   |false=>rfl
   |true=>exact absurd ((MapKept.bytes_beq k k').1 hc).symm hkk
  have hf:Instr.findNow .string (.string k) (e::L) i=Instr.findNow .string (.string k) L (i+1):=by
   conv=>lhs;unfold Instr.findNow
   rw [hk]
   simp [Instr.sameNow,hb]
  rcases ih (i+1) with ⟨h1,h2,h3,h4⟩|⟨j,e0,a0,h1,h2,h3,h4,h5,h6,h7,h8,h9,h10⟩
  ·exact .inl ⟨by unfold bZu;rw [if_neg hkk];exact h1,by rw [hf,h2],λa'=>by unfold bZq;rw [if_neg hkk,h3];rfl,by unfold bZy;rw [if_neg hkk,h4]⟩
  refine .inr ⟨j+1,e0,a0,by unfold bZu;rw [if_neg hkk];exact h1,by rw [hf,h2];congr 3;omega,DL,h4,h5,h6,DR,by unfold bZy;rw [if_neg hkk,List.eraseIdx_cons_succ];exact .cons hk hv hm h8,by unfold bZq;rw [if_neg hkk,length_cons,length_cons,h9],λa' e' g1 g2 g3=>by unfold bZq;rw [if_neg hkk,List.set_cons_succ];exact .cons hk hv hm (h10 a' e' g1 g2 g3)⟩
theorem cAi.snoc{L:List MapEntry}{l:List (ByteArray×α)}(h:cAi w m ev L l){e:MapEntry}{k:ByteArray}{a:α}(hk:e.key=.string k)(hv:fG w (ev a) e.val.cells.toList)(hm:bWl m e):cAi w m ev (L++[e]) (l++[(k,a)]):=by
 induction h with
 |nil=>exact .cons hk hv hm .nil
 |cons hk' hv' hm' t ih=>exact .cons hk' hv' hm' ih
theorem Mem.mapAt{s:Sto}{w:World}(h:Mem s w){g:Nat}{l:List (ByteArray×α)}(hr:cR3 g m ev l∈s.rows)(hev:∀a,(ev a).length=wid m):∃(es:Array MapEntry) (clock:Nat),w.heap[g]?=some (.map es clock) /\ cAi (bI s.bl w) m ev es.toList l:=by
 obtain ⟨us,h1,h2⟩:=h.row _ hr
 rcases h1 with ⟨-,h1⟩|⟨-,g',es,cl,e1,e2,e3,e4,e5⟩
 ·rcases h1 with ⟨h1,-⟩|⟨g',cap,cur,h1,-⟩
  ·cases h1
  cases h1
 cases e1
 refine ⟨es,cl,e2,cC0 hev (by simpa using e3) e5 ?_⟩
 rw [←e4];exact h2
end
theorem bZw(g:Nat):aY (bWn g)=[g]:=rfl
section
variable {P:Program}{U T:List Nat}{o:Oper}{n d:Nat}{bx:List Box}{rw:List bA}{ts:List (Nat×AT)}{K:AS -> Prop}{st:AS}{α:Type}{m:Nat}{ev:α -> List AC}
theorem bZ6{w:World}{kt:TypeId}(hk:P.underlying kt=some .string){k:ByteArray}{L:List MapEntry}{r:Option (Nat×Value)}(h:Instr.findNow .string (.string k) L 0=some r):(Instr.findKey kt (.string k) L).run P w=.ok r w:=MapKept.run_findKey hk h
theorem bZ8{w:World}{kt:TypeId}(hk:P.underlying kt=some .string)(k:ByteArray)(e:Bool):(Instr.checkKey e 10000 kt (.string k)).run P w=.ok () w:=MapKept.run_checkKey hk (d:=.string) (k:=.string k) trivial e 9999
theorem cBa{w:World}{t kt et:TypeId}{g:Nat}{es:Array MapEntry}{clock:Nat}{k:ByteArray}{w0:World}{l:List (ByteArray×α)}(ht:P.underlying t=some (.map kt et))(hk:P.underlying kt=some .string){z:Value}(hz:(zeroValue et).run P w=.ok z w)(hb:w.heap[g]?=some (.map es clock))(he:cAi w0 m ev es.toList l)(c:Bool):
  (bZu l k=none /\ (Instr.lookup t (.map (some g)) (.string k) c).run P w=.ok (if c then .tuple #[z,.bool false] else z) w)∨
  ∃a v,bZu l k=some a /\ fG w0 (ev a) v.cells.toList /\ (if m=0 then v.oneCell'=true else ∃us:List Value,v=.agg us.toArray /\ us.length=m) /\ (Instr.lookup t (.map (some g)) (.string k) c).run P w=.ok (if c then .tuple #[v,.bool true] else v) w:=by
 rcases he.find k 0 with ⟨h1,h2,-⟩|⟨j,e,a,h1,h2,h3,h4,h5,h6,-⟩
 ·refine .inl ⟨h1,?_⟩
  simp only [Instr.lookup,Sem.run_bind,run_underlying ht,Result.andThen_ok,MapKept.run_getObj_map hb,bZ8 hk,bZ6 hk h2,Sem.run_pure,hz]
 refine .inr ⟨a,e.val,h1,h5,h6.2,?_⟩
 simp only [Instr.lookup,Sem.run_bind,run_underlying ht,Result.andThen_ok,MapKept.run_getObj_map hb,bZ8 hk,bZ6 hk h2,Sem.run_pure]
theorem cD2{w:World}{c:AC}{v:Value}(h1:v.oneCell'=true)(h:fG w [c] v.cells.toList):Rep w c v:=by
 have e:v.cells.toList=[v]:=by cases v<;>first|rfl|cases h1
 rw [e] at h
 exact h.at_ 0 G0 G0
theorem cAv{w w':World}(hk:cW U w w'){g:Nat}{o:Obj}(hb:w.heap[g]?=some o)(hU:g∉U):w'.heap[g]?=some o:=(hk.block g (Array.getElem?_eq_some_iff.1 hb).1 hU).trans hb
abbrev evI(i:Int):List AC:=[Vi i]
theorem cB9(i:Int):(evI i).length=wid 0:=rfl
def bZp(l:List (ByteArray×Int))(k:ByteArray):Int:=(bZu l k).getD 0
theorem cAm{t kt et:TypeId}{x y:Operand}{g:Nat}{k:ByteArray}(l:List (ByteArray×Int))(ho:o.op=.lookup t x y false)(hx:evA st x=some (.c (Vm g)))(hy:evA st y=some (Cs k))(hrow:cR3 g 0 evI l∈st.s.rows)
  (ht:P.underlying t=some (.map kt et)) (hk:P.underlying kt=some .string) (hz:∀w,(zeroValue et).run P w=.ok (.int .i64 0) w) (hU:st.s.bl.Nodup -> g∉U):AY P U o st (Ci (bZp l k)):=by
 intro a w hs hU2
 obtain ⟨es,cl,hb,he⟩:=hs.mem.mapAt (m:=0) (ev:=evI) (g:=g) (l:=l) hrow cB9
 refine ⟨_,.c _ _ (.val _ Y),λw' hkp=>?_⟩
 have hb2:=cAv hkp hb (hU hs.mem.nodup)
 have hop:execOp a.eval o=(do pure (.value (←Instr.lookup t (.map (some g)) (.string k) false))):=BZ
 rw [hop]
 rcases cBa (P:=P) (k:=k) ht hk (hz w') hb2 he false with ⟨h1,h2⟩|⟨b,v,h1,h2,h3,h4⟩
 ·have e:bZp l k=0:=by unfold bZp;rw [h1];rfl
  rw [e,Sem.run_bind,h2];rfl
 have e:bZp l k=b:=by unfold bZp;rw [h1];rfl
 have hv:=cC4 (cD2 DL h2)
 rw [e,Sem.run_bind,h4,hv];rfl
theorem cDl{t kt et:TypeId}{x y:Operand}{g:Nat}{k:ByteArray}(l:List (ByteArray×α)){b:α}(ho:o.op=.lookup t x y false)(hx:evA st x=some (.c (Vm g)))(hy:evA st y=some (Cs k))(hrow:cR3 g m ev l∈st.s.rows)(hm:m≠0)(hev:∀a,(ev a).length=m)
  (ht:P.underlying t=some (.map kt et)) (hk:P.underlying kt=some .string) {z:Value} (hz:∀w,(zeroValue et).run P w=.ok z w) (hU:st.s.bl.Nodup -> g∉U) (hl:bZu l k=some b):AY P U o st (.agg (ev b)):=by
 intro a w hs hU2
 obtain ⟨es,cl,hb,he⟩:=hs.mem.mapAt (m:=m) (ev:=ev) (g:=g) (l:=l) hrow Ca
 rcases cBa (P:=P) (k:=k) ht hk (hz w) hb he false with ⟨h1,h2⟩|⟨b',v,h1,h2,h3,h4⟩
 ·rw [h1] at hl;cases hl
 rw [h1] at hl;cases hl
 rw [if_neg hm] at h3
 obtain ⟨us,rfl,-⟩:=h3
 refine ⟨_,.agg _ us (by simpa [Value.cells] using h2),λw' hkp=>?_⟩
 have hb2:=cAv hkp hb (hU hs.mem.nodup)
 have hop:execOp a.eval o=(do pure (.value (←Instr.lookup t (.map (some g)) (.string k) false))):=BZ
 rw [hop]
 have hrun:(Instr.lookup t (.map (some g)) (.string k) false).run P w'=.ok (.agg us.toArray) w':=by
  rcases he.find k 0 with ⟨g1,-⟩|⟨j,e,a,g1,g2,-⟩
  ·rw [g1] at h1;cases h1
  have f1:(Instr.lookup t (.map (some g)) (.string k) false).run P w=.ok e.val w:=by simp only [Instr.lookup,Sem.run_bind,run_underlying ht,Result.andThen_ok,MapKept.run_getObj_map hb,bZ8 hk,bZ6 hk g2,Sem.run_pure];rfl
  have f2:(Instr.lookup t (.map (some g)) (.string k) false).run P w'=.ok e.val w':=BB
  rw [f1] at h4
  have e9:e.val=.agg us.toArray:=by simpa using h4
  rw [f2,e9]
 rw [Sem.run_bind,hrun];rfl
theorem cDa{t kt et:TypeId}{x y:Operand}{g:Nat}{k:ByteArray}(l:List (ByteArray×α)){b:α}(ho:o.op=.lookup t x y true)(hx:evA st x=some (.c (Vm g)))(hy:evA st y=some (Cs k))(hrow:cR3 g m ev l∈st.s.rows)(hm:m≠0)(hev:∀a,(ev a).length=m)
  (ht:P.underlying t=some (.map kt et)) (hk:P.underlying kt=some .string) {z:Value} (hz:∀w,(zeroValue et).run P w=.ok z w) (hU:st.s.bl.Nodup -> g∉U) (hl:bZu l k=some b):AY P U o st (.tup [.agg (ev b),Cb true]):=by
 intro a w hs hU2
 obtain ⟨es,cl,hb,he⟩:=hs.mem.mapAt (m:=m) (ev:=ev) (g:=g) (l:=l) hrow Ca
 rcases he.find k 0 with ⟨g1,-⟩|⟨j,e,a2,g1,g2,g3,g4,g5,g6,-⟩
 ·rw [g1] at hl;cases hl
 rw [g1] at hl;cases hl
 have h3:=g6.2
 rw [if_neg hm] at h3
 obtain ⟨us,e9,-⟩:=h3
 rw [e9] at g5
 refine ⟨_,.tup _ [.agg us.toArray,.bool true] Y (λi h h'=>by
  match i,h,h' with
  |0,_,_=>exact .agg _ us (by simpa [Value.cells] using g5)
  |1,_,_=>exact .c _ _ (.val _ rfl)),λw' hkp=>?_⟩
 have hb2:=cAv hkp hb (hU hs.mem.nodup)
 have hop:execOp a.eval o=(do pure (.value (←Instr.lookup t (.map (some g)) (.string k) true))):=BZ
 rw [hop]
 have f2:(Instr.lookup t (.map (some g)) (.string k) true).run P w'=.ok (.tuple #[e.val,.bool true]) w':=BB
 rw [Sem.run_bind,f2,e9];rfl
theorem cDh{t kt et:TypeId}{x y:Operand}{g:Nat}{k:ByteArray}(l:List (ByteArray×α))(ho:o.op=.lookup t x y true)(hx:evA st x=some (.c (Vm g)))(hy:evA st y=some (Cs k))(hrow:cR3 g m ev l∈st.s.rows)(hm:m≠0)(hev:∀a,(ev a).length=m)
  (ht:P.underlying t=some (.map kt et)) (hk:P.underlying kt=some .string) {z:Value} (hz:∀w,(zeroValue et).run P w=.ok z w) (hU:st.s.bl.Nodup -> g∉U) (hl:bZu l k=none) (tz:AT) (hct:cst z=tz):AY P U o st (.tup [tz,Cb false]):=by
 subst hct
 intro a w hs hU2
 obtain ⟨es,cl,hb,he⟩:=hs.mem.mapAt (m:=m) (ev:=ev) (g:=g) (l:=l) hrow Ca
 refine ⟨_,.tup _ [z,.bool false] Y (λi h h'=>by
  match i,h,h' with
  |0,_,_=>exact aCw _ z
  |1,_,_=>exact .c _ _ (.val _ rfl)),λw' hkp=>?_⟩
 have hb2:=cAv hkp hb (hU hs.mem.nodup)
 have hop:execOp a.eval o=(do pure (.value (←Instr.lookup t (.map (some g)) (.string k) true))):=BZ
 rw [hop]
 rcases cBa (P:=P) (k:=k) ht hk (hz w') hb2 he true with ⟨h1,h2⟩|⟨b,v,h1,-⟩
 ·rw [Sem.run_bind,h2];rfl
 rw [h1] at hl;cases hl
theorem cAo(w:World)(g:Nat)(x:Obj):cW [g] w (setBlock w g x):=
 ⟨rfl,rfl,rfl,by simp [setBlock],λk hk hn=>by
  show (w.heap.setIfInBounds g x)[k]?=_
  rw [Array.getElem?_setIfInBounds_ne];intro h;exact hn Dq⟩
theorem Mem.setMap{s:Sto}{w:World}{A B:List bA}{g:Nat}{l l':List (ByteArray×α)}{es es':Array MapEntry}{clock clock':Nat}(h:Mem s w)(hb:s.rows=A++cR3 g m ev l::B)(h1:w.heap[g]?=some (.map es clock))(hr:cAi (bI s.bl w) m ev es'.toList l'):
  Mem ⟨s.boxes,A++cR3 g m ev l'::B⟩ (setBlock w g (.map es' clock')):=by
 have hbl:(⟨s.boxes,A++cR3 g m ev l'::B⟩:Sto).bl=s.bl:=Bt
 have hmem:g∈s.bl:=by unfold Sto.bl;rw [hb];simp [bZw]
 have hk:=cAo w g (.map es' clock')
 have hu:Up2 (bI s.bl w) (bI s.bl (setBlock w g (.map es' clock'))):=jA hk CU (λx hx=>.inl hx)
 have hlt:g<w.heap.size:=h.lt g hmem
 have hnd:=h.nodup
 have hnd2:((s.boxes.map Box.b++A.flatMap λr=>aY r.v)++([g]++B.flatMap λr=>aY r.v)).Nodup:=by
  have h9:=hnd
  unfold Sto.bl at h9
  rw [hb] at h9
  simpa [bZw] using h9
 have hbox:∀x,x∈s.boxes -> x.b≠g:=λx hx he=>(List.nodup_append.1 hnd2).2.2 x.b (List.mem_append_left _ (List.mem_map.2 ⟨x,hx,Y⟩)) g G0 he
 have hrow:∀r,r∈A∨r∈B -> g∉aY r.v:=by
  intro r hr2 hm2
  rcases hr2 with hr2|hr2
  ·exact (List.nodup_append.1 hnd2).2.2 g (List.mem_append_right _ (List.mem_flatMap.2 ⟨r,hr2,hm2⟩)) g G0 Y
  exact (List.nodup_append.1 (List.nodup_append.1 hnd2).2.1).2.2 g G0 g (List.mem_flatMap.2 ⟨r,hr2,hm2⟩) Y
 refine ⟨by rw [hbl];exact hnd,λx hx=>BS,λx hx=>?_,λr hr2=>?_⟩
 ·rw [hbl]
  obtain ⟨us,e1,e2⟩:=h.box x hx
  exact ⟨us,BI,e2.mono hu⟩
 rw [hbl]
 have old:r∈A∨r∈B -> ∃us,bWg (setBlock w g (.map es' clock')) r us /\ fG (bI s.bl (setBlock w g (.map es' clock'))) r.cs us:=λhr=>by
  have hr3:r∈s.rows:=CB
  obtain ⟨us,e1,e2⟩:=h.row r hr3
  exact ⟨us,e1.keep λq hq=>hk.block q (h.lt q (List.mem_append_right _ (List.mem_flatMap.2 ⟨r,hr3,hq⟩))) EE,e2.mono hu⟩
 simp only [mem_append,mem_cons] at hr2
 rcases hr2 with hr2|rfl|hr2
 ·exact old (.inl hr2)
 ·refine ⟨es'.toList.flatMap bXj,.inr ⟨Y,g,es',clock',Y,?_,by simpa using hr.len,Y,hr.ok⟩,(hr.mono hu).rep⟩
  show (w.heap.setIfInBounds g _)[g]?=_
  simp [hlt]
 exact old (.inr hr2)
theorem cCq{w:World}{t:AT}{b:α}{v:Value}(hc:jL t=some (ev b))(hr:dO w t v)(hm:if m=0 then (∃c,t=.c c) else (∃cs,t=.agg cs /\ cs.length=m)):if m=0 then v.oneCell'=true else ∃us:List Value,v=.agg us.toArray /\ us.length=m:=by
 split at hm
 ·rename_i h0
  rw [if_pos h0]
  obtain ⟨c,rfl⟩:=hm
  cases hr with|c _ _ hr=>exact hr.one
 rename_i h0
 rw [if_neg h0]
 obtain ⟨cs,rfl,hl⟩:=hm
 cases hr with|agg _ us hr=>exact ⟨us,rfl,hr.len.trans hl⟩
theorem cB5{t kt et:TypeId}{x y z:Operand}{g:Nat}{k:ByteArray}{b:α}{u:AT}(l:List (ByteArray×α))(A:List bA){B:List bA}(ho:o.op=.mapUpdate t x y z)(hd:o.dst=none)(hx:evA st x=some (.c (Vm g)))(hy:evA st y=some (Cs k))(hz:evA st z=some u)(hc:jL u=some (ev b))(hrow:st.s.rows=A++cR3 g m ev l::B)(hev:∀a,(ev a).length=wid m)
  (hm:if m=0 then (∃c,u=.c c) else (∃cs,u=.agg cs /\ cs.length=m)) (ht:P.underlying t=some (.map kt et)) (hk:P.underlying kt=some .string) (hT:g∈st.T) (hU:st.s.bl.Nodup -> g∈U)
  (h:K {st with s:=⟨st.s.boxes,A++cR3 g m ev (bZq l k b)::B⟩}):AO P U o st K:=by
 intro a w hs KK QQ hK
 obtain ⟨es,cl,hb,he⟩:=hs.mem.mapAt (m:=m) (ev:=ev) (g:=g) (l:=l) C1 hev
 have hv:=hs.ev hz
 generalize hvv:a.eval z=v at hv
 have hval:=mU hc hv
 have hok:bWl m ⟨.string k,v,cl⟩:=⟨⟨k,Y⟩,cCq hc hv hm⟩
 have hbl:(⟨st.s.boxes,A++cR3 g m ev (bZq l k b)::B⟩:Sto).bl=st.s.bl:=Ei
 have hbm:g∈st.s.bl:=by unfold Sto.bl;rw [hrow];simp [bZw]
 have key:∃es' cl',(Instr.mapUpdate t (.map (some g)) (.string k) v).run P w=.ok () (setBlock w g (.map es' cl')) /\ cAi (bI st.s.bl w) m ev es'.toList (bZq l k b):=by
  rcases he.find k 0 with ⟨h1,h2,h3,-⟩|⟨j,e,a2,h1,h2,h3,h4,h5,h6,h7,h8,-,h10⟩
  ·refine ⟨es.push ⟨.string k,v,cl⟩,cl+1,?_,?_⟩
   ·simp only [Instr.mapUpdate,Sem.run_bind,run_underlying ht,Result.andThen_ok,MapKept.run_getObj_map hb,bZ8 hk,bZ6 hk h2,MapKept.run_setObj_map _ hb];rfl
   rw [h3,Array.toList_push];exact he.snoc rfl hval hok
  have he3:es[j]?=some e:=DL
  refine ⟨es.modify j λx=>{x with key:=.string k,val:=v},cl,?_,?_⟩
  ·simp only [Instr.mapUpdate,Sem.run_bind,run_underlying ht,Result.andThen_ok,MapKept.run_getObj_map hb,bZ8 hk,bZ6 hk h2,Nat.zero_add,he3,Option.map_some,Option.getD_some,h4,MapKept.run_keyThatStays (d:=.string) (k:=.string k) trivial,MapKept.run_setObj_map _ hb];rfl
  have hj:j<es.size:=by simpa using h7
  have e1:(es.modify j λx=>{x with key:=.string k,val:=v}).toList=es.toList.set j ⟨.string k,v,e.born⟩:=by
   refine List.ext_getElem? λi=>?_
   rw [Array.getElem?_toList,Array.getElem?_modify,List.getElem?_set]
   by_cases hij:j=i
   ·subst hij
    rw [if_pos rfl,if_pos rfl,he3,if_pos h7];rfl
   rw [if_neg hij,if_neg hij,Array.getElem?_toList]
  rw [e1]
  exact h10 b ⟨.string k,v,e.born⟩ Y hval ⟨⟨k,Y⟩,hok.2⟩
 obtain ⟨es',cl',hrun,hents⟩:=key
 have hkp:=cAo w g (.map es' cl')
 unfold Oper.wp
 have hrun2:(execOp a.eval o).run P w=.ok .skip (setBlock w g (.map es' cl')):=by
  simp only [execOp,ho,hs.val hx,hs.val hy,hvv,Sem.run_bind,hrun];rfl
 rw [hrun2,Oper.upon_skip,hd]
 have hmm:=hs.mem.setMap (clock':=cl') hrow hb hents
 refine hK _ _ _ h (hs.step st.T (hkp.mono C0) hmm (λx hx=>.inl Bw)) ⟨hkp.mono C0,hkp.mono DN,λx hx=>.inl Bw,λx hx=>.inl hx⟩ (hkp.mono Cp)
theorem cC8{t kt et kt2:TypeId}{x y:Operand}{g:Nat}{k:ByteArray}(l:List (ByteArray×α))(A:List bA){B:List bA}(ho:o.op=.call {callee:=.builtin .delete,args:=#[x,y],argTypes:=#[t,kt2]})(hd:o.dst=none)(hx:evA st x=some (.c (Vm g)))(hy:evA st y=some (Cs k))(hrow:st.s.rows=A++cR3 g m ev l::B)(hev:∀a,(ev a).length=wid m)
  (ht:P.underlying t=some (.map kt et)) (hk:P.underlying kt=some .string) (hT:g∈st.T) (hU:st.s.bl.Nodup -> g∈U)
  (h:K {st with s:=⟨st.s.boxes,A++cR3 g m ev (bZy l k)::B⟩}):AO P U o st K:=by
 intro a w hs KK QQ hK
 obtain ⟨es,cl,hb,he⟩:=hs.mem.mapAt (m:=m) (ev:=ev) (g:=g) (l:=l) C1 hev
 have hbl:(⟨st.s.boxes,A++cR3 g m ev (bZy l k)::B⟩:Sto).bl=st.s.bl:=Ei
 have hbm:g∈st.s.bl:=by unfold Sto.bl;rw [hrow];simp [bZw]
 have key:∃es',(Builtin.delete_ #[t,kt2] o.type #[.map (some g),.string k]).run P w=.ok (.tuple #[]) (setBlock w g (.map es' cl)) /\ cAi (bI st.s.bl w) m ev es'.toList (bZy l k):=by
  rcases he.find k 0 with ⟨h1,h2,-,h3⟩|⟨j,e,a2,h1,h2,h3,h4,h5,h6,h7,h8,-⟩
  ·refine ⟨es,?_,by rw [h3];exact he⟩
   simp [Builtin.delete_,run_underlying ht,MapKept.run_getObj_map hb,bZ8 hk,bZ6 hk h2,MapKept.run_setObj_map _ hb,Result.andThen,setBlock]
  have hj:j<es.size:=by simpa using h7
  refine ⟨es.eraseIdxIfInBounds j,?_,?_⟩
  ·simp [Builtin.delete_,run_underlying ht,MapKept.run_getObj_map hb,bZ8 hk,bZ6 hk h2,MapKept.run_setObj_map _ hb,Result.andThen,setBlock]
  have e1:(es.eraseIdxIfInBounds j).toList=es.toList.eraseIdx j:=by
   unfold Array.eraseIdxIfInBounds
   rw [dif_pos hj,Array.toList_eraseIdx]
  rw [e1];exact h8
 obtain ⟨es',hrun,hents⟩:=key
 have hkp:=cAo w g (.map es' cl)
 unfold Oper.wp
 have hrun2:(execOp a.eval o).run P w=.ok (.value (.tuple #[])) (setBlock w g (.map es' cl)):=by
  unfold execOp
  simp only [ho,resolve,invoke,builtin,Sem.run_bind,Sem.run_pure,Result.andThen_ok,List.map_toArray,List.map_cons,List.map_nil,hs.val hx,hs.val hy,hrun]
 rw [hrun2,Oper.upon_value,hd]
 have hmm:=hs.mem.setMap (clock':=cl) hrow hb hents
 have s1:=hs.step st.T (hkp.mono C0) hmm (λx hx=>.inl Bw)
 refine hK _ _ _ h (by simpa [Act.put] using s1) ⟨hkp.mono C0,hkp.mono DN,λx hx=>.inl Bw,λx hx=>.inl hx⟩ (hkp.mono Cp)
theorem cB3{t:TypeId}(m:Nat)(ev:α -> List AC)(ho:o.op=.makeMap t none)(hd:o.dst=some d)(hn:d<n)
  (h:∀g,K ⟨n,g::T,⟨bx,cR3 g m ev []::rw⟩,(d,.c (Vm g))::ts⟩):AO P U o ⟨n,T,⟨bx,rw⟩,ts⟩ K:=by
 intro a w hs KK QQ hK
 have hrun:(execOp a.eval o).run P w=.ok (.value (.map (some w.heap.size))) (w.alloc (.map #[] 0)):=by
  simp only [execOp,ho];rfl
 have hk:cW [] w (w.alloc (.map #[] 0)):=(cW.refl _ _).alloc _
 have hne:w.heap.size∉(⟨bx,rw⟩:Sto).bl:=λhm=>Nat.lt_irrefl _ (hs.mem.lt _ hm)
 have hbl:(⟨bx,cR3 w.heap.size m ev []::rw⟩:Sto).bl=bx.map Box.b++w.heap.size::rw.flatMap λr=>aY r.v:=by unfold Sto.bl;simp [bZw]
 have hsub:∀b,b∈(⟨bx,cR3 w.heap.size m ev []::rw⟩:Sto).bl -> b∈(⟨bx,rw⟩:Sto).bl∨w.heap.size <= b:=λb hb=>by
  rw [hbl] at hb
  simp only [mem_append,mem_cons] at hb
  rcases hb with h|rfl|h
  ·exact .inl (List.mem_append_left _ h)
  ·exact .inr (Nat.le_refl _)
  exact .inl (List.mem_append_right _ h)
 have hup:Up2 (bI (⟨bx,rw⟩:Sto).bl w) (bI (⟨bx,cR3 w.heap.size m ev []::rw⟩:Sto).bl (w.alloc (.map #[] 0))):=jA hk Bu hsub
 have hsz:(w.alloc (.map #[] 0)).heap.size=w.heap.size+1:=G0
 have hm:Mem ⟨bx,cR3 w.heap.size m ev []::rw⟩ (w.alloc (.map #[] 0)):=by
  refine ⟨?_,λb hb=>?_,λx hx=>?_,λr hr=>?_⟩
  ·rw [hbl]
   have hnd:(bx.map Box.b++rw.flatMap λr=>aY r.v).Nodup:=hs.mem.nodup
   rw [List.nodup_append] at hnd⊢
   refine ⟨hnd.1,List.nodup_cons.2 ⟨λh=>hne (List.mem_append_right _ h),hnd.2.1⟩,λa ha b hb=>?_⟩
   rcases mem_cons.1 hb with rfl|hb
   ·intro he;subst he;exact hne (List.mem_append_left _ ha)
   exact hnd.2.2 a ha b hb
  ·rw [hbl] at hb
   simp only [mem_append,mem_cons] at hb
   rw [hsz]
   rcases hb with h|rfl|h
   ·exact Nat.lt_succ_of_lt (hs.mem.lt b (List.mem_append_left _ h))
   ·exact Nat.lt_succ_self _
   exact Nat.lt_succ_of_lt (hs.mem.lt b (List.mem_append_right _ h))
  ·obtain ⟨us,e1,e2⟩:=hs.mem.box x hx
   exact ⟨us,BN,e2.mono hup⟩
  rcases mem_cons.1 hr with rfl|hr
  ·refine ⟨[],.inr ⟨Y,w.heap.size,#[],0,Y,?_,Y,Y,λe h=>DU⟩,.nil _⟩
   show (w.heap.push _)[w.heap.size]?=_
   simp
  obtain ⟨us,e1,e2⟩:=hs.mem.row r hr
  exact ⟨us,e1.keep λg hg=>hk.block g (hs.mem.lt g (List.mem_append_right _ (List.mem_flatMap.2 ⟨r,hr,hg⟩))) G0,e2.mono hup⟩
 unfold Oper.wp
 rw [hrun,Oper.upon_value,hd]
 have s1:=hs.step (st:=⟨n,T,⟨bx,rw⟩,ts⟩) (w.heap.size::T) (hk.mono G0) hm hsub
 refine hK _ _ _ (h _) (s1.put (v:=.map (some w.heap.size)) hn (.c _ _ (.val _ Y))) ⟨hk.mono G0,hk.mono G0,hsub,λb hb=>?_⟩ (hk.mono G0)
 rcases mem_cons.1 hb with rfl|hb
 ·exact .inr (Nat.le_refl _)
 exact .inl hb
theorem cAt{t kt et:TypeId}{x y z:Operand}{g:Nat}{k:ByteArray}{b:Int}(l:List (ByteArray×Int))(A:List bA){B:List bA}(ho:o.op=.mapUpdate t x y z)(hd:o.dst=none)(hx:evA ⟨n,T,⟨bx,A++cR3 g 0 evI l::B⟩,ts⟩ x=some (.c (Vm g)))(hy:evA ⟨n,T,⟨bx,A++cR3 g 0 evI l::B⟩,ts⟩ y=some (Cs k))(hz:evA ⟨n,T,⟨bx,A++cR3 g 0 evI l::B⟩,ts⟩ z=some (Ci b))
  (ht:P.underlying t=some (.map kt et)) (hk:P.underlying kt=some .string) (hT:g∈T) (hU:(⟨bx,A++cR3 g 0 evI l::B⟩:Sto).bl.Nodup -> g∈U) (h:K ⟨n,T,⟨bx,A++cR3 g 0 evI (bZq l k b)::B⟩,ts⟩):AO P U o ⟨n,T,⟨bx,A++cR3 g 0 evI l::B⟩,ts⟩ K:=
 cB5 (m:=0) (ev:=evI) l A ho hd hx hy hz rfl rfl cB9 (by rw [if_pos rfl];exact ⟨_,rfl⟩) ht hk hT hU h
theorem cCw{t kt et:TypeId}{x y z:Operand}{g:Nat}{k:ByteArray}{b:α}(l:List (ByteArray×α))(A:List bA){B:List bA}(ho:o.op=.mapUpdate t x y z)(hd:o.dst=none)(hx:evA ⟨n,T,⟨bx,A++cR3 g m ev l::B⟩,ts⟩ x=some (.c (Vm g)))(hy:evA ⟨n,T,⟨bx,A++cR3 g m ev l::B⟩,ts⟩ y=some (Cs k))(hz:evA ⟨n,T,⟨bx,A++cR3 g m ev l::B⟩,ts⟩ z=some (.agg (ev b)))(hm:m≠0)(hev:∀a,(ev a).length=m)
  (ht:P.underlying t=some (.map kt et)) (hk:P.underlying kt=some .string) (hT:g∈T) (hU:(⟨bx,A++cR3 g m ev l::B⟩:Sto).bl.Nodup -> g∈U) (h:K ⟨n,T,⟨bx,A++cR3 g m ev (bZq l k b)::B⟩,ts⟩):AO P U o ⟨n,T,⟨bx,A++cR3 g m ev l::B⟩,ts⟩ K:=
 cB5 (m:=m) (ev:=ev) l A ho hd hx hy hz rfl rfl Ca (by rw [if_neg hm];exact ⟨_,rfl,hev b⟩) ht hk hT hU h
theorem cBu{t kt et kt2:TypeId}{x y:Operand}{g:Nat}{k:ByteArray}(l:List (ByteArray×Int))(A:List bA){B:List bA}(ho:o.op=.call {callee:=.builtin .delete,args:=#[x,y],argTypes:=#[t,kt2]})(hd:o.dst=none)(hx:evA ⟨n,T,⟨bx,A++cR3 g 0 evI l::B⟩,ts⟩ x=some (.c (Vm g)))(hy:evA ⟨n,T,⟨bx,A++cR3 g 0 evI l::B⟩,ts⟩ y=some (Cs k))
  (ht:P.underlying t=some (.map kt et)) (hk:P.underlying kt=some .string) (hT:g∈T) (hU:(⟨bx,A++cR3 g 0 evI l::B⟩:Sto).bl.Nodup -> g∈U) (h:K ⟨n,T,⟨bx,A++cR3 g 0 evI (bZy l k)::B⟩,ts⟩):AO P U o ⟨n,T,⟨bx,A++cR3 g 0 evI l::B⟩,ts⟩ K:=
 cC8 (m:=0) (ev:=evI) l A ho hd hx hy rfl cB9 ht hk hT hU h
theorem cDv{Z:List Nat}{A B:List bA}{g:Nat}{l:List (ByteArray×α)}(hZ:∀z,z∈Z -> z∈bx.map Box.b)(hn:(⟨bx,A++cR3 g m ev l::B⟩:Sto).bl.Nodup):g∈lM ⟨bx,A++cR3 g m ev l::B⟩ Z:=by
 have h3:g∈(A++cR3 g m ev l::B).flatMap λr=>aY r.v:=by simp [bZw]
 refine kH.2 ⟨List.mem_append_right _ h3,λhz=>?_⟩
 exact (List.nodup_append.1 hn).2.2 g (hZ g hz) g h3 Y
end
end
section
open Go.RowKit
instance (priority:=900) boxIn_appG{A0 R A B:List Box}{b:Nat}{T:TypeId}{cs:List AC}[h:lY R b A T cs B]:lY (A0++R) b (A0++A) T cs B:=⟨by rw [h.h,append_assoc]⟩
instance (priority:=1050) appL_app{A0 X ds r:List Box}[h:aDk X ds r]:aDk (A0++X) ds (A0++r):=⟨by rw [append_assoc,h.h]⟩
instance aS8:hP 1 1 2:=⟨rfl⟩
instance aSv:hP 1 2 3:=⟨rfl⟩
instance aSi:hP 1 3 4:=⟨rfl⟩
instance aTa:hP 1 4 5:=⟨rfl⟩
instance aTf:hP 1 5 6:=⟨rfl⟩
instance aS0:hP 2 1 3:=⟨rfl⟩
instance aSx:hP 2 2 4:=⟨rfl⟩
instance aTk:hP 2 3 5:=⟨rfl⟩
instance aT2:hP 2 4 6:=⟨rfl⟩
instance aRx:hP 2 5 7:=⟨rfl⟩
instance aTw:hP 3 1 4:=⟨rfl⟩
instance aSs:hP 3 2 5:=⟨rfl⟩
instance aSa:hP 3 3 6:=⟨rfl⟩
instance aS6:hP 3 4 7:=⟨rfl⟩
instance aRv:hP 3 5 8:=⟨rfl⟩
instance aR2:hP 4 1 5:=⟨rfl⟩
instance aSy:hP 4 2 6:=⟨rfl⟩
instance aR1:hP 4 3 7:=⟨rfl⟩
instance aSw:hP 4 4 8:=⟨rfl⟩
instance aTt:hP 4 5 9:=⟨rfl⟩
instance aSj:hP 5 1 6:=⟨rfl⟩
instance aSz:hP 5 2 7:=⟨rfl⟩
instance aTg:hP 5 3 8:=⟨rfl⟩
instance aR9:hP 5 4 9:=⟨rfl⟩
instance aTb:hP 5 5 10:=⟨rfl⟩
instance aS4:hP 6 1 7:=⟨rfl⟩
instance aT5:hP 6 2 8:=⟨rfl⟩
instance aSt:hP 6 3 9:=⟨rfl⟩
instance aS5:hP 6 4 10:=⟨rfl⟩
instance aSl:hP 6 5 11:=⟨rfl⟩
instance aSu:hP 7 1 8:=⟨rfl⟩
instance aTz:hP 7 2 9:=⟨rfl⟩
instance aTl:hP 7 3 10:=⟨rfl⟩
instance aS3:hP 7 4 11:=⟨rfl⟩
instance aR7:hP 7 5 12:=⟨rfl⟩
instance aR6:hP 8 1 9:=⟨rfl⟩
instance aTy:hP 8 2 10:=⟨rfl⟩
instance aS2:hP 8 3 11:=⟨rfl⟩
instance aR5:hP 8 4 12:=⟨rfl⟩
instance aSe:hP 8 5 13:=⟨rfl⟩
theorem jJ{bx:List Box}{rw:List bA}{Z:List Nat}{b:Nat}[h1:BIn bx b][h2:aLt bx b Z](hn:(⟨bx,rw⟩:Sto).bl.Nodup):b∈lM ⟨bx,rw⟩ Z:=kH.2 ⟨List.mem_append_left _ h1.h,h2.h (List.nodup_append.1 hn).1⟩
theorem kV{P:Program}{U:List Nat}{o:Oper}{st:AS}{x:Operand}{t e E:TypeId}{v:Value}{z n:Nat}{cs:List AC}(A:List bA){B:List bA}(ho:o.op=.call {callee:=.builtin .len,args:=#[x],argTypes:=#[t]})(hx:evA st x=some (Cv v))(hrow:st.s.rows=A++⟨v,E,z,n,cs⟩::B)(hu:∀w,(underlying t).run P w=.ok (.slice e) w)(hz:0<z:=by decide):AY P U o st (Ci n):=
 fW rfl λa w hs w'=>by
  obtain ⟨us,hownR,-⟩:=hs.mem.row ⟨v,E,z,n,cs⟩ C1
  have hown:=hownR.row hz
  have hv:∃p c,v=.slice p n c:=by
   rcases hown.2 with ⟨h1,h2⟩|⟨g,cap,cur,h1,-⟩
   ·dsimp only at h1 h2;subst h2;exact ⟨_,_,h1⟩
   exact ⟨_,_,h1⟩
  obtain ⟨p,c,rfl⟩:=hv
  simp only [execOp,ho,resolve,List.map_toArray,List.map_cons,List.map_nil,hs.val hx]
  simp [go_sem,invoke,builtin,Builtin.len_,hu,goInt]
class aL0 (bx:List Box) (Z:List Nat):Prop where h:∀z,z∈Z -> z∈bx.map Box.b
instance aTn{bx:List Box}:aL0 bx []:=⟨G0⟩
instance aRr{bx:List Box}{z:Nat}{Z:List Nat}[h1:BIn bx z][h2:aL0 bx Z]:aL0 bx (z::Z):=⟨λy hy=>by rcases mem_cons.1 hy with rfl|h;exact h1.h;exact h2.h _ h⟩
theorem qW{bx:List Box}{rw:List bA}{Z:List Nat}{v:Value}{E:TypeId}{z n b:Nat}{cs:List AC}[h1:aL0 bx Z](hn:(⟨bx,⟨v,E,z,n,cs⟩::rw⟩:Sto).bl.Nodup)(hb:b∈aY v):b∈lM ⟨bx,⟨v,E,z,n,cs⟩::rw⟩ Z:=by
 have h3:b∈(⟨v,E,z,n,cs⟩::rw:List bA).flatMap λr=>aY r.v:=by simp [hb]
 refine kH.2 ⟨List.mem_append_right _ h3,λhz=>?_⟩
 exact (List.nodup_append.1 hn).2.2 b (h1.h b hz) b h3 Y
theorem aE1{P:Program}{ops:Array Oper}{n:Nat}{T:List Nat}{bx:List Box}{rw:List bA}{ts:List (Nat×AT)}{Q:Exit -> AS -> Prop}{l:List Oper}(i:Nat){v:Value}{E:TypeId}{z k:Nat}{cs:List AC}(hi:look ts i=some (Cv v))(h:eQ P ops l ⟨n,T,⟨bx,rw⟩,(i,.c (.sl k cs))::ts⟩ Q)(hz:0<z:=by decide):eQ P ops l ⟨n,T,⟨bx,⟨v,E,z,k,cs⟩::rw⟩,ts⟩ Q:=
 uQ (yS (st:=⟨n,T,⟨bx,⟨v,E,z,k,cs⟩::rw⟩,ts⟩) (A:=[]) i hi rfl hz) h
section
variable {P:Program}{ops:Array Oper}{U T:List Nat}{o:Oper}{n d:Nat}{bx:List Box}{rw:List bA}{ts:List (Nat×AT)}{Q:Exit -> AS -> Prop}{l:List Oper}{K:AS -> Prop}{st:AS}{t:AT}
theorem rV{s:Sto}{w:World}(hm:Mem s w){r:bA}(hr:r∈s.rows)(hn:0<r.n)(hz:0<r.z):∃g cap,r.v=.slice (some ⟨g,0,none⟩) r.n cap:=by
 obtain ⟨us,h0,-⟩:=hm.row r hr
 obtain ⟨h1,h2⟩:=h0.row hz
 rcases h2 with ⟨-,h2⟩|⟨g,cap,cur,h2,-⟩
 ·omega
 exact ⟨g,cap,h2⟩
theorem aF1(A:List bA){B:List bA}{v:Value}{E:TypeId}{z k:Nat}{cs:List AC}(hk:0<k)(h:∀g cap,v=.slice (some ⟨g,0,none⟩) k cap -> eQ P ops l ⟨n,T,⟨bx,A++⟨v,E,z,k,cs⟩::B⟩,ts⟩ Q)(hz:0<z:=by decide):eQ P ops l ⟨n,T,⟨bx,A++⟨v,E,z,k,cs⟩::B⟩,ts⟩ Q:=λa w hs QQ hQ=>by
 obtain ⟨g,cap,hv⟩:=rV hs.mem (r:=⟨v,E,z,k,cs⟩) G0 hk hz
 exact h g cap hv a w hs QQ hQ
theorem aEw(A:List bA){c:Code}{B:List bA}{v:Value}{E:TypeId}{z k:Nat}{cs:List AC}(hk:0<k)(h:∀g cap,v=.slice (some ⟨g,0,none⟩) k cap -> AWp P c ⟨n,T,⟨bx,A++⟨v,E,z,k,cs⟩::B⟩,ts⟩ Q)(hz:0<z:=by decide):AWp P c ⟨n,T,⟨bx,A++⟨v,E,z,k,cs⟩::B⟩,ts⟩ Q:=λa w hs QQ hQ=>by
 obtain ⟨g,cap,hv⟩:=rV hs.mem (r:=⟨v,E,z,k,cs⟩) G0 hk hz
 exact h g cap hv a w hs QQ hQ
theorem rM{E E0:TypeId}{x:Operand}{g off z zz k cap:Nat}{cs:List AC}{ag:Bool}(A:List bA){B:List bA}(hA:∀w,(isAgg E).run P w=.ok ag w)(hS:∀w,(sizeOf E).run P w=.ok z w)(hp:pk ag z cs off=some t)(ho:o.op=.load E x:=by exact rfl)(hx:evA st x=some (Cv (.pointer (some ⟨g,off,none⟩))):=by exact rfl)(hrow:st.s.rows=A++⟨.slice (some ⟨g,0,none⟩) k cap,E0,zz,k,cs⟩::B:=by exact rfl)(hU:st.s.bl.Nodup -> g∉U:=by exact λ_ h=>DV):AY P U o st t:=by
 intro a w hs hU2
 obtain ⟨us,hownR,h2⟩:=hs.mem.row ⟨.slice (some ⟨g,0,none⟩) k cap,E0,zz,k,cs⟩ C1
 have hown:=hownR.row0 Y
 obtain ⟨h3,h4⟩:=hown
 rcases h4 with ⟨h4,-⟩|⟨g',cap',cur,hv,-,hh,hk,hcm,hcs,htk⟩
 ·cases h4
 cases hv
 obtain ⟨v,hv,hl⟩:=pR (P:=P) (b:=g) (o:=0) hA hS h2 hp
 refine ⟨v,hv,λw' hkp=>?_⟩
 have hlt:g<w.heap.size:=hs.mem.lt g (List.mem_append_right _ (by rw [hrow];simp [aY,Value.ownBlock]))
 have hb:=hkp.block g hlt (hU hs.mem.nodup)
 have hl2:=hl w' (λj u hj=>by
  unfold World.cell?
  simp only [hb,hh]
  have h9:(cur.toList.take (k*zz))[j]?=some u:=by rw [htk];exact hj
  rw [List.getElem?_take] at h9
  split at h9
  ·simpa using h9
  cases h9)
 simp only [Nat.zero_add] at hl2
 simp only [execOp,ho,hs.val hx,Instr.loadAt,Instr.sureAddr,Sem.run_bind,Sem.run_pure,Result.andThen_ok]
 rw [hl2];rfl
theorem aTr{E e:TypeId}{z:Nat}(hu:P.underlying E=some (.slice e))(hS:∀w,(sizeOf e).run P w=.ok z w)(h:∀g,K ⟨n,g::T,⟨bx,⟨.slice (some ⟨g,0,none⟩) 0 0,e,z,0,[]⟩::rw⟩,(d,Cv (.slice (some ⟨g,0,none⟩) 0 0))::ts⟩)(ho:o.op=.buildSlice E 0 #[]:=by exact rfl)(hd:o.dst=some d:=by exact rfl)(hn:d<n:=by decide):AO P U o ⟨n,T,⟨bx,rw⟩,ts⟩ K:=by
 intro a w hs KK QQ hK
 unfold Oper.wp
 have hrun:(execOp a.eval o).run P w=.ok (.value (.slice (some ⟨w.heap.size,0,none⟩) 0 0)) (w.alloc (.cells #[] e)):=by
  have h1:(underlying E).run P w=.ok (.slice e) w:=run_underlying hu w
  have h2:(sizeOf e).run P w=.ok z w:=hS w
  simp only [execOp,ho,Instr.buildSlice,Sem.run_bind,h1,Result.andThen_ok,h2,Nat.zero_mul]
  simp [go_sem,Instr.fill,newRow]
 rw [hrun,Oper.upon_value,hd]
 have hk:cW [] w (w.alloc (.cells #[] e)):=(cW.refl _ _).alloc _
 have hne:w.heap.size∉(⟨bx,rw⟩:Sto).bl:=λhm=>by have h9:w.heap.size<w.heap.size:=hs.mem.lt _ hm;omega
 have hbl:(⟨bx,⟨.slice (some ⟨w.heap.size,0,none⟩) 0 0,e,z,0,[]⟩::rw⟩:Sto).bl=bx.map Box.b++w.heap.size::rw.flatMap λr=>aY r.v:=CZ
 have hsub:∀b,b∈(⟨bx,⟨.slice (some ⟨w.heap.size,0,none⟩) 0 0,e,z,0,[]⟩::rw⟩:Sto).bl -> b∈(⟨bx,rw⟩:Sto).bl∨w.heap.size <= b:=λb hb=>by
  rw [hbl] at hb
  simp only [mem_append,mem_cons] at hb
  rcases hb with h|rfl|h
  ·exact .inl (List.mem_append_left _ h)
  ·exact .inr (Nat.le_refl _)
  exact .inl (List.mem_append_right _ h)
 have hup:Up2 (bI (⟨bx,rw⟩:Sto).bl w) (bI (⟨bx,⟨.slice (some ⟨w.heap.size,0,none⟩) 0 0,e,z,0,[]⟩::rw⟩:Sto).bl (w.alloc (.cells #[] e))):=jA hk Bu hsub
 have hsz:(w.alloc (.cells #[] e)).heap.size=w.heap.size+1:=G0
 have hm:Mem ⟨bx,⟨.slice (some ⟨w.heap.size,0,none⟩) 0 0,e,z,0,[]⟩::rw⟩ (w.alloc (.cells #[] e)):=by
  refine ⟨?_,λb hb=>?_,λx hx=>?_,λr hr=>?_⟩
  ·rw [hbl]
   have hnd:(bx.map Box.b++rw.flatMap λr=>aY r.v).Nodup:=hs.mem.nodup
   rw [List.nodup_append] at hnd⊢
   refine ⟨hnd.1,List.nodup_cons.2 ⟨λh=>hne (List.mem_append_right _ h),hnd.2.1⟩,λa ha b hb=>?_⟩
   rcases mem_cons.1 hb with rfl|hb
   ·intro he;subst he;exact hne (List.mem_append_left _ ha)
   exact hnd.2.2 a ha b hb
  ·rw [hbl] at hb
   simp only [mem_append,mem_cons] at hb
   rw [hsz]
   rcases hb with h|rfl|h
   ·exact Nat.lt_succ_of_lt (hs.mem.lt b (List.mem_append_left _ h))
   ·exact Nat.lt_succ_self _
   exact Nat.lt_succ_of_lt (hs.mem.lt b (List.mem_append_right _ h))
  ·obtain ⟨us,e1,e2⟩:=hs.mem.box x hx
   exact ⟨us,BN,e2.mono hup⟩
  rcases mem_cons.1 hr with rfl|hr
  ·refine ⟨[],.inl ⟨G0,.inr ⟨w.heap.size,0,#[],Y,Nat.zero_le _,?_,Nat.le_refl _,Nat.zero_le _,G0,G0⟩⟩,.nil _⟩
   show (w.heap.push _)[w.heap.size]?=_
   simp
  obtain ⟨us,e1,e2⟩:=hs.mem.row r hr
  exact ⟨us,e1.keep λg hg=>hk.block g (hs.mem.lt g (List.mem_append_right _ (List.mem_flatMap.2 ⟨r,hr,hg⟩))) G0,e2.mono hup⟩
 have s1:=hs.step (st:=⟨n,T,⟨bx,rw⟩,ts⟩) (w.heap.size::T) (hk.mono G0) hm hsub
 refine hK _ _ _ (h _) (s1.put (v:=.slice (some ⟨w.heap.size,0,none⟩) 0 0) hn (.c _ _ (.val _ Y))) ⟨hk.mono G0,hk.mono G0,hsub,λb hb=>?_⟩ (hk.mono G0)
 rcases mem_cons.1 hb with rfl|hb
 ·exact .inr (Nat.le_refl _)
 exact .inl hb
end
end
section
open Go.RowKit
theorem kB{a b:Bool}(h:a=true↔b=true):Ending.returned (.bool a)=.returned (.bool b):=by rw [Bool.eq_iff_iff.2 h]
theorem cZn{k:IntKind}{a b:Int}(h:a=b):Ending.returned (.int k a)=.returned (.int k b):=by rw [h]
theorem sB(c:UInt8)(w:World):
  Calls prog 150 #[.int .u8 c.toNat] w λe w'=>e=.returned (.bool (isSp c)) /\ w=w':=by
 unfold isSp
 generalize (c.toNat:Int)=n
 go_enter func150,Tryz.ntmps150
 go_wp2
 all_goals (go_ret;refine ⟨kB ?_,rfl⟩;simp;try omega)
theorem cZ7(c:UInt8)(w:World):
  Calls prog 153 #[.int .u8 c.toNat] w λe w'=>e=.returned (.bool (fU c)) /\ w=w':=by
 unfold fU
 generalize (c.toNat:Int)=n
 go_enter func153,Tryz.ntmps153
 go_wp2
 all_goals (go_ret;refine ⟨kB ?_,rfl⟩;simp;try omega)
theorem oV(c:UInt8)(w:World):
  Calls prog 155 #[.int .u8 c.toNat] w λe w'=>e=.returned (.bool (cD c)) /\ w=w':=by
 unfold cD
 generalize (c.toNat:Int)=n
 go_enter func155,Tryz.ntmps155
 go_wp2
 all_goals (go_ret;refine ⟨kB ?_,rfl⟩;simp;try omega)
theorem tC(c:UInt8)(w:World):
  Calls prog 180 #[.int .u8 c.toNat] w λe w'=>e=.returned (.bool (cT c)) /\ w=w':=by
 go_enter func180,Tryz.ntmps180
 go_wp2_with (first|(go_at_call 153;refine (cZ7 _ _).mono ?_;rintro e w' ⟨rfl,rfl⟩)|(go_at_call 155;refine (oV _ _).mono ?_;rintro e w' ⟨rfl,rfl⟩))
 all_goals (go_ret;refine ⟨kB ?_,rfl⟩;simp [cT, *])
theorem oK(s p:ByteArray)(w:World):
  Calls prog 151 #[.string s,.string p] w λe w'=>e=.returned (.bool (Lib.hasPrefix s.data.toList p.data.toList)) /\ w=w':=
 (Tryz.strings_HasPrefix s p w).mono λ_ _ h=>⟨h.1,h.2.symm⟩
theorem oL(s:ByteArray)(c:Int)(w:World):
  Calls prog 152 #[.string s,.int .u8 c] w λe w'=>e=.returned (.int .i64 (Lib.indexByte s.data.toList c.toNat.toUInt8)) /\ w=w':=
 (Tryz.strings_IndexByte s c w).mono λ_ _ h=>⟨h.1,h.2.symm⟩
theorem uH(s:ByteArray)(k0:Nat)(w:World)(hs:s.size <= 9223372036854775807)(hk:k0 <= s.size):
  Calls prog 126 #[.string s,.int .i64 k0] w λe w'=>e=.returned (.int .i64 (bF s.data.toList k0)) /\ w=w':=by
 have hlen:s.data.toList.length=s.size:=Y
 go_enter func126,Tryz.ntmps126
 go_wp2_with fail
 go_loop [1,5] (λv _=>∃k:Nat,k <= s.size /\ v=.int .i64 k /\ bF s.data.toList k=bF s.data.toList k0) (λv _=>s.size-(intOf v).toNat)
 case atStart=>exact ⟨k0,hk,rfl,rfl⟩
 case round=>
  obtain ⟨k,hk,rfl,hr⟩:=hrel
  have HR:=Lib.hid hr;clear hr
  have HL:=Lib.hid hlen;clear hlen
  by_cases hlt:k<s.size
  ·by_cases hsp:isSp s[k]=true
   ·go_wp2_with (first|(go_at_call 150;refine (sB _ _).mono ?_;rintro e w' ⟨rfl,rfl⟩))
    go_round
    case rel=>exact ⟨k+1,J,C8,(aGh _ _ Ct hsp).trans HR.out⟩
    case measure=>simp [intOf];omega
   have hsp':isSp s[k]=false:=by simpa using hsp
   clear hsp
   by_cases hc:Lib.hasPrefix (s.data.toList.drop k) [47,47]=true
   ·have hcom:=aJa _ _ Ct hc
    have HC:=Lib.hid hcom;clear hcom
    have htk:List.take (s.size-k) (List.drop k s.data.toList)=List.drop k s.data.toList:=take_of_length_le G0
    by_cases hn:Lib.indexByte (s.data.toList.drop k) 10<0
    ·go_wp2_with (first|(go_at_call 150;refine (sB _ _).mono ?_;rintro e w' ⟨rfl,rfl⟩)|(go_at_call 151;refine (oK _ _ _).mono ?_;rintro e w' ⟨rfl,rfl⟩)|(go_at_call 152;refine (oL _ _ _).mono ?_;rintro e w' ⟨rfl,rfl⟩))
     go_ret
     exact ⟨cZn (by rw [←HR.out,HC.out.1 hn,HL.out]),Y⟩
    obtain ⟨j,hj⟩:∃j:Nat,Lib.indexByte (s.data.toList.drop k) 10=j:=⟨(Lib.indexByte (s.data.toList.drop k) 10).toNat,J⟩
    obtain ⟨h1,h2,h3⟩:=HC.out.2 j hj
    rw [HL.out] at h2
    have H1:=Lib.hid h1;clear h1
    clear hn
    go_wp2_with (first|(go_at_call 150;refine (sB _ _).mono ?_;rintro e w' ⟨rfl,rfl⟩)|(go_at_call 151;refine (oK _ _ _).mono ?_;rintro e w' ⟨rfl,rfl⟩)|(go_at_call 152;refine (oL _ _ _).mono ?_;rintro e w' ⟨rfl,rfl⟩))
    go_round
    case rel=>exact ⟨k+j,J,C8,H1.out.trans HR.out⟩
    case measure=>simp [intOf];omega
   have hc':Lib.hasPrefix (s.data.toList.drop k) [47,47]=false:=by simpa using hc
   have hstop:bF s.data.toList k=k:=by
    refine zX _ _ Ct hsp' ?_
    rintro ⟨h1,h2⟩
    apply hc
    rw [sZ,dR _ _ Ct,h1]
    cases hd:s.data.toList.drop (k+1) with
    |nil=>simp [hd] at h2
    |cons a r=>rw [hd] at h2;simp at h2;subst h2;exact ⟨r,rfl⟩
   have HS:=Lib.hid hstop;clear hstop
   clear hc
   have htk:List.take (s.size-k) (List.drop k s.data.toList)=List.drop k s.data.toList:=take_of_length_le G0
   go_wp2_with (first|(go_at_call 150;refine (sB _ _).mono ?_;rintro e w' ⟨rfl,rfl⟩)|(go_at_call 151;refine (oK _ _ _).mono ?_;rintro e w' ⟨rfl,rfl⟩))
   go_ret
   exact ⟨cZn (by rw [←HR.out,HS.out]),Y⟩
  go_wp2_with fail
  go_ret
  exact ⟨cZn (by rw [←HR.out,aA5 _ _ Fo,HL.out];omega),Y⟩
theorem lH(p:UInt8 -> Bool)(l:List UInt8)(k:Nat)(hk:k<l.length)(h:(l.takeWhile p).length=k+((l.drop k).takeWhile p).length):
  (p l[k]=true -> (l.takeWhile p).length=(k+1)+((l.drop (k+1)).takeWhile p).length) /\ (p l[k]=false -> (l.takeWhile p).length=k):=by
 rw [dR l k hk] at h
 refine ⟨λhp=>?_,λhp=>?_⟩
 ·rw [List.takeWhile_cons_of_pos hp] at h;simp at h;omega
 rw [List.takeWhile_cons_of_neg (by simp [hp])] at h;simpa using h
theorem aI6(s:ByteArray)(w:World)(hs:s.size <= 9223372036854775807):
  Calls prog 179 #[.string s,.func (.func 155) #[] #[]] w λe w'=>e=.returned (.int .i64 (s.data.toList.takeWhile cD).length) /\ w=w':=by
 have HL:=Lib.hid (show s.data.toList.length=s.size from Y)
 go_enter func179,Tryz.ntmps179
 go_wp2_with fail
 go_loop [5] (λv=>∃k:Nat,k <= s.size /\ v=.int .i64 k /\ (s.data.toList.takeWhile cD).length=k+((s.data.toList.drop k).takeWhile cD).length) (λv=>s.size-(intOf v).toNat)
 case atStart=>exact ⟨0,J,rfl,G0⟩
 case round=>
  obtain ⟨k,hk,rfl,hr⟩:=hrel
  by_cases hlt:k<s.size
  ·have HT:=Lib.hid (lH cD s.data.toList k Ct hr);clear hr
   by_cases hp:cD s[k]=true
   ·go_wp2_with (first|(go_at_call 155;refine (oV _ _).mono ?_;rintro e w' ⟨rfl,rfl⟩))
    go_round
    case rel=>exact ⟨k+1,J,C8,HT.out.1 hp⟩
    case measure=>simp [intOf];omega
   have hp':cD s[k]=false:=by simpa using hp
   clear hp
   go_wp2_with (first|(go_at_call 155;refine (oV _ _).mono ?_;rintro e w' ⟨rfl,rfl⟩))
   go_ret
   exact ⟨cZn (by rw [HT.out.2 hp']),Y⟩
  have HR:=Lib.hid hr;clear hr
  go_wp2_with fail
  go_ret
  refine ⟨cZn ?_,Y⟩
  rw [HR.out,List.drop_eq_nil_of_le Fo];rfl
theorem aM0(s:ByteArray)(w:World)(hs:s.size <= 9223372036854775807):
  Calls prog 179 #[.string s,.func (.func 180) #[] #[]] w λe w'=>e=.returned (.int .i64 (s.data.toList.takeWhile cT).length) /\ w=w':=by
 have HL:=Lib.hid (show s.data.toList.length=s.size from Y)
 go_enter func179,Tryz.ntmps179
 go_wp2_with fail
 go_loop [5] (λv=>∃k:Nat,k <= s.size /\ v=.int .i64 k /\ (s.data.toList.takeWhile cT).length=k+((s.data.toList.drop k).takeWhile cT).length) (λv=>s.size-(intOf v).toNat)
 case atStart=>exact ⟨0,J,rfl,G0⟩
 case round=>
  obtain ⟨k,hk,rfl,hr⟩:=hrel
  by_cases hlt:k<s.size
  ·have HT:=Lib.hid (lH cT s.data.toList k Ct hr);clear hr
   by_cases hp:cT s[k]=true
   ·go_wp2_with (first|(go_at_call 180;refine (tC _ _).mono ?_;rintro e w' ⟨rfl,rfl⟩))
    go_round
    case rel=>exact ⟨k+1,J,C8,HT.out.1 hp⟩
    case measure=>simp [intOf];omega
   have hp':cT s[k]=false:=by simpa using hp
   clear hp
   go_wp2_with (first|(go_at_call 180;refine (tC _ _).mono ?_;rintro e w' ⟨rfl,rfl⟩))
   go_ret
   exact ⟨cZn (by rw [HT.out.2 hp']),Y⟩
  have HR:=Lib.hid hr;clear hr
  go_wp2_with fail
  go_ret
  refine ⟨cZn ?_,Y⟩
  rw [HR.out,List.drop_eq_nil_of_le Fo];rfl
structure Env (w:World):Prop where
 words:∀j,j<words.length -> w.cell? ⟨0,0+j,none⟩=some (.string (words.getD j ByteArray.empty))
 maxLen:∃m:Int,w.cell? ⟨2,0,none⟩=some (.int .i64 m)
 size:Nat.max 0 2+1 <= w.heap.size
theorem Env.below{B:Nat}{w w':World}(h:Env w)(hb:Below B w w')(hB:Nat.max 0 2+1 <= B):Env w':=by
 refine ⟨λj hj=>?_,?_,Nat.le_trans h.size hb.size⟩
 ·rw [hb.cell (p:=⟨0,0+j,none⟩) (Nat.lt_of_lt_of_le (V:0<Nat.max 0 2+1) hB)];exact h.words j hj
 rw [hb.cell (p:=⟨2,0,none⟩) (Nat.lt_of_lt_of_le (V:2<Nat.max 0 2+1) hB)];exact h.maxLen
theorem Env.alloc{w:World}(h:Env w)(o:Obj):Env (w.alloc o):=h.below ((Below.refl w.heap.size w).alloc (Nat.le_refl _) o) h.size
theorem Env.drew{w:World}(h:Env w):Env w.drew:=h.below ((Below.refl w.heap.size w).drew) h.size
theorem Env.setCell{w:World}(h:Env w){a:Addr}(ha:Nat.max 0 2+1 <= a.block)(u:Value):Env (w.setCell a u):=h.below ((Below.refl (Nat.max 0 2+1) w).setCell ha u) (Nat.le_refl _)
theorem yL(s:ByteArray)(w:World)(he:Env w):
  Calls prog 196 #[.slice (some ⟨0,0,none⟩) 11 11,.string s] w λe w'=>e=.returned (.bool (dA s)) /\ w=w':=by
 refine (Tryz.slices_Contains_string 0 0 11 11 words s w V V he.words).mono λe w' h=>⟨?_,h.2.symm⟩
 rw [h.1]
 refine kB ?_
 rw [Lib.containsS_iff,cZx];rfl
theorem aC5(s:ByteArray)(w:World)(he:Env w):
  Calls prog 181 #[.string s] w λe w'=>e=.returned (.bool (dA s)) /\ w=w':=by
 go_enter func181,Tryz.ntmps181
 go_wp2_with (first|(go_at_call 196;refine (yL _ _ he).mono ?_;rintro e w' ⟨rfl,rfl⟩))
 go_ret
 exact ⟨Y,Y⟩
theorem nZ(s:ByteArray)(p:UInt8 -> Bool):s.extract 0 (s.data.toList.takeWhile p).length=bytes (s.data.toList.takeWhile p):=by
 have:=ByteArray.extract_mk s.data.toList 0 (s.data.toList.takeWhile p).length
 rw [show (ByteArray.mk s.data.toList.toArray)=s from by simp] at this
 rw [this,bytes,List.drop_zero,Nat.sub_zero]
 congr 2
 conv=>rhs;rw [List.takeWhile_eq_take_findIdx_not]
 rw [List.takeWhile_eq_take_findIdx_not,List.length_take,List.take_eq_take_iff];omega
theorem aMr(s:ByteArray)(w:World)(hs:s.size <= 9223372036854775807)(he:Env w):
  Calls prog 154 #[.string s] w λe w'=>e=.returned (.tuple #[.agg #[.int .i64 ((if dA (bytes (s.data.toList.takeWhile cT)) then 3 else 1:Nat):Int),.string (bytes (s.data.toList.takeWhile cT)),.int .i64 0,.int .i64 0],.int .i64 ((if 16<(s.data.toList.takeWhile cT).length then 3 else 0:Nat):Int)]) /\ Below w.heap.size w w':=by
 have hle:(s.data.toList.takeWhile cT).length <= s.size:=(List.takeWhile_sublist _).length_le
 have hx:=nZ s cT
 have hsz:(bytes (s.data.toList.takeWhile cT)).size=(s.data.toList.takeWhile cT).length:=Co
 go_enter func154,Tryz.ntmps154
 go_wp2_with (first|(go_at_call 179;refine (aM0 _ _ hs).mono ?_;rintro e w' ⟨rfl,rfl⟩)|(go_at_call 181;refine (aC5 _ _ ((he.alloc _).alloc _)).mono ?_;rintro e w' ⟨rfl,rfl⟩))
 all_goals (go_returns;refine ⟨?_,B8⟩)
 all_goals first|rfl|(rw [if_pos J];rfl)|(rw [if_neg J];rfl)
theorem aJc(t:ByteArray)(k n:Nat)(hk:k<t.size)(h:iT 0 t.data.toList=iT n (t.data.toList.drop k)):
  ((9223372036854775807-(t[k].toNat-48))/10<n -> iT 0 t.data.toList=none) /\ (¬(9223372036854775807-(t[k].toNat-48))/10<n -> iT 0 t.data.toList=iT (10*n+(t[k].toNat-48)) (t.data.toList.drop (k+1))):=by
 rw [dR _ k (by exact hk),iT] at h
 refine ⟨λhn=>?_,λhn=>?_⟩
 ·rw [h];exact if_pos hn
 rw [h];exact if_neg hn
def aXp(t:ByteArray)(e:Ending):Prop:=∃n:Nat,(n:Int) <= 9223372036854775807 /\ ((iT 0 t.data.toList=none /\ e=.returned (.tuple #[.agg #[.int .i64 2,.string t,.int .i64 n,.int .i64 0],.int .i64 2]))∨(iT 0 t.data.toList=some n /\ e=.returned (.tuple #[.agg #[.int .i64 2,.string t,.int .i64 n,.int .i64 0],.int .i64 0])))
theorem aHi(s:ByteArray)(w:World)(hs:s.size <= 9223372036854775807):
  Calls prog 156 #[.string s] w λe w'=>aXp (bytes (s.data.toList.takeWhile cD)) e /\ Below w.heap.size w w':=by
 have hle:(s.data.toList.takeWhile cD).length <= s.size:=(List.takeWhile_sublist _).length_le
 have hx:=nZ s cD
 have hsz:(bytes (s.data.toList.takeWhile cD)).size=(s.data.toList.takeWhile cD).length:=Co
 have hall:∀c∈(bytes (s.data.toList.takeWhile cD)).data.toList,cD c=true:=by
  intro c hc;simp only [bytes] at hc;exact (List.all_eq_true.1 (List.all_takeWhile (p:=cD) (l:=s.data.toList))) c hc
 generalize hm:(s.data.toList.takeWhile cD).length=m at *
 generalize ht:bytes (s.data.toList.takeWhile cD)=t at *
 have HM:=Lib.hid hm
 have HT:=Lib.hid ht
 have HA:=Lib.hid hall
 have HX:=Lib.hid hx
 clear hm ht hall
 subst hsz
 go_enter func156,Tryz.ntmps156
 go_wp2_with (first|(go_at_call 179;refine (aI6 _ _ hs).mono ?_;rintro e w' ⟨rfl,rfl⟩;rw [HM.out]))
 go_loopw [15] (λv wr=>∃k n:Nat,k <= t.size /\ v=.int .i64 k /\ n <= 9223372036854775807 /\ iT 0 t.data.toList=iT n (t.data.toList.drop k) /\ wr=(w.alloc (Obj.cells #[Value.int IntKind.i64 0,Value.string {data:=#[]},Value.int IntKind.i64 0,Value.int IntKind.i64 0] 154)).alloc (Obj.cells #[Value.int IntKind.i64 2,Value.string t,Value.int IntKind.i64 n,Value.int IntKind.i64 0] 154)) (λv _=>t.size-(intOf v).toNat)
 case atStart=>exact ⟨0,0,J,rfl,J,rfl,rfl⟩
 case round=>
  obtain ⟨k,n,hk,rfl,hn,hv,rfl⟩:=hrel
  by_cases hlt:k<t.size
  ·have hst:=aJc t k n hlt hv
   have hd:cD t[k]=true:=HA.out _ (by simp [ByteArray.getElem_eq_getElem_data])
   have HS:=Lib.hid hst
   clear hst hv
   simp only [cD,decide_eq_true_eq] at hd
   obtain ⟨hd1,hd2⟩:=hd
   by_cases hov:(9223372036854775807-(t[k].toNat-48))/10<n
   ·have hov':(9223372036854775807-((t[k].toNat:Int)-48))/10<(n:Int):=J
    have HO:=Lib.hid hov
    clear hov
    go_wp2_with fail
    go_returns
    exact ⟨⟨n,J,.inl ⟨HS.out.1 HO.out,Y⟩⟩,B8⟩
   have hov':(n:Int) <= (9223372036854775807-((t[k].toNat:Int)-48))/10:=J
   have HO:=Lib.hid hov
   clear hov
   go_wp2_with fail
   go_roundw
   case rel=>exact ⟨k+1,10*n+(t[k].toNat-48),J,C8,J,HS.out.2 HO.out,by congr 5;go_num⟩
   case measure=>simp [intOf];omega
  have HV:=Lib.hid hv
  clear hv
  go_wp2_with fail
  go_returns
  refine ⟨⟨n,J,.inr ⟨?_,Y⟩⟩,B8⟩
  rw [HV.out,List.drop_eq_nil_of_le (by show t.size <= k;omega),iT]
theorem nT(sub:ByteArray)(w:World)(he:Env w):
  Calls prog 182 #[.string ⟨#[60,61,32,62,61,32,61,61,32,33,61,32,38,38,32,124,124]⟩,.string sub] w λe w'=>e=.returned (.bool (Lib.contains wG sub.data.toList)) /\ w=w':=by
 obtain ⟨m,hm⟩:=he.maxLen
 exact (Tryz.strings_Contains _ sub m w V hm).mono λe w' h=>⟨h.1,h.2.symm⟩
theorem oD(c:UInt8)(w:World):
  Calls prog 152 #[.string ⟨#[40,41,123,125,91,93,44,59,61,43,45,42,47,37,60,62,33]⟩,.int .u8 c.toNat] w λe w'=>e=.returned (.int .i64 (Lib.indexByte dW c)) /\ w=w':=by
 refine (oL _ _ _).mono λe w' h=>⟨?_,h.2⟩
 rw [h.1];congr 3;simp
def aE9(s:ByteArray)(n:Nat):Value:=.tuple #[.agg #[.int .i64 (if n=0 then 0 else 4),.string (bytes (s.data.toList.take n)),.int .i64 0,.int .i64 0],.int .i64 (if n=0 then 1 else 0)]
theorem pY(s:ByteArray)(n:Nat):s.extract 0 n=bytes (s.data.toList.take n):=by
 have:=ByteArray.extract_mk s.data.toList 0 n
 rw [show (ByteArray.mk s.data.toList.toArray)=s from by simp] at this
 rw [this,bytes,List.drop_zero,Nat.sub_zero]
theorem jR(l:List UInt8):(bytes l).data.toList=l:=Dn
theorem aLh(s:ByteArray)(w:World)(he:Env w)(h2:1<s.size)(h0:((s[0].toNat:Int) == 32)=false)(h1:((s[1].toNat:Int) == 32)=false)(hc:Lib.contains wG (s.data.toList.take 2)=true):
  Calls prog 157 #[.string s] w λe w'=>e=.returned (aE9 s 2) /\ Below w.heap.size w w':=by
 have h0':((s[0].toNat:Int) != 32)=true:=by simp at h0⊢;exact h0
 have h1':((s[1].toNat:Int) != 32)=true:=by simp at h1⊢;exact h1
 have h2':(1:Int)<s.size:=J
 have hx:=pY s 2
 have hbd:=jR (s.data.toList.take 2)
 go_enter func157,Tryz.ntmps157
 go_wp2_with (first|(go_at_call 182;refine (nT _ _ (he.alloc _)).mono ?_;rintro e w' ⟨rfl,rfl⟩))
 go_returns
 exact ⟨Y,B8⟩
inductive aH1 (s:ByteArray):Prop
 |short (h:(s.size:Int) <= 1)
 |first (h2:(1:Int)<s.size) (h0:0<s.size) (h:((s[0].toNat:Int) != 32)=false)
 |second (h2:(1:Int)<s.size) (h3:1<s.size) (h0:((s[0].toNat:Int) != 32)=true) (h:((s[1].toNat:Int) != 32)=false)
 |other (h2:(1:Int)<s.size) (h3:1<s.size) (h0:((s[0].toNat:Int) != 32)=true) (h1:((s[1].toNat:Int) != 32)=true) (hc:Lib.contains wG (s.data.toList.take 2)=false)
theorem aK7(s:ByteArray)(w:World)(he:Env w)(h2:0<s.size)(hn:aH1 s)(hb:0 <= Lib.indexByte dW s[0]):
  Calls prog 157 #[.string s] w λe w'=>e=.returned (aE9 s 1) /\ Below w.heap.size w w':=by
 have hx:=pY s 1
 cases hn
 all_goals
  go_enter func157,Tryz.ntmps157
  go_wp2_with (first|(go_at_call 182;refine (nT _ _ (he.alloc _)).mono ?_;rintro e w' ⟨rfl,rfl⟩)|(go_at_call 152;refine (oD _ _).mono ?_;rintro e w' ⟨rfl,rfl⟩))
  go_returns
  exact ⟨Y,B8⟩
theorem aKr(s:ByteArray)(w:World)(he:Env w)(h2:0<s.size)(hn:aH1 s)(hb:Lib.indexByte dW s[0]<0):
  Calls prog 157 #[.string s] w λe w'=>e=.returned (aE9 s 0) /\ Below w.heap.size w w':=by
 have hx:=pY s 1
 cases hn
 all_goals
  go_enter func157,Tryz.ntmps157
  go_wp2_with (first|(go_at_call 182;refine (nT _ _ (he.alloc _)).mono ?_;rintro e w' ⟨rfl,rfl⟩)|(go_at_call 152;refine (oD _ _).mono ?_;rintro e w' ⟨rfl,rfl⟩))
  go_returns
  exact ⟨Y,B8⟩
theorem aHm(c:UInt8):(c≠32 -> ((c.toNat:Int) != 32)=true) /\ (c=32 -> ((c.toNat:Int) != 32)=false):=by
 refine ⟨λh=>?_,λh=>by subst h;rfl⟩
 simp only [bne_iff_ne,ne_eq]
 intro h3;apply h;apply UInt8.toNat_inj.1;show c.toNat=32;omega
theorem aLp(s:ByteArray)(w:World)(he:Env w)(h0:0<s.size):
  Calls prog 157 #[.string s] w λe w'=>e=.returned (aE9 s (jE s.data.toList)) /\ Below w.heap.size w w':=by
 have hl:s.data.toList.length=s.size:=Y
 have hcons:=dR s.data.toList 0 J
 rw [List.drop_zero] at hcons
 have key:aH1 s /\ ¬(2 <= s.data.toList.length /\ s.data.toList.take 2∈fE) -> Calls prog 157 #[.string s] w λe w'=>e=.returned (aE9 s (jE s.data.toList)) /\ Below w.heap.size w w':=by
  rintro ⟨hn,hm⟩
  by_cases hb:Lib.indexByte dW s[0]<0
  ·have:=(vL _).1 hb
   rw [show jE s.data.toList=0 from by rw [hcons] at hm⊢;exact tL hm this]
   exact aKr s w he h0 hn hb
  have:s[0]∈dW:=Classical.byContradiction λh=>hb ((vL _).2 h)
  rw [show jE s.data.toList=1 from by rw [hcons] at hm⊢;exact oR hm this]
  exact aK7 s w he h0 hn J
 by_cases h2:1<s.size
 ·have e2:s.data.toList.take 2=[s[0],s[1]]:=by
   rw [hcons,dR s.data.toList 1 J];rfl
  by_cases ha:s[0]=32
  ·refine key ⟨.first J h0 ((aHm _).2 ha),λh=>?_⟩
   rw [e2] at h;exact (rK _ _ h.2).1 ha
  by_cases hb:s[1]=32
  ·refine key ⟨.second J h2 ((aHm _).1 ha) ((aHm _).2 hb),λh=>?_⟩
   rw [e2] at h;exact (rK _ _ h.2).2 hb
  by_cases hc:Lib.contains wG (s.data.toList.take 2)=true
  ·have hm:s.data.toList.take 2∈fE:=by rw [e2] at hc⊢;exact (aBy _ _ ha hb).1 hc
   rw [pA J hm]
   have h3:=(aHm _).1 ha
   have h4:=(aHm _).1 hb
   exact aLh s w he h2 (by simp at h3⊢;exact h3) (by simp at h4⊢;exact h4) hc
  refine key ⟨.other J h2 ((aHm _).1 ha) ((aHm _).1 hb) (by simpa using hc),λh=>hc ?_⟩
  have hm:=h.2
  rw [e2] at hm⊢;exact (aBy _ _ ha hb).2 hm
 ·exact key ⟨.short J,by rintro ⟨h,_⟩;omega⟩
theorem tF{W w1:World}(hb:Below W.heap.size W w1):(∀b o,b<W.heap.size -> w1.cell? ⟨b,o,none⟩=W.cell? ⟨b,o,none⟩) /\ (∀b o,b<W.heap.size -> w1.frozen? ⟨b,o,none⟩=W.frozen? ⟨b,o,none⟩):=
 ⟨λb o h=>hb.cell (p:=⟨b,o,none⟩) h,λb o h=>hb.frozen (p:=⟨b,o,none⟩) h⟩
def aLn(l:List UInt8)(k num er:Int)(text:ByteArray):Prop:=
 (∃n:Nat,dQ l=.err n /\ er=n /\ n≠0)∨(∃kd len nu:Nat,dQ l=.tok kd len nu /\ er=0 /\ k=kd /\ num=nu /\ text=bytes (l.take len))
def aI3(l:List UInt8)(e:Ending):Prop:=∃(k num er:Int) (text:ByteArray),e=.returned (.tuple #[.agg #[.int .i64 k,.string text,.int .i64 num,.int .i64 0],.int .i64 er]) /\ aLn l k num er text
theorem takeWhile_take{α:Type}(p:α -> Bool)(l:List α):l.take (l.takeWhile p).length=l.takeWhile p:=
 (List.prefix_iff_eq_take.1 (List.takeWhile_prefix p)).symm
theorem kS(s:ByteArray)(h0:0<s.size):s.data.toList=s[0]::s.data.toList.drop 1:=by
 have:=dR s.data.toList 0 (by exact h0)
 rw [List.drop_zero] at this;exact this
theorem aKk(s:ByteArray)(w:World)(hs:s.size <= 9223372036854775807)(he:Env w)(h0:0<s.size)(hl:fU s[0]=true):
  Calls prog 154 #[.string s] w λe w'=>aI3 s.data.toList e /\ Below w.heap.size w w':=by
 refine (aMr s w hs he).mono λe w' ⟨h,hb⟩=>⟨⟨_,_,_,_,h,?_⟩,hb⟩
 have hn:=kK (c:=s[0]) (r:=s.data.toList.drop 1) hl
 rw [←kS s h0] at hn
 by_cases h16:16<(s.data.toList.takeWhile cT).length
 ·rw [if_pos h16] at hn;exact .inl ⟨3,hn,by rw [if_pos h16],J⟩
 rw [if_neg h16] at hn;exact .inr ⟨_,_,_,hn,by rw [if_neg h16];rfl,rfl,rfl,by rw [takeWhile_take]⟩
theorem aEz(s:ByteArray)(w:World)(hs:s.size <= 9223372036854775807)(h0:0<s.size)(hl:fU s[0]=false)(hd:cD s[0]=true):
  Calls prog 156 #[.string s] w λe w'=>aI3 s.data.toList e /\ Below w.heap.size w w':=by
 refine (aHi s w hs).mono λe w' ⟨h,hb⟩=>⟨?_,hb⟩
 obtain ⟨n,_,⟨hn,h⟩|⟨hn,h⟩⟩:=h
 ·refine ⟨_,_,_,_,h,.inl ⟨2,?_,Y,J⟩⟩
  rw [jR] at hn
  rw [kS s h0] at hn;have hq:=nK hl hd hn;rw [←kS s h0] at hq;exact hq
 refine ⟨_,_,_,_,h,.inr ⟨2,(s.data.toList.takeWhile cD).length,n,?_,Y,Y,Y,by rw [takeWhile_take]⟩⟩
 rw [jR] at hn
 rw [kS s h0] at hn;have hq:=lP hl hd hn;rw [←kS s h0] at hq;exact hq
theorem aJ5(s:ByteArray)(w:World)(he:Env w)(h0:0<s.size)(hl:fU s[0]=false)(hd:cD s[0]=false):
  Calls prog 157 #[.string s] w λe w'=>aI3 s.data.toList e /\ Below w.heap.size w w':=by
 refine (aLp s w he h0).mono λe w' ⟨h,hb⟩=>⟨?_,hb⟩
 have hn:=iN (c:=s[0]) (r:=s.data.toList.drop 1) hl hd
 rw [←kS s h0] at hn
 by_cases hz:jE s.data.toList=0
 ·rw [if_pos hz] at hn
  rw [hz] at h;exact ⟨_,_,_,_,h,.inl ⟨1,hn,rfl,J⟩⟩
 rw [if_neg hz] at hn
 refine ⟨_,_,_,_,h,.inr ⟨_,_,_,hn,by rw [if_neg hz],by rw [if_neg hz];rfl,Y,Y⟩⟩
theorem aAf(s:ByteArray)(w:World)(hs:s.size <= 9223372036854775807)(he:Env w)(h0:0<s.size):
  Calls prog 127 #[.string s] w λe w'=>aI3 s.data.toList e /\ Below w.heap.size w w':=by
 by_cases hl:fU s[0]=true
 focus
  go_enter func127,Tryz.ntmps127
  go_wp2_with (first|(go_at_call 153;refine (cZ7 _ _).mono ?_;rintro e w' ⟨rfl,rfl⟩)|(go_at_call 154;refine (aKk _ _ hs (he.alloc _) h0 hl).mono ?_;rintro e w' ⟨⟨k,num,er,text,rfl,hR⟩,hb⟩;have HR:=Lib.hid hR;clear hR;obtain ⟨hc,hf⟩:=tF hb))
 rotate_left
 focus
  have hl':fU s[0]=false:=Dm
  clear hl
  by_cases hd:cD s[0]=true
  focus
   go_enter func127,Tryz.ntmps127
   go_wp2_with (first|(go_at_call 153;refine (cZ7 _ _).mono ?_;rintro e w' ⟨rfl,rfl⟩)|(go_at_call 155;refine (oV _ _).mono ?_;rintro e w' ⟨rfl,rfl⟩)|(go_at_call 156;refine (aEz _ _ hs h0 hl' hd).mono ?_;rintro e w' ⟨⟨k,num,er,text,rfl,hR⟩,hb⟩;have HR:=Lib.hid hR;clear hR;obtain ⟨hc,hf⟩:=tF hb))
  rotate_left
  have hd':cD s[0]=false:=by simpa using hd
  clear hd
  go_enter func127,Tryz.ntmps127
  go_wp2_with (first|(go_at_call 153;refine (cZ7 _ _).mono ?_;rintro e w' ⟨rfl,rfl⟩)|(go_at_call 155;refine (oV _ _).mono ?_;rintro e w' ⟨rfl,rfl⟩)|(go_at_call 157;refine (aJ5 _ _ (he.alloc _) h0 hl' hd').mono ?_;rintro e w' ⟨⟨k,num,er,text,rfl,hR⟩,hb⟩;have HR:=Lib.hid hR;clear hR;obtain ⟨hc,hf⟩:=tF hb))
 all_goals
  refine bodyPost_ret (v:=.tuple #[.agg #[.int .i64 k,.string text,.int .i64 num,.int .i64 0],.int .i64 er]) (by simp [results,Tryz.results127,go_sem,hc]) Y ?_
  exact ⟨⟨_,_,_,_,Y,HR.out⟩,((((Below.refl _ _).alloc (Nat.le_refl _) _).trans (hb.mono G0)).setCell G0 _).setCell G0 _|>.setCell G0 _|>.setCell G0 _⟩
def Tok.cells(t:Tok):List Value:=[.int .i64 t.kind,.string t.text,.int .i64 t.num,.int .i64 t.pos]
def dL(l:List Tok):List Value:=l.flatMap Tok.cells
theorem eP(l:List Tok)(t:Tok):dL l++[.int .i64 t.kind,.string t.text,.int .i64 t.num,.int .i64 t.pos]=dL (l++[t]):=by simp [dL,Tok.cells]
theorem aI5:(prog.info? 154).map (λi=>(i.zero,i.size,i.bytes))=some (some (.agg #[.int .i64 0,.string ⟨#[]⟩,.int .i64 0,.int .i64 0]),4,40):=B6
theorem aKq{l:List UInt8}{k num er:Int}{text:ByteArray}{n:Nat}(h:aLn l k num er text)(hn:dQ l=.err n):er=n /\ (n:Int)≠0:=by
 rcases h with ⟨m,h1,h2,h3⟩|⟨_,_,_,h1,_⟩
 ·rw [hn] at h1;cases h1;exact ⟨h2,J⟩
 rw [hn] at h1;cases h1
theorem aBq{l:List UInt8}{k num er:Int}{text:ByteArray}{a b c:Nat}(h:aLn l k num er text)(hn:dQ l=.tok a b c):er=0 /\ k=a /\ num=c /\ text=bytes (l.take b):=by
 rcases h with ⟨m,h1,h2,h3⟩|⟨_,_,_,h1,h2,h3,h4,h5⟩
 ·rw [hn] at h1;cases h1
 rw [hn] at h1;cases h1;exact ⟨h2,h3,h4,h5⟩
def aY0(w:World)(s:List UInt8)(v:Value)(pos er:Int):Prop:=
 (∃l,iH s=.ok l /\ dD w v l.length (dL l) /\ pos=s.length /\ er=0 /\ l.length <= 4001)∨(∃p e:Nat,iH s=.err p e /\ v=.slice none 0 0 /\ pos=p /\ er=e /\ e≠0)
def aCp(w:World)(N:Nat)(s:List UInt8)(v:Value)(pos er:Int):Prop:=
 (∃l,iH s=.ok l /\ w.ownsRow N 154 4 v l.length (dL l) /\ pos=s.length /\ er=0 /\ l.length <= 4001)∨(∃p e:Nat,iH s=.err p e /\ v=.slice none 0 0 /\ pos=p /\ er=e /\ e≠0)
theorem aCp.r{w:World}{N:Nat}{s:List UInt8}{v:Value}{pos er:Int}(h:aCp w N s v pos er):aY0 w s v pos er:=
 h.imp (λ⟨l,h1,h2,h3⟩=>⟨l,h1,dD.of_owns h2,h3⟩) id
theorem aK5(a:Option Addr)(n cap:Nat)(w:World)(hs:(262144:Int)<n):
  Calls prog 94 #[.slice a n cap] w λe w'=>e=.returned (.tuple #[.slice none 0 0,.int .i64 262144,.int .i64 3]) /\ w=w':=by
 go_enter func94,Tryz.ntmps94
 go_wp2_with fail
 go_step3
 go_wp2_with fail
 rw [Exit.noGoto_ret]
 go_ret3
 exact ⟨Y,Y⟩
theorem aOw(s:ByteArray)(a:Option Addr)(n cap:Nat)(w:World)(he:Env w)(hn:n=s.size)(hs:s.size <= 262144)
  (hcv:(convert 58 9 (.slice a n cap)).run prog w=.ok (.string s) w):
  Calls prog 94 #[.slice a n cap] w λe w'=>(∃v pos er,e=.returned (.tuple #[v,.int .i64 pos,.int .i64 er]) /\ aCp w' w.heap.size s.data.toList v pos er) /\ Below w.heap.size w w':=by
 subst hn
 obtain ⟨i0,hi,hz0,hz1,hz2⟩:=info_parts aI5
 have HS:=Lib.hid (show s.data.toList.length=s.size from Y)
 go_enter func94,Tryz.ntmps94
 go_wp2_with fail
 go_step3
 go_wp2_with fail
 go_step3
 go_wp2_with fail
 go_loopw [6,7] (λv at_ wr=>∃(k:Nat) (toks:List Tok),at_=.int .i64 k /\ k <= s.size /\ wr.ownsRow w.heap.size 154 4 v toks.length (dL toks) /\ kD s.data.toList 0 0=fX.app toks (kD s.data.toList k toks.length) /\ toks.length <= 4000 /\ Below w.heap.size w wr) (λ_ at_ _=>s.size-(intOf at_).toNat)
 case atStart=>exact ⟨0,[],rfl,J,ownsRow_nil _ _ _ _,by rw [fX.app_nil];rfl,G0,Below.refl _ _⟩
 case round=>
  obtain ⟨k,toks,rfl,hk,hown,hlx,hlen,hbel⟩:=hrel
  have heW:Env wr:=he.below hbel he.size
  obtain ⟨oa,oc,rfl⟩:=lR hown
  have hge:=lG s.data.toList k hk
  have HLX:=Lib.hid hlx
  clear hlx hcv
  by_cases hend:s.size <= bF s.data.toList k
  ·go_wp2_with (first|(go_at_call 126;refine (uH _ _ _ J hk).mono ?_;rintro e w' ⟨rfl,rfl⟩)|(at_builtin;refine wpList_append_own _ rfl _ _ 139 rfl w.heap.size 154 i0 _ 4 40 underlying139 hi hz0 hz1 hz2 rfl V _ toks.length (dL toks) rfl (ownsRow_below hown ((Below.refl _ _).alloc (Nat.le_refl _) _) (Nat.le_refl _)) ⟨wr.heap.size,0,none⟩ 1 1 [.int .i64 5,.string ⟨#[]⟩,.int .i64 0,.int .i64 s.size] rfl rfl (sK _ _ _) Bz B1 J Df ?_))
   intro v' w1 hown1 hgrow _
   have hb1:Below w.heap.size w w1:=Below.grow (hbel.alloc hbel.size _) hgrow Df (ownsRow_below hown ((Below.refl _ _).alloc (Nat.le_refl _) _) (Nat.le_refl _)) (Nat.le_refl _)
   clear hgrow
   go_wp2_with fail
   rw [Exit.noGoto_ret]
   go_ret3
   refine ⟨⟨_,_,_,Y,.inl ⟨toks++[⟨5,⟨#[]⟩,0,s.size⟩],?_,?_,by rw [HS.out],Y,DR⟩⟩,hb1⟩
   ·unfold iH
    rw [if_neg Fl,HLX.out,dAd (by rw [HS.out];exact hend),HS.out];rfl
   have:=hown1
   rw [←eP];simpa using this
  have hlt:bF s.data.toList k<s.size:=J
  have hx:s.extract (bF s.data.toList k) s.size=bytes (s.data.toList.drop (bF s.data.toList k)):=by
   have:=ByteArray.extract_mk s.data.toList (bF s.data.toList k) s.size
   rw [show (ByteArray.mk s.data.toList.toArray)=s from by simp] at this
   rw [this,bytes];congr 2;exact take_of_length_le (by rw [List.length_drop,HS.out];omega)
  have hsz:(bytes (s.data.toList.drop (bF s.data.toList k))).size=s.size-bF s.data.toList k:=by rw [bytes];show (List.drop _ _).toArray.size=_;rw [List.size_toArray,List.length_drop,HS.out]
  have HZ:=Lib.hid hsz
  have hbd:=jR (s.data.toList.drop (bF s.data.toList k))
  have HD:=Lib.hid hbd
  clear hsz hbd
  cases hnx:dQ (s.data.toList.drop (bF s.data.toList k)) with
  |err en=>
   have HN:=Lib.hid hnx
   clear hnx
   go_wp2_with (first|(go_at_call 126;refine (uH _ _ _ J hk).mono ?_;rintro e w' ⟨rfl,rfl⟩)|(go_at_call 127;refine (aAf _ _ Cx heW Cx).mono ?_;rintro e w1 ⟨⟨kd,num,er,text,rfl,hR⟩,hb⟩;rw [HD.out] at hR;obtain ⟨rfl,hne⟩:=aKq hR HN.out;clear hR;obtain ⟨hc,hf⟩:=tF hb))
   rw [Exit.noGoto_ret]
   go_ret3
   refine ⟨⟨_,_,_,Y,.inr ⟨bF s.data.toList k,en,?_,Y,Y,Y,J⟩⟩,(hbel.trans (hb.mono hbel.size)).alloc (Nat.le_trans hbel.size hb.size) _⟩
   unfold iH
   rw [if_neg Fl,HLX.out,uY E4 HN.out];rfl
  |tok nk len nu=>
   have hl1:=cZy (by intro h;have:=congrArg List.length h;rw [List.length_drop,HS.out] at this;simp at this;omega) hnx
   rw [List.length_drop,HS.out] at hl1
   have HN:=Lib.hid hnx
   clear hnx
   have htx:(bytes ((s.data.toList.drop (bF s.data.toList k)).take len)).size=len:=by
    rw [bytes];show (List.take _ _).toArray.size=_;rw [List.size_toArray,List.length_take,List.length_drop,HS.out];omega
   by_cases hfull:toks.length=4000
   ·have hf1:((toks.length:Int) == 4000)=true:=EQ
    have HF:=Lib.hid hfull
    clear hfull htx
    go_wp2_with (first|(go_at_call 126;refine (uH _ _ _ J hk).mono ?_;rintro e w' ⟨rfl,rfl⟩)|(go_at_call 127;refine (aAf _ _ Cx heW Cx).mono ?_;rintro e w1 ⟨⟨kd,num,er,text,rfl,hR⟩,hb⟩;rw [HD.out] at hR;obtain ⟨rfl,rfl,rfl,rfl⟩:=aBq hR HN.out;clear hR;obtain ⟨hc,hf⟩:=tF hb))
    rw [Exit.noGoto_ret]
    go_ret3
    refine ⟨⟨_,_,_,Y,.inr ⟨bF s.data.toList k,3,?_,Y,Y,Y,J⟩⟩,(hbel.trans (hb.mono hbel.size)).alloc (Nat.le_trans hbel.size hb.size) _⟩
    unfold iH
    rw [if_neg Fl,HLX.out,HF.out,sG E4 HN.out];rfl
   have hf1:((toks.length:Int) == 4000)=false:=DG
   have HF:=Lib.hid hfull
   have hlen2:toks.length<4000:=J
   clear hfull
   go_wp2_with (first|(go_at_call 126;refine (uH _ _ _ J hk).mono ?_;rintro e w' ⟨rfl,rfl⟩)|(go_at_call 127;refine (aAf _ _ Cx heW Cx).mono ?_;rintro e w1 ⟨⟨kd,num,er,text,rfl,hR⟩,hb⟩;rw [HD.out] at hR;obtain ⟨rfl,rfl,rfl,rfl⟩:=aBq hR HN.out;clear hR;obtain ⟨hc,hf⟩:=tF hb)|(at_builtin;refine wpList_append_own _ rfl _ _ 139 rfl w.heap.size 154 i0 _ 4 40 underlying139 hi hz0 hz1 hz2 rfl V _ toks.length (dL toks) rfl (ownsRow_below hown ((hb.alloc hb.size _).alloc (by have:=hb.size;simp;omega) _) (Nat.le_refl _)) ⟨w1.heap.size+1,0,none⟩ 1 1 [.int .i64 nk,.string (bytes ((s.data.toList.drop (bF s.data.toList k)).take len)),.int .i64 nu,.int .i64 (bF s.data.toList k)] rfl rfl (bXs _ _ _ _ G0) Bz B1 J CX ?_))
   intro v' w2 hown2 hgrow _
   have hb2:Below w.heap.size w w2:=Below.grow (((hbel.trans (hb.mono hbel.size)).alloc (Nat.le_trans hbel.size hb.size) _).alloc CX _) hgrow CX (ownsRow_below hown ((hb.alloc hb.size _).alloc (by have:=hb.size;simp;omega) _) (Nat.le_refl _)) (Nat.le_refl _)
   have hcw:∀o,w2.cell? ⟨w1.heap.size,o,none⟩=((w1.alloc (Obj.cells #[.int .i64 nk,.string (bytes ((s.data.toList.drop (bF s.data.toList k)).take len)),.int .i64 nu,.int .i64 (bF s.data.toList k)] 154)).cell? ⟨w1.heap.size,o,none⟩):=by
    intro o
    rw [aKa hgrow hown hb.size DR o]
    exact (Below.alloc (B:=(w1.alloc (Obj.cells #[.int .i64 nk,.string (bytes ((s.data.toList.drop (bF s.data.toList k)).take len)),.int .i64 nu,.int .i64 (bF s.data.toList k)] 154)).heap.size) (Below.refl _ _) (Nat.le_refl _) _).cell (p:=⟨w1.heap.size,o,none⟩) G0
   clear hgrow
   go_wp2_with fail
   go_roundw
   case rel=>
    refine ⟨bF s.data.toList k+len,toks++[⟨nk,bytes ((s.data.toList.drop (bF s.data.toList k)).take len),nu,bF s.data.toList k⟩],C8,J,?_,?_,DR,hb2⟩
    ·rw [←eP];simpa using hown2
    rw [HLX.out,nD (by rw [HS.out];exact hk) E4 HN.out HF.out,fX.app_cons];simp
   case measure=>simp [intOf];omega
theorem aN1(a:Option Addr)(n cap:Nat)(w:World)(s:List UInt8)(hn:n=s.length)(hs:262144<n):
  Calls prog 94 #[.slice a n cap] w λe w'=>(∃v pos er,e=.returned (.tuple #[v,.int .i64 pos,.int .i64 er]) /\ aCp w' w.heap.size s v pos er) /\ Below w.heap.size w w':=by
 refine (aK5 a n cap w J).mono λe w' ⟨h,hw⟩=>?_
 subst hw
 refine ⟨⟨_,_,_,h,.inr ⟨262144,3,?_,Y,Y,Y,J⟩⟩,Below.refl _ _⟩
 unfold iH;rw [if_pos J]
theorem aOn(s:List UInt8)(v:Value)(w:World)(he:Env w)(hv:dD w v s.length (s.map λc=>.int .u8 c.toNat)):
  Calls prog 94 #[v] w λe w'=>(∃v pos er,e=.returned (.tuple #[v,.int .i64 pos,.int .i64 er]) /\ aCp w' w.heap.size s v pos er) /\ Below w.heap.size w w':=by
 obtain ⟨a,cap,rfl,hc,hcells⟩:=hv
 by_cases hs:262144<s.length
 ·exact aN1 a _ cap w s Y hs
 have hconv:(convert 58 9 (.slice a s.length cap)).run prog w=.ok (.string (bytes s)) w:=by
  rcases hcells with h0|⟨b,off,rfl,hr⟩
  ·obtain rfl:s=[]:=by simpa using h0
   cases a with
   |none=>exact run_convert_bytes_nil w _ _ underlying58 underlying5 _ _ _ underlying9
   |some a=>
    have hl:=run_loadCells_list (P:=prog) w a [] Fc
    rw [run_convert_bytes_string w _ _ _ _ _ _ underlying58 underlying5 underlying9,length_nil,run_bytesToString w a 0 cap [] Dm]
    rfl
  rw [run_convert_bytes_arg w _ _ underlying58 underlying5 b off s.length cap (s.map λc=>(c.toNat:Int)) G0 ?_ _ underlying9]
  ·rw [strOfNums,List.map_map,bytes];congr 3;rw [show ((λn:Int=>UInt8.ofNat n.toNat) ∘ λc:UInt8=>(c.toNat:Int))=id from by funext c;simp];simp
  intro i hi
  rw [hr i (.int .u8 s[i].toNat) (by simp [hi])];simp [hi]
 have:=aOw (bytes s) a s.length cap w he Co (by show (List.toArray s).size <= _;rw [List.size_toArray];omega) hconv
 rw [jR] at this;exact this
def cC(s:List UInt8):List Value:=s.map λc=>.int .u8 c.toNat
theorem ByteRow.cell{w:World}{b off:Nat}{s:List UInt8}(h:∀j u,(cC s)[j]?=some u -> w.cell? ⟨b,off+j,none⟩=some u)(k:Nat)(hk:k<s.length):w.cell? ⟨b,off+k,none⟩=some (.int .u8 s[k].toNat):=
 h k _ (by simp [cC,hk])
theorem eL(c:UInt8)(w:World):
  Calls prog 81 #[.int .u8 c.toNat] w λe w'=>e=.returned (.bool (fU c)) /\ w=w':=by
 unfold fU
 generalize (c.toNat:Int)=n
 go_enter func81,Tryz.ntmps81
 go_wp2
 all_goals (go_ret;refine ⟨kB ?_,rfl⟩;simp;try omega)
theorem fJ(c:UInt8)(w:World):
  Calls prog 82 #[.int .u8 c.toNat] w λe w'=>e=.returned (.bool (cD c)) /\ w=w':=by
 unfold cD
 generalize (c.toNat:Int)=n
 go_enter func82,Tryz.ntmps82
 go_wp2
 all_goals (go_ret;refine ⟨kB ?_,rfl⟩;simp;try omega)
theorem aAx(zs:List ByteArray)(x:ByteArray)(k:Nat)(hk:k<zs.length)(h:x∈zs↔x∈zs.drop k):(zs[k]=x -> x∈zs) /\ (zs[k]≠x -> (x∈zs↔x∈zs.drop (k+1))):=by
 refine ⟨λe=>e▸getElem_mem hk,λe=>?_⟩
 rw [h,List.drop_eq_getElem_cons hk,mem_cons]
 exact ⟨λh=>h.resolve_left (λe'=>e e'.symm),.inr⟩
theorem aDm(zs:List ByteArray)(x:ByteArray)(v:Value)(w:World)(hv:dD w v zs.length (zs.map .string))(hn:zs.length <= 9223372036854775807):
  Calls prog 113 #[v,.string x] w λe w'=>e=.returned (.bool (zs.any λy=>decide (y=x))) /\ w=w':=by
 obtain ⟨a,cap,rfl,hc,hr⟩:=hv
 go_enter func113,Tryz.ntmps113
 go_wp2_with fail
 go_loop [5] (λv=>∃k:Nat,k <= zs.length /\ v=.int .i64 k /\ (x∈zs↔x∈zs.drop k)) (λv=>zs.length-(intOf v).toNat)
 case atStart=>exact ⟨0,J,rfl,G0⟩
 case round=>
  obtain ⟨k,hk,rfl,hm⟩:=hrel
  have HM:=Lib.hid hm
  clear hm
  by_cases hlt:k<zs.length
  ·rcases hr with h0|⟨b,off,rfl,hr⟩
   ·have:zs.length=0:=by simpa using congrArg List.length h0
    omega
   have hcell:=hr k (.string zs[k]) (by simp [hlt])
   clear hr
   have hst:=aAx zs x k hlt HM.out
   have HST:=Lib.hid hst
   clear hst
   by_cases he:zs[k]=x
   ·have hm:=HST.out.1 he
    have HM2:=Lib.hid hm
    clear hm
    have hq:=zZ he
    clear he
    go_wp2_with fail
    go_ret
    refine ⟨kB ?_,Y⟩
    simp [HM2.out]
   have hq:=xB he
   have HE:=Lib.hid he
   clear he
   go_wp2_with fail
   go_round
   case rel=>exact ⟨k+1,J,C8,HST.out.2 HE.out⟩
   case measure=>simp [intOf];omega
  clear hr
  go_wp2_with fail
  go_ret
  refine ⟨kB ?_,Y⟩
  have:x∉zs:=by rw [HM.out,List.drop_eq_nil_of_le J];simp
  simp [this]
theorem oN(s:ByteArray)(w:World):
  Calls prog 83 #[.string s] w λe w'=>e=.returned (.bool (dA s)) /\ Below w.heap.size w w':=by
 go_enter func83,Tryz.ntmps83
 go_wp2_with (first|(go_at_call 113;refine (aDm words _ _ _ (dD.new w (words.map .string) 9 11) V).mono ?_;rintro e w' ⟨rfl,rfl⟩))
 go_ret
 exact ⟨Y,B8⟩
theorem aK0(s:List UInt8)(k0:Nat)(v:Value)(w:World)(hv:dD w v s.length (cC s))(hs:s.length <= 1000000)(hk:k0 <= s.length):
  Calls prog 80 #[v,.int .i64 k0] w λe w'=>e=.returned (.int .i64 (bF s k0)) /\ w=w':=by
 obtain ⟨a,cap,rfl,hc,hr⟩:=hv
 go_enter func80,Tryz.ntmps80
 go_wp2_with fail
 go_loop [1] (λv=>∃k:Nat,k <= s.length /\ v=.int .i64 k /\ bF s k=bF s k0) (λv=>s.length-(intOf v).toNat)
 case atStart=>exact ⟨k0,hk,rfl,rfl⟩
 case round=>
  obtain ⟨k,hk,rfl,hm⟩:=hrel
  have HM:=Lib.hid hm
  clear hm
  by_cases hlt:k<s.length
  ·rcases hr with h0|⟨b,off,rfl,hr⟩
   ·have:s.length=0:=CY
    omega
   have hcell:=ByteRow.cell hr k hlt
   have HR:=Lib.hid hr
   clear hr
   cases hsp:isSp s[k] with
   |true=>
    have hn:=aGh s k hlt hsp
    have HN:=Lib.hid hn
    simp only [isSp,decide_eq_true_eq] at hsp
    clear hn
    rcases hsp with h|h|h|h
    ·have e32:((s[k].toNat:Int) == 32)=true:=C7
     clear h
     go_wp2_with fail
     go_round
     case rel=>exact ⟨k+1,J,C8,HN.out.trans HM.out⟩
     case measure=>simp [intOf];omega
    ·have e32:((s[k].toNat:Int) == 32)=false:=C7
     have e9:((s[k].toNat:Int) == 9)=true:=C7
     clear h
     go_wp2_with fail
     go_round
     case rel=>exact ⟨k+1,J,C8,HN.out.trans HM.out⟩
     case measure=>simp [intOf];omega
    ·have e32:((s[k].toNat:Int) == 32)=false:=C7
     have e9:((s[k].toNat:Int) == 9)=false:=C7
     have e10:((s[k].toNat:Int) == 10)=false:=C7
     have e13:((s[k].toNat:Int) == 13)=true:=C7
     clear h
     go_wp2_with fail
     go_round
     case rel=>exact ⟨k+1,J,C8,HN.out.trans HM.out⟩
     case measure=>simp [intOf];omega
    ·have e32:((s[k].toNat:Int) == 32)=false:=C7
     have e9:((s[k].toNat:Int) == 9)=false:=C7
     have e10:((s[k].toNat:Int) == 10)=true:=C7
     clear h
     go_wp2_with fail
     go_round
     case rel=>exact ⟨k+1,J,C8,HN.out.trans HM.out⟩
     case measure=>simp [intOf];omega
   |false=>
    have HP:=Lib.hid hsp
    simp only [isSp,decide_eq_false_iff_not,not_or] at hsp
    have f1:((s[k].toNat:Int) == 32)=false:=by rw [beq_eq_false_iff_ne];exact hsp.1
    have f2:((s[k].toNat:Int) == 9)=false:=by rw [beq_eq_false_iff_ne];exact hsp.2.1
    have f3:((s[k].toNat:Int) == 13)=false:=by rw [beq_eq_false_iff_ne];exact hsp.2.2.1
    have f4:((s[k].toNat:Int) == 10)=false:=by rw [beq_eq_false_iff_ne];exact hsp.2.2.2
    clear hsp
    have stop:¬(∃h2:k+1<s.length,s[k]=47 /\ s[k+1]=47) -> bF s k0=k:=λh=>by rw [←HM.out];exact zX s k hlt HP.out (aGs hlt h)
    have STOP:=Lib.hid stop
    clear stop
    by_cases h1:s.length <= k+1
    ·have g1:(s.length:Int) <= k+1:=J
     have hst:=STOP.out (by rintro ⟨h,_⟩;omega)
     have HST:=Lib.hid hst
     clear hst h1
     go_wp2_with fail
     go_ret
     exact ⟨cZn (by rw [HST.out]),Y⟩
    have g1:(k:Int)+1<s.length:=J
    have h1':k+1<s.length:=J
    clear h1
    by_cases h2:s[k]=47
    ·have g2:=((aJ1 s[k] 47 47 Y J).1 h2).1
     have hcell2:=ByteRow.cell HR.out (k+1) h1'
     have hcell3:=hcell2
     rw [←Nat.add_assoc] at hcell3
     by_cases h3:s[k+1]=47
     ·have g3:=((aJ1 s[k+1] 47 47 Y J).1 h3).1
      have H2:=Lib.hid h2
      have H3:=Lib.hid h3
      clear h2 h3
      go_wp2_with fail
      go_hide hQ
      go_loop [1] (λv=>∃j:Nat,k <= j /\ j <= s.length /\ v=.int .i64 j /\ (s.drop k).dropWhile (·!= 10)=(s.drop j).dropWhile (·!= 10)) (λv=>s.length-(intOf v).toNat)
      case atStart=>exact ⟨k,J,J,rfl,rfl⟩
      case round=>
       obtain ⟨j,hkj,hj,rfl,hd⟩:=hrel
       have HD:=Lib.hid hd
       clear hd hcell2 hcell3 hcell
       have fin:(s.drop k).dropWhile (·!= 10)=s.drop j -> bF s j=bF s k0:=λh=>(aHj s k j h1' H2.out H3.out h).trans HM.out
       have FIN:=Lib.hid fin
       clear fin
       by_cases hje:j<s.length
       ·have hcell:=ByteRow.cell HR.out j hje
        have hst:=aK3 s k j hje HD.out
        have HST:=Lib.hid hst
        clear hst
        by_cases h10:s[j]=10
        ·have e10:=((aJ1 s[j] 10 10 Y J).1 h10).2
         have hfin:=FIN.out (HST.out.1 h10)
         have hne:k≠j:=by rintro rfl;rw [H2.out] at h10;exact absurd h10 V
         have HF:=Lib.hid hfin
         clear hfin h10
         go_wp2_with fail
         subst hQ
         go_wp2_with fail
         go_round
         case rel=>exact ⟨j,J,rfl,HF.out⟩
         case measure=>simp [intOf];omega
        have e10:=((aJ1 s[j] 10 10 Y J).2 h10).2
        have hnx:=HST.out.2 h10
        have HNX:=Lib.hid hnx
        clear hnx h10
        go_wp2_with fail
        go_round
        case rel=>exact ⟨j+1,J,J,C8,HNX.out⟩
        case measure=>simp [intOf];omega
       have hfin:=FIN.out (by rw [HD.out,List.drop_eq_nil_of_le J];rfl)
       have HF:=Lib.hid hfin
       clear hfin
       go_wp2_with fail
       subst hQ
       go_wp2_with fail
       go_round
       case rel=>exact ⟨j,J,rfl,HF.out⟩
       case measure=>simp [intOf];omega
     have g3:=((aJ1 s[k+1] 47 47 Y J).2 h3).1
     have hst:=STOP.out (by rintro ⟨_,_,h⟩;exact h3 h)
     have HST:=Lib.hid hst
     clear hst h2 h3
     go_wp2_with fail
     go_ret
     exact ⟨cZn (by rw [HST.out]),Y⟩
    have g2:=((aJ1 s[k] 47 47 Y J).2 h2).1
    have hst:=STOP.out (by rintro ⟨_,h,_⟩;exact h2 h)
    have HST:=Lib.hid hst
    clear hst h2
    go_wp2_with fail
    go_ret
    exact ⟨cZn (by rw [HST.out]),Y⟩
  clear hr
  go_wp2_with fail
  go_ret
  exact ⟨cZn (by rw [←HM.out,aA5 _ _ J];omega),Y⟩
end
end Go.Proofs.YtjgeihmhppadaaaGreatDoor
