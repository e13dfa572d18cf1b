import Derived.Test.YtojinfngbbajgaaGreatDoorF7J
import Derived.Test.YtojinfngbbajgaaGreatDoorF6J
import Derived.KernelRfl
import Derived.Lib.SlBytesConst
import Derived.Test.YtojinfngbbajgaaGreatDoorF1J
import Derived.Test.YtojinfngbbajgaaGreatDoorF4J
set_option linter.all false
set_option synthInstance.maxHeartbeats 1000000
set_option synthInstance.maxSize 1000000
namespace Go.Proofs.YtojinfngbbajgaaGreatDoor
open Go.Proofs.Tryz
open List (length_append length_cons length_nil mem_append mem_cons not_mem_nil append_assoc getElem_mem take_of_length_le)
section
open Go.RowKit
abbrev aC0(bs:List UInt8)(m:Int):AT:=.fact (.fact (.c (.sl bs.length (iF bs))) 0 0 (words.map fun x=>.val (.string x))) 1 0 [.val (.int .i64 m)]
theorem aIt{t:AT}{b o:Nat}{cs:List AC}:Wk (.fact t b o cs) t:=fun w v h=>by cases h with|fact _ _ _ _ us _ h _ _=>exact h
theorem aLu{bs:List UInt8}{m:Int}:Wk (aC0 bs m) (.c (.sl bs.length (iF bs))):=fun w v h=>aIt w v (aIt w v h)
theorem yC{w:World}{us vs:List Value}(h:fG w (vs.map .val) us):us=vs:=by
 refine List.ext_getElem (by have:=h.len;simpa using this) fun i h1 h2=>?_
 have h3:=h.at_ i (by simpa using h2) h1
 generalize hx:(vs.map AC.val)[i]'(by simpa using h2)=x at h3
 rw [List.getElem_map] at hx
 subst hx
 generalize us[i]=u at h3
 cases h3;rfl
theorem aO7{bl:List Nat}{w:World}{bs:List UInt8}{m:Int}{v:Value}(h:dO (bI bl w) (aC0 bs m) v):Env w:=by
 cases h with
 |fact _ _ _ _ us2 _ h hm hma=>
  cases h with
  |fact _ _ _ _ us _ _ hw hwa=>
   obtain rfl:us2=[.int .i64 m]:=yC (vs:=[.int .i64 m]) hm
   obtain rfl:us=words.map .string:=yC (vs:=words.map .string) (by rw [List.map_map];exact hw)
   have h1:∀j,j<words.length -> w.cell? ⟨0,0+j,none⟩=some (.string (words.getD j ByteArray.empty)):=fun j hj=>by
    refine (gA (hwa j _ ?_)).1
    rw [List.getElem?_map,List.getElem?_eq_getElem hj];simp [List.getD,hj]
   have h2:w.cell? ⟨1,0,none⟩=some (.int .i64 m):=(gA (hma 0 _ rfl)).1
   refine ⟨h1,⟨m,h2⟩,?_⟩
   have e1:=gV (h1 0 (by decide))
   have e2:=gV h2
   exact Nat.succ_le_of_lt (Nat.max_lt.2 ⟨e1,e2⟩)
theorem aRa{F:FuncId}{bs:List UInt8}{s:Sto}{t0:AT}(hF:∀v w,dO (bI s.bl w) t0 v -> Calls prog F #[v] w fun e w'=>(∃v pos er,e=.returned (.tuple #[v,.int .i64 pos,.int .i64 er]) /\ aCp w' w.heap.size bs v pos er) /\ Below w.heap.size w w'):
  aL prog F [t0] [] s fun t s'=>aOk bs t /\ s'=s:=by
 intro vs w hm _ hl hr
 obtain ⟨v,rfl⟩:∃v,vs=[v]:=by
  cases vs with
  |nil=>cases hl
  |cons v vs=>cases vs with
   |nil=>exact ⟨v,rfl⟩
   |cons _ _=>simp at hl
 refine (hF v w (hr 0 (by simp) (by simp))).mono fun e w' ⟨⟨v',pos,er,he,hf⟩,hb⟩=>?_
 have hk:cW [] w w':=cW.of_below hb
 have hu:Up2 (bI s.bl w) (bI s.bl w'):=jA hk (fun _ h=>by cases h) (fun b h=>.inl h)
 obtain ⟨m1,m2⟩:=hm.up hu (fun b hb'=>hk.block b (hm.lt b hb') (by simp))
 have hm':Mem s w':=⟨hm.nodup,fun b hb'=>Nat.lt_of_lt_of_le (hm.lt b hb') hk.size,m1,m2⟩
 have t3:∀(x:AT)(p e2:Int),dO (bI s.bl w') x v' -> dO (bI s.bl w') (.tup [x,.c (.val (.int .i64 p)),.c (.val (.int .i64 e2))]) (.tuple #[v',.int .i64 p,.int .i64 e2]):=fun x p e2 hx=>by
  refine .tup _ [v',.int .i64 p,.int .i64 e2] rfl fun i h h'=>?_
  match i,h,h' with
  |0,_,_=>exact hx
  |1,_,_=>exact .c _ _ (.val _ rfl)
  |2,_,_=>exact .c _ _ (.val _ rfl)
 subst he
 rcases hf with ⟨l,h1,h2,rfl,rfl,h3⟩|⟨p,e2,h1,rfl,rfl,rfl,h2⟩
 ·refine ⟨_,_,s,rfl,⟨.inl ⟨l,h1,rfl,h3⟩,rfl⟩,t3 _ _ _ (.c _ _ (.sl _ _ (dL l) _ (aEs h2 hm.lt) ?_ ?_ ?_)),hm',hk,fun b hb=>.inl hb⟩
  ·rw [uW];simp
  ·rw [uW];exact (gU _ _ (aEv l)).at_
  exact uK h2
 exact ⟨_,_,s,rfl,⟨.inr ⟨p,e2,h1,rfl,h2⟩,rfl⟩,t3 _ _ _ (.c _ _ (.val _ rfl)),hm',hk,fun b hb=>.inl hb⟩
theorem aP8(bs:List UInt8)(m:Int)(s:Sto):aL prog 30 [aC0 bs m] [] s fun t s'=>aOk bs t /\ s'=s:=
 aRa fun v w h=>aOn bs v w (aO7 h) ((aBm (aLu _ _ h)).1.mono fun a u h=>(gA h).1)
section
variable {P:Program}{U T:List Nat}{o:Oper}{n d:Nat}{ts:List (Nat×AT)}{s:Sto}{K:AS -> Prop}
end
end
section
open Go.RowKit
theorem grownCap_le(w:World)(n:Nat)(e:TypeId)(hn:n<9223372036854775808):n <= grownCap w n 0 e /\ grownCap w n 0 e <= 9223372036854775807:=by
 unfold grownCap Question.cut
 have:w.tape w.drawn (.appendCap n 0 e)%(2 ^ 63-n)<2 ^ 63-n:=Nat.mod_lt _ (by omega)
 simp only
 omega
theorem aAt(w:World)(s:ByteArray)(c:Nat)(T:TypeId)(hc:s.size <= c)(fr:Nat×Nat):dD (w.drew.alloc (.cells (bytesRow s c) T fr)) (.slice (some ⟨w.heap.size,0,none⟩) s.size c) s.data.toList.length (cC s.data.toList):=by
 refine ⟨_,_,rfl,hc,.inr ⟨_,0,rfl,fun j u hu=>?_⟩⟩
 have hm:=World.cell?_alloc_mark w.drew (bytesRow s c) T fr j
 rw [Nat.zero_add]
 have e:(⟨w.drew.heap.size,j,none⟩:Addr)=⟨w.heap.size,j,none⟩:=rfl
 rw [←e,hm]
 have hj:j<s.data.toList.length:=by
  have:=(List.getElem?_eq_some_iff.1 hu).1
  simpa [cC] using this
 unfold bytesRow
 rw [Array.getElem?_append_left (by simpa using hj)]
 simp only [cC,List.getElem?_map] at hu
 simpa using hu
end
section
inductive bN (α:Type) where
 |ok (x:α) (k:Nat)
 |err (k e:Nat)
def bU(l:List Tok)(k:Nat):Tok:=l.getD k default
theorem bG{l:List Tok}{k:Nat}(h:k<l.length):bU l k=l[k]:=by unfold bU;rw [List.getD_eq_getElem?_getD,List.getElem?_eq_getElem h];rfl
def binOp(s:ByteArray):Nat×Nat:=
 if s=bytes [124,124] then (17,1) else if s=bytes [38,38] then (16,2) else if s=bytes [61,61] then (14,3) else if s=bytes [33,61] then (15,3) else
 if s=bytes [60] then (10,3) else if s=bytes [60,61] then (11,3) else if s=bytes [62] then (12,3) else if s=bytes [62,61] then (13,3) else
 if s=bytes [43] then (8,4) else if s=bytes [45] then (9,4) else if s=bytes [42] then (5,5) else if s=bytes [47] then (6,5) else if s=bytes [37] then (7,5) else (0,0)
def cS(l:List Tok)(k:Nat)(s:List UInt8):Bool:=decide ((bU l k).kind=4) && decide ((bU l k).text=bytes s)
def fR(l:List Tok)(sub:Nat -> bN aH)(level:Nat):Nat -> aH -> Nat -> bN aH
 |0,x,k=>.ok x k
 |n+1,x,k=>
  if (bU l k).kind=4 /\ (binOp (bU l k).text).2=level then
   match sub (k+1) with
   |.ok y k'=>fR l sub level n (.mk ((binOp (bU l k).text).1:Int) 0 aK [x,y]) k'
   |.err a e=>.err a e
  else .ok x k
def gS(l:List Tok)(single:Nat -> bN aH):Nat -> Nat -> bN aH
 |0,k=>single k
 |j+1,k=>
  match gS l single j k with
  |.ok x k'=>fR l (gS l single j) (5-j) (l.length+1) x k'
  |.err a e=>.err a e
def aKc(op:Int):bN aH -> bN aH
 |.ok x k=>.ok (.mk op 0 aK [x]) k
 |.err a e=>.err a e
def aHo(l:List Tok):bN aH -> bN aH
 |.ok x k=>if cS l k [41] then .ok x (k+1) else .err k 4
 |.err a e=>.err a e
def bL(l:List Tok):Nat -> Nat -> bN aH
 |0,k=>
  if (bU l k).kind=2 then .ok (.mk 1 (bU l k).num aK []) (k+1)
  else if (bU l k).kind=1 then .ok (.mk 2 0 (bU l k).text []) (k+1)
  else if cS l k [45]||cS l k [33]||cS l k [40] then .err k 3
  else .err k 4
 |d+1,k=>
  if (bU l k).kind=2 then .ok (.mk 1 (bU l k).num aK []) (k+1)
  else if (bU l k).kind=1 then .ok (.mk 2 0 (bU l k).text []) (k+1)
  else if cS l k [45] then aKc 3 (bL l d (k+1))
  else if cS l k [33] then aKc 4 (bL l d (k+1))
  else if cS l k [40] then aHo l (gS l (bL l d) 5 (k+1))
  else .err k 4
def lJ(l:List Tok)(k:Nat):bN aH:=gS l (bL l 24) 5 k
def rP(l:List Tok):Prop:=∃h:0<l.length,(l[l.length-1]'(by omega)).kind=5
theorem rP.more{l:List Tok}(h:rP l){k:Nat}(hk:k<l.length)(hn:(bU l k).kind≠5):k+1<l.length:=by
 obtain ⟨h0,h1⟩:=h
 rcases Nat.lt_or_ge (k+1) l.length with h|h
 ·exact h
 exfalso;apply hn;rw [bG hk];obtain rfl:k=l.length-1:=by omega
 exact h1
theorem mD{l:List Tok}{k:Nat}{s:List UInt8}(h:cS l k s=true):(bU l k).kind=4 /\ (bU l k).text=bytes s:=by simpa [cS] using h
def bN.In{α:Type}(l:List Tok)(k:Nat):bN α -> Prop
 |.ok _ k'=>k<k' /\ k'<l.length
 |.err a e=>k <= a /\ a<l.length /\ 0<e /\ e<16
theorem bN.In.mono{α:Type}{l:List Tok}{k j:Nat}{r:bN α}(h:r.In l k)(hj:j <= k):r.In l j:=by
 cases r<;>unfold bN.In at h⊢<;>omega
theorem aEh{l:List Tok}(hl:rP l){sub:Nat -> bN aH}{level:Nat}(hs:∀k,k<l.length -> (sub k).In l k):∀(n:Nat)(x:aH)(k j:Nat),j<k -> k<l.length -> (fR l sub level n x k).In l j
 |0,x,k,j,hj,hk=>by unfold fR;exact ⟨hj,hk⟩
 |n+1,x,k,j,hj,hk=>by
  unfold fR
  by_cases ht:(bU l k).kind=4 /\ (binOp (bU l k).text).2=level
  ·rw [if_pos ht]
   have hm:=hl.more hk (by omega)
   have h1:=hs (k+1) hm
   cases hr:sub (k+1) with
   |ok y k'=>
    rw [hr] at h1
    obtain ⟨h2,h3⟩:=h1
    exact aEh hl hs n _ k' j (by omega) h3
   |err a e=>
    rw [hr] at h1
    obtain ⟨h2,h3,h4,h5⟩:=h1
    exact ⟨by omega,h3,h4,h5⟩
  rw [if_neg ht];exact ⟨hj,hk⟩
theorem vV{l:List Tok}(hl:rP l){single:Nat -> bN aH}(hs:∀k,k<l.length -> (single k).In l k):∀(j k:Nat),k<l.length -> (gS l single j k).In l k
 |0,k,hk=>by unfold gS;exact hs k hk
 |j+1,k,hk=>by
  unfold gS
  have h1:=vV hl hs j k hk
  cases hr:gS l single j k with
  |ok x k'=>
   rw [hr] at h1
   exact aEh hl (fun k hk=>vV hl hs j k hk) _ _ _ _ h1.1 h1.2
  |err a e=>rw [hr] at h1;exact h1
theorem aIv{l:List Tok}{op:Int}{k j:Nat}{r:bN aH}(h:r.In l k)(hj:j <= k):(aKc op r).In l j:=by
 cases r with
 |ok x k'=>obtain ⟨h1,h2⟩:=h;exact ⟨by omega,h2⟩
 |err a e=>obtain ⟨h1,h2,h3,h4⟩:=h;exact ⟨by omega,h2,h3,h4⟩
theorem aPq{l:List Tok}(hl:rP l){k j:Nat}{r:bN aH}(h:r.In l k)(hj:j <= k):(aHo l r).In l j:=by
 cases r with
 |ok x k'=>
  obtain ⟨h1,h2⟩:=h
  show bN.In l j (if cS l k' [41] then .ok x (k'+1) else .err k' 4)
  by_cases hs:cS l k' [41]=true
  ·rw [if_pos hs];exact ⟨by omega,hl.more h2 (by rw [(mD hs).1];decide)⟩
  ·rw [if_neg hs];exact ⟨by omega,h2,by omega,by omega⟩
 |err a e=>obtain ⟨h1,h2,h3,h4⟩:=h;exact ⟨by omega,h2,h3,h4⟩
theorem nP{l:List Tok}(hl:rP l):∀(d k:Nat),k<l.length -> (bL l d k).In l k
 |0,k,hk=>by
  unfold bL
  by_cases h1:(bU l k).kind=2
  ·rw [if_pos h1];exact ⟨by omega,hl.more hk (by omega)⟩
  ·rw [if_neg h1]
   by_cases h2:(bU l k).kind=1
   ·rw [if_pos h2];exact ⟨by omega,hl.more hk (by omega)⟩
   ·rw [if_neg h2];split<;>exact ⟨by omega,hk,by omega,by omega⟩
 |d+1,k,hk=>by
  unfold bL
  by_cases h1:(bU l k).kind=2
  ·rw [if_pos h1];exact ⟨by omega,hl.more hk (by omega)⟩
  rw [if_neg h1]
  by_cases h2:(bU l k).kind=1
  ·rw [if_pos h2];exact ⟨by omega,hl.more hk (by omega)⟩
  rw [if_neg h2]
  by_cases h3:cS l k [45]=true
  ·rw [if_pos h3];exact aIv (nP hl d _ (hl.more hk (by rw [(mD h3).1];decide))) (by omega)
  rw [if_neg h3]
  by_cases h4:cS l k [33]=true
  ·rw [if_pos h4];exact aIv (nP hl d _ (hl.more hk (by rw [(mD h4).1];decide))) (by omega)
  rw [if_neg h4]
  by_cases h5:cS l k [40]=true
  ·rw [if_pos h5];exact aPq hl (vV hl (fun k hk=>nP hl d k hk) _ _ (hl.more hk (by rw [(mD h5).1];decide))) (by omega)
  rw [if_neg h5];exact ⟨by omega,hk,by omega,by omega⟩
theorem kY{l:List Tok}(hl:rP l){k:Nat}(hk:k<l.length):(lJ l k).In l k:=vV hl (fun k hk=>nP hl 24 k hk) 5 k hk
end
section
def bN.bind{α β:Type}(r:bN α)(f:α -> Nat -> bN β):bN β:=
 match r with
 |.ok x k=>f x k
 |.err a e=>.err a e
def dN(l:List Tok)(k:Nat)(s:List UInt8):Bool:=decide ((bU l k).kind=3) && decide ((bU l k).text=bytes s)
def jW(l:List Tok)(k:Nat):bN ByteArray:=if (bU l k).kind=1 then .ok (bU l k).text (k+1) else .err k 4
def qE(l:List Tok)(k:Nat):bN Nat:=if (bU l k).kind=2 then .ok (bU l k).num (k+1) else .err k 4
def fD(l:List Tok)(s:List UInt8)(k:Nat):bN Unit:=if cS l k s then .ok () (k+1) else .err k 4
def jT(l:List Tok)(n:ByteArray)(k:Nat):bN cY:=
 if cS l k [91] then (lJ l (k+1)).bind fun e k=>(fD l [93] k).bind fun _ k=>.ok ⟨n,[e]⟩ k else .ok ⟨n,[]⟩ k
def xV(l:List Tok)(k:Nat):bN cY:=(jW l k).bind (jT l)
def rC(l:List Tok)(k:Nat):bN eN:=
 if dN l k [109,117,116,101,120] then (xV l (k+1)).bind fun r k=>.ok ⟨true,r,.zero⟩ k
 else (lJ l k).bind fun e k=>.ok ⟨false,.zero,e⟩ k
def lI{α:Type}(l:List Tok)(el:Nat -> Nat -> bN α):Nat -> List α -> Nat -> bN (List α)
 |0,_,k=>.err k 4
 |n+1,acc,k=>(el acc.length k).bind fun x k=>if cS l k [44] then lI l el n (acc++[x]) (k+1) else (fD l [41] k).bind fun _ k=>.ok (acc++[x]) k
def jC{α:Type}(l:List Tok)(el:Nat -> Nat -> bN α)(k:Nat):bN (List α):=
 (fD l [40] k).bind fun _ k=>if cS l k [41] then .ok [] (k+1) else lI l el l.length [] k
def rA(l:List Tok)(k:Nat):bN (List eN):=jC l (fun _=>rC l) k
def oO(l:List Tok)(s:aJ)(k:Nat):bN aJ:=(fD l [59] k).bind fun _ k=>.ok s k
def qI(l:List Tok)(k:Nat):bN aJ:=(jW l k).bind fun n k=>(fD l [61] k).bind fun _ k=>(lJ l k).bind fun e k=>oO l (.mk 1 n e .zero [] [] []) k
def goP(l:List Tok)(k:Nat):bN aJ:=(jW l k).bind fun n k=>(rA l k).bind fun a k=>oO l (.mk 4 n .zero .zero a [] []) k
def nH(l:List Tok)(kind:Int)(k:Nat):bN aJ:=(xV l k).bind fun r k=>oO l (.mk kind aK .zero r [] [] []) k
def tA(l:List Tok)(blk:Nat -> bN (List aJ))(e:aH)(t:List aJ)(k:Nat):bN aJ:=
 if dN l k [101,108,115,101] then (blk (k+1)).bind fun f k=>.ok (.mk 7 aK e .zero [] t f) k else .ok (.mk 7 aK e .zero [] t []) k
def ifP(l:List Tok)(blk:Nat -> bN (List aJ))(k:Nat):bN aJ:=(lJ l k).bind fun e k=>(blk k).bind fun t k=>tA l blk e t k
def pJ(l:List Tok)(blk:Nat -> bN (List aJ))(k:Nat):bN aJ:=(lJ l k).bind fun e k=>(blk k).bind fun t k=>.ok (.mk 8 aK e .zero [] t []) k
def aD8(l:List Tok)(k:Nat):bN aJ:=oO l (.mk 9 aK .zero .zero [] [] []) k
def iB(l:List Tok)(n:ByteArray)(k:Nat):bN aJ:=
 if cS l k [61] then (lJ l (k+1)).bind fun e k=>oO l (.mk 2 n e .zero [] [] []) k else (rA l k).bind fun a k=>oO l (.mk 3 n .zero .zero a [] []) k
def mG(l:List Tok)(k:Nat):bN aJ:=(jW l k).bind (iB l)
def fB(l:List Tok)(blk:Nat -> bN (List aJ))(k:Nat):bN aJ:=
 if dN l k [118,97,114] then qI l (k+1)
 else if dN l k [103,111] then goP l (k+1)
 else if dN l k [108,111,99,107] then nH l 5 (k+1)
 else if dN l k [117,110,108,111,99,107] then nH l 6 (k+1)
 else if dN l k [105,102] then ifP l blk (k+1)
 else if dN l k [119,104,105,108,101] then pJ l blk (k+1)
 else if dN l k [114,101,116,117,114,110] then aD8 l (k+1)
 else mG l k
def eS(l:List Tok)(st:Nat -> bN aJ):Nat -> List aJ -> Nat -> bN (List aJ)
 |0,_,k=>.err k 4
 |n+1,acc,k=>if cS l k [125] then .ok acc (k+1) else (st k).bind fun s k=>eS l st n (acc++[s]) k
def eX(l:List Tok):Nat -> Nat -> bN (List aJ)
 |0,k=>if cS l k [123] then .err k 3 else .err k 4
 |d+1,k=>(fD l [123] k).bind fun _ k=>eS l (fB l (eX l d)) l.length [] k
def mP(l:List Tok)(k:Nat):bN aI:=
 (jW l k).bind fun n k=>
  if cS l k [61] then
   if cS l (k+1) [45] then (qE l (k+2)).bind fun i k=>(fD l [59] k).bind fun _ k=>.ok ⟨n,-(i:Int)⟩ k
   else (qE l (k+1)).bind fun i k=>(fD l [59] k).bind fun _ k=>.ok ⟨n,i⟩ k
  else (fD l [59] k).bind fun _ k=>.ok ⟨n,0⟩ k
def qX(l:List Tok)(k:Nat):bN Nat:=(qE l k).bind fun i k'=>if i<1∨64<i then .err k 3 else .ok i k'
def nE(l:List Tok)(re:Bool)(k:Nat):bN cL:=
 (jW l k).bind fun n k=>
  if re=false /\ cS l k [91]=true then (qX l (k+1)).bind fun i k=>(fD l [93] k).bind fun _ k=>(fD l [59] k).bind fun _ k=>.ok ⟨n,re,i⟩ k
  else (fD l [59] k).bind fun _ k=>.ok ⟨n,re,0⟩ k
def fQ(l:List Tok)(n k:Nat):bN aS:=
 if 6 <= n /\ ((bU l k).kind=1∨dN l k [109,117,116,101,120]=true) then .err k 3
 else if dN l k [109,117,116,101,120] then (jW l (k+1)).bind fun s k=>.ok ⟨s,true⟩ k else (jW l k).bind fun s k=>.ok ⟨s,false⟩ k
def sW(l:List Tok)(k:Nat):bN bS:=(jW l k).bind fun n k=>(jC l (fQ l) k).bind fun p k=>(eX l 24 k).bind fun b k=>.ok ⟨n,p,b⟩ k
def gR(l:List Tok)(x:cK)(k:Nat):bN cK:=
 if dN l k [118,97,114] then if 16 <= x.globals.length then .err k 3 else (mP l (k+1)).bind fun g k=>.ok {x with globals:=x.globals++[g]} k
 else if dN l k [109,117,116,101,120] then if 12 <= x.mutexes.length then .err k 3 else (nE l false (k+1)).bind fun m k=>.ok {x with mutexes:=x.mutexes++[m]} k
 else if dN l k [114,109,117,116,101,120] then if 12 <= x.mutexes.length then .err k 3 else (nE l true (k+1)).bind fun m k=>.ok {x with mutexes:=x.mutexes++[m]} k
 else if dN l k [102,117,110,99] then if 16 <= x.funcs.length then .err k 3 else (sW l (k+1)).bind fun f k=>.ok {x with funcs:=x.funcs++[f]} k
 else .err k 4
def lK(l:List Tok):Nat -> cK -> Nat -> bN cK
 |0,_,k=>.err k 4
 |n+1,x,k=>if (bU l k).kind=5 then .ok x k else (gR l x k).bind fun y k=>lK l n y k
def fH(l:List Tok):bN cK:=lK l l.length ⟨[],[],[]⟩ 0
theorem kP{l:List Tok}{k:Nat}{s:List UInt8}(h:dN l k s=true):(bU l k).kind=3 /\ (bU l k).text=bytes s:=by simpa [dN] using h
def bN.At{α:Type}(l:List Tok)(k:Nat):bN α -> Prop
 |.ok _ k'=>k <= k' /\ k'<l.length
 |.err a e=>k <= a /\ a<l.length /\ 0<e /\ e<16
theorem bN.In.at{α:Type}{l:List Tok}{k:Nat}{r:bN α}(h:r.In l k):r.At l k:=by
 cases r<;>unfold bN.In at h<;>unfold bN.At<;>omega
theorem bN.At.mono{α:Type}{l:List Tok}{k j:Nat}{r:bN α}(h:r.At l k)(hj:j <= k):r.At l j:=by
 cases r<;>unfold bN.At at h⊢<;>omega
theorem bN.At.in{α:Type}{l:List Tok}{k j:Nat}{r:bN α}(h:r.At l k)(hj:j<k):r.In l j:=by
 cases r<;>unfold bN.At at h<;>unfold bN.In<;>omega
theorem bN.In.bind{α β:Type}{l:List Tok}{k:Nat}{r:bN α}{f:α -> Nat -> bN β}(h:r.In l k)(hf:∀x k',k<k' -> k'<l.length -> (f x k').At l k'):(r.bind f).In l k:=by
 cases r with
 |ok x k'=>unfold bN.In at h;exact (hf x k' h.1 h.2).in h.1
 |err a e=>exact h
theorem bN.At.bind{α β:Type}{l:List Tok}{k:Nat}{r:bN α}{f:α -> Nat -> bN β}(h:r.At l k)(hf:∀x k',k <= k' -> k'<l.length -> (f x k').At l k'):(r.bind f).At l k:=by
 cases r with
 |ok x k'=>unfold bN.At at h;exact (hf x k' h.1 h.2).mono h.1
 |err a e=>exact h
theorem jO{α:Type}{l:List Tok}{k:Nat}{x:α}(hk:k<l.length):(bN.ok x k).At l k:=⟨Nat.le_refl _,hk⟩
theorem oH{α:Type}{l:List Tok}{k:Nat}(hk:k<l.length):(bN.err k 4:bN α).In l k:=⟨Nat.le_refl _,hk,by omega,by omega⟩
theorem qK{α:Type}{l:List Tok}{k:Nat}(hk:k<l.length):(bN.err k 3:bN α).In l k:=⟨Nat.le_refl _,hk,by omega,by omega⟩
section
variable {l:List Tok}(hl:rP l)
include hl
theorem gZ{k:Nat}(hk:k<l.length):(jW l k).In l k:=by
 unfold jW;split
 ·exact ⟨by omega,hl.more hk (by omega)⟩
 exact oH hk
theorem aDd{k:Nat}(hk:k<l.length):(qE l k).In l k:=by
 unfold qE;split
 ·exact ⟨by omega,hl.more hk (by omega)⟩
 exact oH hk
theorem eF{k:Nat}{s:List UInt8}(hk:k<l.length)(h:cS l k s=true):k+1<l.length:=hl.more hk (by rw [(mD h).1];decide)
theorem dK{k:Nat}{s:List UInt8}(hk:k<l.length)(h:dN l k s=true):k+1<l.length:=hl.more hk (by rw [(kP h).1];decide)
theorem gM{k:Nat}(s:List UInt8)(hk:k<l.length):(fD l s k).In l k:=by
 unfold fD;split
 ·rename_i h;exact ⟨by omega,eF hl hk h⟩
 exact oH hk
theorem aHg{n:ByteArray}{k:Nat}(hk:k<l.length):(jT l n k).At l k:=by
 unfold jT;split
 ·rename_i h
  exact (((kY hl (eF hl hk h)).bind fun _ _ _ hk=>((gM hl _ hk).bind fun _ _ _ hk=>jO hk).at).at).mono (by omega)
 exact jO hk
theorem aIi{k:Nat}(hk:k<l.length):(xV l k).In l k:=(gZ hl hk).bind fun _ _ _ hk=>aHg hl hk
theorem aDl{k:Nat}(hk:k<l.length):(rC l k).In l k:=by
 unfold rC;split
 ·rename_i h
  exact (((aIi hl (dK hl hk h)).bind fun _ _ _ hk=>jO hk).at).in (by omega)
 exact (kY hl hk).bind fun _ _ _ hk=>jO hk
theorem aEl{α:Type}{el:Nat -> Nat -> bN α}(he:∀n k,k<l.length -> (el n k).In l k):∀(n:Nat)(acc:List α)(k:Nat),k<l.length -> (lI l el n acc k).In l k
 |0,_,k,hk=>by unfold lI;exact oH hk
 |n+1,acc,k,hk=>by
  unfold lI
  refine (he acc.length k hk).bind fun x k' _ hk'=>?_
  split
  ·rename_i h
   exact (aEl he n _ (k'+1) (eF hl hk' h)).at.mono (by omega)
  exact ((gM hl _ hk').bind fun _ _ _ hk=>jO hk).at
theorem tK{α:Type}{el:Nat -> Nat -> bN α}(he:∀n k,k<l.length -> (el n k).In l k){k:Nat}(hk:k<l.length):(jC l el k).In l k:=by
 unfold jC
 refine (gM hl _ hk).bind fun x k' _ hk'=>?_
 split
 ·rename_i h
  exact (jO (eF hl hk' h)).mono (by omega)
 exact (aEl hl he _ _ _ hk').at
theorem aGe{k:Nat}(hk:k<l.length):(rA l k).In l k:=tK hl (fun _ _ hk=>aDl hl hk) hk
theorem sR{s:aJ}{k:Nat}(hk:k<l.length):(oO l s k).In l k:=(gM hl _ hk).bind fun _ _ _ hk=>jO hk
theorem aKp{k:Nat}(hk:k<l.length):(qI l k).In l k:=
 (gZ hl hk).bind fun _ _ _ hk=>((gM hl _ hk).bind fun _ _ _ hk=>((kY hl hk).bind fun _ _ _ hk=>(sR hl hk).at).at).at
theorem aQj{k:Nat}(hk:k<l.length):(goP l k).In l k:=(gZ hl hk).bind fun _ _ _ hk=>((aGe hl hk).bind fun _ _ _ hk=>(sR hl hk).at).at
theorem aEj{kd:Int}{k:Nat}(hk:k<l.length):(nH l kd k).In l k:=(aIi hl hk).bind fun _ _ _ hk=>(sR hl hk).at
theorem aCl{n:ByteArray}{k:Nat}(hk:k<l.length):(iB l n k).At l k:=by
 unfold iB;split
 ·rename_i h
  exact (((kY hl (eF hl hk h)).bind fun _ _ _ hk=>(sR hl hk).at).at).mono (by omega)
 exact ((aGe hl hk).bind fun _ _ _ hk=>(sR hl hk).at).at
theorem aJh{k:Nat}(hk:k<l.length):(mG l k).In l k:=(gZ hl hk).bind fun _ _ _ hk=>aCl hl hk
section
variable {blk:Nat -> bN (List aJ)}(hb:∀k,k<l.length -> (blk k).In l k)
include hb
theorem aLw{e:aH}{t:List aJ}{k:Nat}(hk:k<l.length):(tA l blk e t k).At l k:=by
 unfold tA;split
 ·rename_i h
  exact (((hb _ (dK hl hk h)).bind fun _ _ _ hk=>jO hk).at).mono (by omega)
 exact jO hk
theorem aQg{k:Nat}(hk:k<l.length):(ifP l blk k).In l k:=(kY hl hk).bind fun _ _ _ hk=>((hb _ hk).bind fun _ _ _ hk=>aLw hl hb hk).at
theorem aKb{k:Nat}(hk:k<l.length):(pJ l blk k).In l k:=(kY hl hk).bind fun _ _ _ hk=>((hb _ hk).bind fun _ _ _ hk=>jO hk).at
theorem zE{k:Nat}(hk:k<l.length):(fB l blk k).In l k:=by
 unfold fB
 split;·rename_i h;exact (aKp hl (dK hl hk h)).mono (by omega)
 split;·rename_i h;exact (aQj hl (dK hl hk h)).mono (by omega)
 split;·rename_i h;exact (aEj hl (dK hl hk h)).mono (by omega)
 split;·rename_i h;exact (aEj hl (dK hl hk h)).mono (by omega)
 split;·rename_i h;exact (aQg hl hb (dK hl hk h)).mono (by omega)
 split;·rename_i h;exact (aKb hl hb (dK hl hk h)).mono (by omega)
 split;·rename_i h;exact (sR hl (dK hl hk h)).mono (by omega)
 exact aJh hl hk
end
theorem aB8{st:Nat -> bN aJ}(hs:∀k,k<l.length -> (st k).In l k):∀(n:Nat)(acc:List aJ)(k:Nat),k<l.length -> (eS l st n acc k).In l k
 |0,_,k,hk=>by unfold eS;exact oH hk
 |n+1,acc,k,hk=>by
  unfold eS;split
  ·rename_i h;exact ⟨by omega,eF hl hk h⟩
  exact (hs k hk).bind fun s k' _ hk'=>(aB8 hs n _ k' hk').at
theorem pB:∀(d k:Nat),k<l.length -> (eX l d k).In l k
 |0,k,hk=>by unfold eX;split;exact qK hk;exact oH hk
 |d+1,k,hk=>by
  unfold eX
  exact (gM hl _ hk).bind fun _ k' _ hk'=>(aB8 hl (fun k hk=>zE hl (fun k hk=>pB d k hk) hk) _ _ _ hk').at
theorem aGr{k:Nat}(hk:k<l.length):(mP l k).In l k:=by
 unfold mP
 refine (gZ hl hk).bind fun _ k _ hk=>?_
 split
 ·rename_i h
  have h1:=eF hl hk h
  split
  ·rename_i h2
   have h3:=eF hl h1 h2
   exact (((aDd hl h3).bind fun _ _ _ hk=>((gM hl _ hk).bind fun _ _ _ hk=>jO hk).at).at).mono (by omega)
  exact (((aDd hl h1).bind fun _ _ _ hk=>((gM hl _ hk).bind fun _ _ _ hk=>jO hk).at).at).mono (by omega)
 exact ((gM hl _ hk).bind fun _ _ _ hk=>jO hk).at
theorem aMw{k:Nat}(hk:k<l.length):(qX l k).In l k:=by
 unfold qX
 have h:=aDd hl hk
 cases hr:qE l k with
 |ok i k'=>
  rw [hr] at h
  show bN.In l k (if i<1∨64<i then .err k 3 else .ok i k')
  split
  ·exact qK hk
  ·exact h
 |err a e=>rw [hr] at h;exact h
theorem aB7{re:Bool}{k:Nat}(hk:k<l.length):(nE l re k).In l k:=by
 unfold nE
 refine (gZ hl hk).bind fun _ k _ hk=>?_
 split
 ·rename_i h
  exact (((aMw hl (eF hl hk h.2)).bind fun _ _ _ hk=>((gM hl _ hk).bind fun _ _ _ hk=>((gM hl _ hk).bind fun _ _ _ hk=>jO hk).at).at).at).mono (by omega)
 exact ((gM hl _ hk).bind fun _ _ _ hk=>jO hk).at
theorem sJ{n k:Nat}(hk:k<l.length):(fQ l n k).In l k:=by
 unfold fQ;split
 ·exact qK hk
 split
 ·rename_i h
  exact (((gZ hl (dK hl hk h)).bind fun _ _ _ hk=>jO hk).at).in (by omega)
 exact (gZ hl hk).bind fun _ _ _ hk=>jO hk
theorem aMl{k:Nat}(hk:k<l.length):(sW l k).In l k:=
 (gZ hl hk).bind fun _ _ _ hk=>((tK hl (fun _ _ hk=>sJ hl hk) hk).bind fun _ _ _ hk=>((pB hl 24 _ hk).bind fun _ _ _ hk=>jO hk).at).at
theorem aAj{x:cK}{k:Nat}(hk:k<l.length):(gR l x k).In l k:=by
 unfold gR
 split
 ·rename_i h;split
  ·exact qK hk
  exact (((aGr hl (dK hl hk h)).bind fun _ _ _ hk=>jO hk).at).in (by omega)
 split
 ·rename_i h;split
  ·exact qK hk
  exact (((aB7 hl (dK hl hk h)).bind fun _ _ _ hk=>jO hk).at).in (by omega)
 split
 ·rename_i h;split
  ·exact qK hk
  exact (((aB7 hl (dK hl hk h)).bind fun _ _ _ hk=>jO hk).at).in (by omega)
 split
 ·rename_i h;split
  ·exact qK hk
  exact (((aMl hl (dK hl hk h)).bind fun _ _ _ hk=>jO hk).at).in (by omega)
 exact oH hk
theorem aD9:∀(n:Nat)(x:cK)(k:Nat),k<l.length -> (lK l n x k).At l k
 |0,_,k,hk=>by unfold lK;exact (oH hk).at
 |n+1,x,k,hk=>by
  unfold lK;split
  ·exact jO hk
  exact ((aAj hl hk).bind fun y k' _ hk'=>aD9 n y k' hk').at
end
end
section
def Run{α:Type}(e0 k0:Nat)(r:bN α)(x:α)(k e:Nat):Prop:=
 (e0≠0 /\ k=k0 /\ e=e0)∨(e0=0 /\ ((r=.ok x k /\ e=0)∨(r=.err k e /\ e≠0)))
section
variable {α β:Type}{e0 k0 k k2 e e2:Nat}{r:bN α}{x:α}{y:β}
theorem Run.skip(h:e0≠0)(r:bN α)(x:α):Run e0 k0 r x k0 e0:=.inl ⟨h,rfl,rfl⟩
theorem Run.ok(x:α)(k0 k:Nat)(h:r=.ok x k):Run 0 k0 r x k 0:=.inr ⟨rfl,.inl ⟨h,rfl⟩⟩
theorem Run.err(x:α)(k0 k e:Nat)(h:r=.err k e)(he:e≠0):Run 0 k0 r x k e:=.inr ⟨rfl,.inr ⟨h,he⟩⟩
theorem Run.pure(x:α)(k e:Nat):Run e k (.ok x k) x k e:=by
 by_cases h:e=0
 ·subst h;exact .ok x k k rfl
 exact .skip h _ _
theorem Run.bind{f:α -> Nat -> bN β}(h:Run e0 k0 r x k e)(h2:Run e k (f x k) y k2 e2):Run e0 k0 (r.bind f) y k2 e2:=by
 rcases h with ⟨h0,rfl,rfl⟩|⟨rfl,⟨rfl,rfl⟩|⟨rfl,he⟩⟩
 ·rcases h2 with ⟨_,rfl,rfl⟩|⟨h3,_⟩
  ·exact .inl ⟨h0,rfl,rfl⟩
  exact absurd h3 h0
 ·rcases h2 with ⟨h3,_⟩|⟨_,h2⟩
  ·exact absurd rfl h3
  exact .inr ⟨rfl,h2⟩
 rcases h2 with ⟨_,rfl,rfl⟩|⟨h3,_⟩
 ·exact .inr ⟨rfl,.inr ⟨rfl,he⟩⟩
 exact absurd h3 he
theorem Run.map{f:α -> β}(h:Run e0 k0 r x k e):Run e0 k0 (r.bind fun x k=>.ok (f x) k) (f x) k e:=h.bind (Run.pure _ _ _)
theorem Run.yes{c:Prop}[Decidable c]{a b:bN α}(hc:e0=0 -> c)(h:Run e0 k0 a x k e):Run e0 k0 (if c then a else b) x k e:=by
 by_cases h0:e0=0
 ·rw [if_pos (hc h0)];exact h
 rcases h with ⟨_,rfl,rfl⟩|⟨h3,_⟩
 ·exact .skip h0 _ _
 exact absurd h3 h0
theorem Run.no{c:Prop}[Decidable c]{a b:bN α}(hc:e0=0 -> ¬c)(h:Run e0 k0 b x k e):Run e0 k0 (if c then a else b) x k e:=by
 by_cases h0:e0=0
 ·rw [if_neg (hc h0)];exact h
 rcases h with ⟨_,rfl,rfl⟩|⟨h3,_⟩
 ·exact .skip h0 _ _
 exact absurd h3 h0
theorem Run.from{k1:Nat}(h:Run 0 k1 r x k e):Run 0 k0 r x k e:=by
 rcases h with ⟨h0,_⟩|h
 ·exact absurd rfl h0
 exact .inr h
theorem Run.eq{r':bN α}(h:Run e0 k0 r x k e)(hr:e0=0 -> r=r'):Run e0 k0 r' x k e:=by
 rcases h with ⟨h0,h1,h2⟩|⟨h0,h⟩
 ·exact .inl ⟨h0,h1,h2⟩
 rw [hr h0] at h;exact .inr ⟨h0,h⟩
theorem Run.good(h:Run e0 k0 r x k e)(he:e=0):e0=0 /\ r=.ok x k:=by
 rcases h with ⟨h0,_,rfl⟩|⟨rfl,⟨rfl,rfl⟩|⟨rfl,h1⟩⟩
 ·exact absurd he h0
 ·exact ⟨rfl,rfl⟩
 exact absurd he h1
theorem Run.place{l:List Tok}(h:Run e0 k0 r x k e)(hk:k0<l.length)(hr:e0=0 -> r.At l k0):k0 <= k /\ k<l.length:=by
 rcases h with ⟨h0,rfl,rfl⟩|⟨rfl,⟨rfl,rfl⟩|⟨rfl,h1⟩⟩
 ·exact ⟨Nat.le_refl _,hk⟩
 ·exact hr rfl
 exact ⟨(hr rfl).1,(hr rfl).2.1⟩
theorem Run.small{l:List Tok}(h:Run e0 k0 r x k e)(he:e0<16)(hr:e0=0 -> r.At l k0):e<16:=by
 rcases h with ⟨h0,rfl,rfl⟩|⟨rfl,⟨rfl,rfl⟩|⟨rfl,h1⟩⟩
 ·exact he
 ·omega
 exact (hr rfl).2.2.2
end
def kX{α:Type}(e0 b0:Nat)(r:bN α)(x:α)(k b e:Nat):Prop:=
 (e0≠0 /\ b=b0 /\ e=e0)∨(e0=0 /\ ((r=.ok x k /\ e=0 /\ b=b0)∨(r=.err b e /\ e≠0)))
section
variable {α β:Type}{e0 b0 k k0 b k2 b2 e e2:Nat}{r:bN α}{x:α}{y:β}
theorem kX.skip(h:e0≠0)(r:bN α)(x:α)(k:Nat):kX e0 b0 r x k b0 e0:=.inl ⟨h,rfl,rfl⟩
theorem kX.ok(x:α)(k b0:Nat)(h:r=.ok x k):kX 0 b0 r x k b0 0:=.inr ⟨rfl,.inl ⟨h,rfl,rfl⟩⟩
theorem kX.err(x:α)(k b0 b e:Nat)(h:r=.err b e)(he:e≠0):kX 0 b0 r x k b e:=.inr ⟨rfl,.inr ⟨h,he⟩⟩
theorem kX.pure(x:α)(k b e:Nat):kX e b (.ok x k) x k b e:=by
 by_cases h:e=0
 ·subst h;exact .ok x k b rfl
 exact .skip h _ _ _
theorem kX.bind{f:α -> Nat -> bN β}(h:kX e0 b0 r x k b e)(h2:kX e b (f x k) y k2 b2 e2):kX e0 b0 (r.bind f) y k2 b2 e2:=by
 rcases h with ⟨h0,rfl,rfl⟩|⟨rfl,⟨rfl,rfl,rfl⟩|⟨rfl,he⟩⟩
 ·rcases h2 with ⟨_,rfl,rfl⟩|⟨h3,_⟩
  ·exact .inl ⟨h0,rfl,rfl⟩
  exact absurd h3 h0
 ·rcases h2 with ⟨h3,_⟩|⟨_,h2⟩
  ·exact absurd rfl h3
  exact .inr ⟨rfl,h2⟩
 rcases h2 with ⟨_,rfl,rfl⟩|⟨h3,_⟩
 ·exact .inr ⟨rfl,.inr ⟨rfl,he⟩⟩
 exact absurd h3 he
theorem kX.map{f:α -> β}(h:kX e0 b0 r x k b e):kX e0 b0 (r.bind fun x k=>.ok (f x) k) (f x) k b e:=h.bind (kX.pure _ _ _ _)
theorem kX.yes{c:Prop}[Decidable c]{a d:bN α}(hc:e0=0 -> c)(h:kX e0 b0 a x k b e):kX e0 b0 (if c then a else d) x k b e:=by
 by_cases h0:e0=0
 ·rw [if_pos (hc h0)];exact h
 rcases h with ⟨_,rfl,rfl⟩|⟨h3,_⟩
 ·exact .skip h0 _ _ _
 exact absurd h3 h0
theorem kX.no{c:Prop}[Decidable c]{a d:bN α}(hc:e0=0 -> ¬c)(h:kX e0 b0 d x k b e):kX e0 b0 (if c then a else d) x k b e:=by
 by_cases h0:e0=0
 ·rw [if_neg (hc h0)];exact h
 rcases h with ⟨_,rfl,rfl⟩|⟨h3,_⟩
 ·exact .skip h0 _ _ _
 exact absurd h3 h0
theorem kX.eq{r':bN α}(h:kX e0 b0 r x k b e)(hr:e0=0 -> r=r'):kX e0 b0 r' x k b e:=by
 rcases h with ⟨h0,h1,h2⟩|⟨h0,h⟩
 ·exact .inl ⟨h0,h1,h2⟩
 rw [hr h0] at h;exact .inr ⟨h0,h⟩
theorem kX.good(h:kX e0 b0 r x k b e)(he:e=0):e0=0 /\ r=.ok x k /\ b=b0:=by
 rcases h with ⟨h0,_,rfl⟩|⟨rfl,⟨rfl,rfl,rfl⟩|⟨rfl,h1⟩⟩
 ·exact absurd he h0
 ·exact ⟨rfl,rfl,rfl⟩
 exact absurd he h1
theorem kX.small{l:List Tok}(h:kX e0 b0 r x k b e)(he:e0<16)(hr:e0=0 -> r.At l k0):e<16:=by
 rcases h with ⟨h0,rfl,rfl⟩|⟨rfl,⟨rfl,rfl,rfl⟩|⟨rfl,h1⟩⟩
 ·exact he
 ·omega
 exact (hr rfl).2.2.2
end
end
section
open Go.RowKit
section
variable {P:Program}{U T:List Nat}{o:Oper}{n d:Nat}{ts:List (Nat×AT)}{s:Sto}{K:AS -> Prop}{st:AS}
theorem aNq{x y:Operand}{tys:Array TypeId}{m k:Int}(r:Int)(ho:o.op=.call {callee:=.builtin .max,args:=#[x,y],argTypes:=tys})(hx:evA st x=some (.c (.val (.int .i64 m))))(hy:evA st y=some (.c (.val (.int .i64 k))))(hr:max m k=r):AY P U o st (.c (.val (.int .i64 r))):=
 fW rfl fun a w hs w'=>by
  subst hr
  simp only [execOp,ho,resolve,List.map_toArray,List.map_cons,List.map_nil,hs.val hx,hs.val hy]
  simp [go_sem,invoke,builtin]
theorem aL5{w:World}{a:Option Addr}{k cap z l h:Nat}{cs:List AC}(hr:Rep w (.sl k cs) (.slice a k cap))(h1:l <= h)(h2:h <= k):Rep w (.sl (h-l) ((cs.drop (l*z)).take ((h-l)*z))) (.slice (if cap=l then a else a.map (·.add (l*z))) (h-l) (cap-l)):=by
 cases hr with
 |sl _ _ us _ hra hl hh hcap=>
  obtain ⟨a',cap',he,hc,hcell⟩:=hra
  cases he
  have hR:fG w cs us:=⟨hl,hh⟩
  have hR2:=(hR.drop (l*z)).take ((h-l)*z)
  refine .sl _ _ ((us.drop (l*z)).take ((h-l)*z)) _ ⟨_,_,rfl,by omega,?_⟩ hR2.len hR2.at_ (fun _ _ _ h9=>by cases h9;have:=hcap _ _ _ rfl;omega)
  rcases hcell with h0|⟨b,off,rfl,hcell⟩
  ·left;subst h0;simp
  by_cases hcl:cap=l
  ·left
   have:h-l=0:=by omega
   rw [this];simp
  right
  rw [if_neg hcl]
  refine ⟨b,off+l*z,by simp [oU],fun j u hj=>?_⟩
  rw [List.getElem?_take] at hj
  split at hj
  ·rw [List.getElem?_drop] at hj;rw [Nat.add_assoc];exact hcell _ _ hj
  cases hj
theorem aI0{w:World}{k:Nat}{cs:List AC}{v:Value}(h:dO w (.c (.sl k cs)) v):∃a cap,v=.slice a k cap /\ k <= cap /\ Rep w (.sl k cs) (.slice a k cap):=by
 cases h with
 |c _ _ h=>cases h with
  |sl _ _ us _ hr hl hh hc=>obtain ⟨a,cap,rfl,hk,hx⟩:=hr;exact ⟨a,cap,rfl,hk,.sl _ _ us _ ⟨a,cap,rfl,hk,hx⟩ hl hh hc⟩
theorem aGm{t e:TypeId}{x y':Operand}{k h z:Nat}{k2:IntKind}{j:Int}{cs r:List AC}(ho:o.op=.slice t x none (some y') none)(hx:evA st x=some (.c (.sl k cs)))(hy':evA st y'=some (.c (.val (.int k2 j))))(hj:j=h)(h2:h <= k)
  (ht:P.underlying t=some (.slice (P.elem t))) (he:P.elem t=e) (hz:∀w,(sizeOf e).run P w=.ok z w) (hr:cs.take (h*z)=r):AY P U o st (.c (.sl h r)):=by
 intro a w hs _
 have hv:=hs.ev hx
 generalize hxe:a.eval x=v at hv
 obtain ⟨p,cap,rfl,hk,hrep⟩:=aI0 hv
 subst hr;subst hj;subst he
 have h9:=aL5 (z:=z) (l:=0) hrep (Nat.zero_le _) h2
 simp only [Nat.zero_mul,List.drop_zero,Nat.sub_zero] at h9
 refine ⟨_,.c _ _ h9,fun w' _=>?_⟩
 simp only [execOp,ho,hxe,hs.val hy',Option.map_some,Option.map_none]
 rw [Sem.run_bind,run_sliceAt_slice (h:=ht),run_slice_h (ht:=ht) (h0:=Int.natCast_nonneg h) (h2:=Int.ofNat_le.2 (Nat.le_trans h2 hk)),hz]
 simp [Result.andThen,go_sem,sliced]
theorem bGm{t e:TypeId}{x y:Operand}{k l z m:Nat}{k1:IntKind}{i:Int}{cs r:List AC}(ho:o.op=.slice t x (some y) none none)(hx:evA st x=some (.c (.sl k cs)))(hy:evA st y=some (.c (.val (.int k1 i))))(hi:i=l)(h2:l <= k)(hl:cs.length=k*z)
  (ht:P.underlying t=some (.slice (P.elem t))) (he:P.elem t=e) (hz:∀w,(sizeOf e).run P w=.ok z w) (hm:k-l=m) (hr:cs.drop (l*z)=r):AY P U o st (.c (.sl m r)):=by
 intro a w hs _
 have hv:=hs.ev hx
 generalize hxe:a.eval x=v at hv
 obtain ⟨p,cap,rfl,hk,hrep⟩:=aI0 hv
 subst hr;subst hi;subst he;subst hm
 have h9:=aL5 (z:=z) hrep h2 (Nat.le_refl _)
 rw [take_of_length_le (by rw [List.length_drop,hl,Nat.sub_mul];omega)] at h9
 refine ⟨_,.c _ _ h9,fun w' _=>?_⟩
 simp only [execOp,ho,hxe,hs.val hy,Option.map_some,Option.map_none]
 rw [Sem.run_bind,run_sliceAt_slice (h:=ht),run_slice_l (ht:=ht) (h0:=Int.natCast_nonneg l) (h1:=Int.ofNat_le.2 h2),hz]
 simp [Result.andThen,go_sem,sliced]
theorem aDc{E E' e:TypeId}{x:Operand}{b:ByteArray}(ho:o.op=.convert E E' x)(hd:o.dst=some d)(hn:d<n)(hx:evA ⟨n,T,s,ts⟩ x=some (.c (.val (.string b))))(hE:P.underlying E=some .string)(hE':P.underlying E'=some (.slice e))(he:P.underlying e=some (.int .u8))(hb:b.size<9223372036854775808){N:Nat}{cs:List AC}(hN:b.size=N)(hcs:iF b.data.toList=cs)
  (h:K ⟨n,T,s,(d,.c (.sl N cs))::ts⟩):AO P U o ⟨n,T,s,ts⟩ K:=by
 subst hN;subst hcs
 intro a w hs KK QQ hK
 obtain ⟨C,hC⟩:∃C,C=grownCap w b.size 0 e:=⟨_,rfl⟩
 obtain ⟨g1,g2⟩:=grownCap_le w b.size e hb
 have hrun:(execOp a.eval o).run P w=.ok (.value (.slice (some ⟨w.heap.size,0,none⟩) b.size C)) (w.drew.alloc (.cells (bytesRow b C) e ((bytesRow b C).size,(bytesRow b C).size+1))):=by
  subst hC
  simp only [execOp,ho,Sem.run_bind,hs.val hx]
  rw [run_bytes_of_string w E E' e b hE hE' he];rfl
 rw [←hC] at g1 g2
 clear hC
 unfold Oper.wp
 rw [hrun,Oper.upon_value,hd]
 have hrow:=aAt w b C e g1 ((bytesRow b C).size,(bytesRow b C).size+1)
 generalize hw1:w.drew.alloc (.cells (bytesRow b C) e ((bytesRow b C).size,(bytesRow b C).size+1))=w1 at hrow
 have hk:cW [] w w1:=by rw [←hw1];exact (cW.refl _ _).drew.alloc _
 have hsz:w1.heap.size=w.heap.size+1:=by rw [←hw1];show (w.heap.push _).size=_;simp
 have hub:Up2 (bI s.bl w) (bI s.bl w1):=jA hk (fun _ h=>by cases h) (fun b h=>.inl h)
 obtain ⟨m1,m2⟩:=hs.mem.up hub (fun b hb=>hk.block b (hs.mem.lt b hb) (by simp))
 have hm:Mem s w1:=⟨hs.mem.nodup,fun b hb=>Nat.lt_of_lt_of_le (hs.mem.lt b hb) hk.size,m1,m2⟩
 have s1:=hs.step (w1:=w1) T (hk.mono (by simp)) hm (fun b hb=>.inl hb)
 have hrep:dO (bI s.bl w1) (.c (.sl b.size (iF b.data.toList))) (.slice (some ⟨w.heap.size,0,none⟩) b.size C):=by
  have hne:w.heap.size∉s.bl:=fun hm=>by have:w.heap.size<w.heap.size:=hs.mem.lt _ hm;omega
  have hR:=gU (bI s.bl w1) (cC b.data.toList) (fun u hu=>by obtain ⟨c,_,rfl⟩:=List.mem_map.1 hu;rfl)
  have e1:(cC b.data.toList).map AC.val=iF b.data.toList:=by simp [cC,iF]
  rw [e1] at hR
  refine .c _ _ (.sl _ _ (cC b.data.toList) _ ?_ hR.len hR.at_ (fun _ _ _ h=>by cases h;exact g2))
  obtain ⟨a',c',he',hc',hr'⟩:=hrow
  cases he'
  refine ⟨_,_,rfl,g1,?_⟩
  rcases hr' with h0|⟨b',off,hb',hr'⟩
  ·exact .inl h0
  cases hb'
  exact .inr ⟨_,_,rfl,fun j u hu=>by rw [eW _ _ _ hne];exact hr' j u hu⟩
 exact hK _ _ _ h (s1.put hn hrep) ⟨hk.mono (by simp),hk.mono (by simp),fun b hb=>.inl hb,fun b hb=>.inl hb⟩ (hk.mono (by simp))
abbrev aA2(t:AT)(m:Int):AT:=.fact (.fact t 0 0 (words.map fun x=>.val (.string x))) 1 0 [.val (.int .i64 m)]
theorem aBl{s:Sto}{w w':World}(hm:Mem s w)(hb:Below w.heap.size w w'):cW [] w w' /\ Mem s w':=by
 have hk:cW [] w w':=cW.of_below hb
 have hu:Up2 (bI s.bl w) (bI s.bl w'):=jA hk (fun _ h=>by cases h) (fun b h=>.inl h)
 obtain ⟨m1,m2⟩:=hm.up hu (fun b hb'=>hk.block b (hm.lt b hb') (by simp))
 exact ⟨hk,hm.nodup,fun b hb'=>Nat.lt_of_lt_of_le (hm.lt b hb') hk.size,m1,m2⟩
theorem aP3{F:FuncId}{ts:List AT}{us:List Value}{u:Value}(h1:u.oneCell'=true)(hts:ts=us.map fun u=>.c (.val u))(h:∀w,Calls P F us.toArray w fun e w'=>e=.returned u /\ w=w')(s:Sto):aL P F ts [] s fun r s'=>r=.c (.val u) /\ s'=s:=by
 intro vs w hm _ hl hr
 subst hts
 obtain rfl:vs=us:=by
  refine List.ext_getElem (by simpa using hl) fun i h1 h2=>?_
  have h3:=hr i (by simpa using h2) h1
  simp only [List.getElem_map] at h3
  exact h3.val
 exact (h w).mono fun e w' ⟨h2,h3⟩=>by subst h3;exact ⟨_,_,s,h2,⟨rfl,rfl⟩,.c _ _ (.val _ h1),hm,cW.refl _ _,fun b hb=>.inl hb⟩
theorem aLg{w:World}{l:List Int}{a:Option Addr}{cap:Nat}(h:dD w (.slice a l.length cap) l.length (l.map (.int .i64)))(hc:cap <= 9223372036854775807):dO (bI [] w) (.c (.sl l.length (l.map fun i=>.val (.int .i64 i)))) (.slice a l.length cap):=by
 have hid:∀a:Addr,(bI [] w).cell? a=w.cell? a:=fun a=>eW _ _ _ (by simp)
 have hR:=gU (bI [] w) (l.map (.int .i64)) (fun u hu=>by obtain ⟨c,_,rfl⟩:=List.mem_map.1 hu;rfl)
 rw [List.map_map] at hR
 exact .c _ _ (.sl _ _ _ _ (h.mono fun a u h=>by rw [hid];exact h) hR.len hR.at_ (fun _ _ _ h=>by cases h;exact hc))
theorem aJe{F:FuncId}{ts:List AT}{vs:List Value}{w:World}(h:aL P F ts [] ⟨[],[]⟩ fun r s'=>r=.c (.val (.bool true)) /\ s'=⟨[],[]⟩)(hl:vs.length=ts.length)(hv:∀i (h:i<ts.length) (h':i<vs.length),dO (bI [] w) ts[i] vs[i]):Calls P F vs.toArray w fun e w'=>e=.returned (.bool true) /\ Below w.heap.size w w':=by
 have hm:Mem ⟨[],[]⟩ w:=⟨List.nodup_nil,(fun b hb=>absurd hb (by simp [Sto.bl])),(fun x hx=>absurd hx (by simp)),(fun x hx=>absurd hx (by simp))⟩
 refine (h vs w hm (fun b hb=>absurd hb (by simp)) hl hv).mono fun e w' ⟨r,v',s',h1,⟨h2,h3⟩,h4,h5,h6,h7⟩=>?_
 subst h2;subst h3
 cases h4 with
 |c _ _ h4=>cases h4;exact ⟨h1,⟨h6.os,h6.tape,h6.output,h6.size,fun k hk=>h6.block k hk (by simp)⟩⟩
end
end
section
open Go.RowKit
section
variable {P:Program}{U T:List Nat}{o:Oper}{n d:Nat}{bx:List Box}{rw:List bA}{ts:List (Nat×AT)}{K:AS -> Prop}{st:AS}{t:AT}
theorem aGq{t e:TypeId}{x y:Operand}{d n m z bytes:Nat}{v zv:Value}{cs ds:List AC}{i:TypeInfo}(A:List bA){B:List bA}(ho:o.op=.call {callee:=.builtin .append,args:=#[x,y],argTypes:=#[t,t]})(hd:o.dst=some d)(hn:d<st.n)
  (hx:evA st x=some (.c (.val v))) (hrow:st.s.rows=A++⟨v,e,z,n,cs⟩::B) (hy:∀a w,Sim st a w -> ∃ad c ys,a.eval y=.slice (some ad) m c /\ fG (bI st.s.bl w) ds ys /\ ∀j u,ys[j]?=some u -> w.cell? (ad.add j)=some u) (hu:P.underlying t=some (.slice e)) (hi:P.info? e=some i) (hz:i.zero=some zv) (hsz:i.size=z) (hby:i.bytes=bytes) (hzs:zv.cells.size=z) (h0:0<z)
  (hm:ds.length=m*z) (hlen:n+m <= maxLen) (hbytes:(n+m)*bytes <= 140737488355328) (hU:st.s.bl.Nodup -> ∀b,b∈aY v -> b∈U) (hT:∀b,b∈aY v -> b∈st.T)
  (h:∀v',K {st with s:=⟨st.s.boxes,A++⟨v',e,z,n+m,cs++ds⟩::B⟩,T:=aY v'++st.T,ts:=(d,.c (.val v'))::st.ts}):AO P U o st K:=by
 refine bGt A hd hn hrow h0 (fun a w hs us hown=>?_) hU hT h
 obtain ⟨ad,cap,ys,hyv,hyrep,hyc⟩:=hy a w hs
 exact ⟨ys,hyrep,fun KK QQ hK=>qP w x y t ho 0 e i zv z bytes hu hi hz hsz hby hzs h0 v n us (hs.val hx) hown ad m cap ys hyv (by rw [hyrep.len,hm]) hyc hyrep.one hlen hbytes (Nat.zero_le _) hK⟩
theorem aF2(w:World)(t ty e:TypeId)(i:TypeInfo)(size:Nat)(ht:P.underlying t=some (.slice e))(hi:P.info? e=some i)(v:Value)(n:Nat)(xs:List Value)(hown:w.ownsRow 0 e size v n xs)(b:Option Addr)(c:Nat):
  (Builtin.append_ #[t,t] ty #[v,.slice b 0 c]).run P w=.ok v w:=by
 have hl:∀a:Addr,(loadCells a 0).run P w=.ok #[] w:=fun a=>run_loadCells_list (P:=P) w a [] (fun j v hj=>by simp at hj)
 rcases hown.2 with ⟨rfl,rfl⟩|⟨g,cap,cur,rfl,_,_,hnc,_⟩
 ·cases b<;>simp [Builtin.append_,run_underlying ht,sizeOf,typeInfo,hi,Builtin.lenOf,Builtin.firstCells,hl]
 cases b<;>simp [Builtin.append_,run_underlying ht,sizeOf,typeInfo,hi,Builtin.lenOf,Builtin.firstCells,hnc,storeCells,hl]
theorem aAk{t e:TypeId}{x y:Operand}{z k:Nat}{v:Value}{cs:List AC}{i:TypeInfo}(A:List bA){B:List bA}(ho:o.op=.call {callee:=.builtin .append,args:=#[x,y],argTypes:=#[t,t]})(hd:o.dst=some d)(hn:d<n)
  (hx:evA ⟨n,T,⟨bx,A++⟨v,e,z,k,cs⟩::B⟩,ts⟩ x=some (.c (.val v))) (hy:∀a w,Sim ⟨n,T,⟨bx,A++⟨v,e,z,k,cs⟩::B⟩,ts⟩ a w -> ∃b c,a.eval y=.slice b 0 c) (hu:P.underlying t=some (.slice e)) (hi:P.info? e=some i) (hT:∀b,b∈aY v -> b∈T) (h0:0<z)
  (h:K ⟨n,aY v++T,⟨bx,A++⟨v,e,z,k,cs⟩::B⟩,(d,.c (.val v))::ts⟩):AO P U o ⟨n,T,⟨bx,A++⟨v,e,z,k,cs⟩::B⟩,ts⟩ K:=by
 intro a w hs KK QQ hK
 obtain ⟨us,hownR,hrep⟩:=hs.mem.row ⟨v,e,z,k,cs⟩ (by simp)
 have hown:=hownR.row h0
 obtain ⟨b,c,hyv⟩:=hy a w hs
 have hr:=aF2 (P:=P) w t o.type e i z hu hi v k us hown b c
 have s2:=hs.step (w1:=w) (aY v++T) (cW.refl _ _) hs.mem (fun b hb=>.inl hb)
 have h1c:v.oneCell'=true:=by obtain ⟨_,_,he⟩:=lR hown;dsimp only at he;rw [he];rfl
 have hxv:=hs.val hx
 have goal:KK (a.put o.dst v) w:=by
  rw [hd]
  refine hK _ _ _ h (s2.put (v:=v) hn (.c _ _ (.val _ h1c))) ⟨cW.refl _ _,cW.refl _ _,fun b hb=>.inl hb,fun g hg=>?_⟩ (cW.refl _ _)
  rcases mem_append.1 hg with hg|hg
  ·exact .inl (hT g hg)
  exact .inl hg
 unfold Oper.wp execOp
 simp only [ho,resolve,invoke,builtin,Sem.run_bind,Sem.run_pure,Result.andThen_ok,List.map_toArray,List.map_cons,List.map_nil,hxv,hyv,hr]
 exact goal
theorem jU{E e:TypeId}{x y:Operand}{k m z:Nat}{v zv:Value}{cs ds r:List AC}(A:List bA)(i:TypeInfo)(bytes:Nat){B:List bA}(ho:o.op=.call {callee:=.builtin .append,args:=#[x,y],argTypes:=#[E,E]})(hd:o.dst=some d)(hn:d<n)
  (hx:evA ⟨n,T,⟨bx,A++⟨v,e,z,k,cs⟩::B⟩,ts⟩ x=some (.c (.val v))) (hy:evA ⟨n,T,⟨bx,A++⟨v,e,z,k,cs⟩::B⟩,ts⟩ y=some (.c (.sl m ds))) (hu:P.underlying E=some (.slice e)) (hi:P.info? e=some i) (hz:i.zero=some zv) (hsz:i.size=z) (hby:i.bytes=bytes) (hzs:zv.cells.size=z) (h0:0<z)
  (hm:ds.length=m*z) (hlen:k+m <= maxLen) (hbytes:(k+m)*bytes <= 140737488355328) {N:Nat} (hN:k+m=N) (hU:(⟨bx,A++⟨v,e,z,k,cs⟩::B⟩:Sto).bl.Nodup -> ∀b,b∈aY v -> b∈U) (hT:∀b,b∈aY v -> b∈T) (hr:cs++ds=r)
  (h:∀v',K ⟨n,aY v'++T,⟨bx,A++⟨v',e,z,N,r⟩::B⟩,(d,.c (.val v'))::ts⟩):AO P U o ⟨n,T,⟨bx,A++⟨v,e,z,k,cs⟩::B⟩,ts⟩ K:=by
 rcases Nat.eq_zero_or_pos m with rfl|hm0
 ·have hds:ds=[]:=List.eq_nil_of_length_eq_zero (by rw [hm,Nat.zero_mul])
  subst hds;subst hr;subst hN
  refine aAk A ho hd hn hx (fun a w hs=>?_) hu hi hT h0 ?_
  ·obtain ⟨p,cap,hv,-⟩:=aI0 (hs.ev hy);exact ⟨p,cap,hv⟩
  have:=h v;rw [List.append_nil,Nat.add_zero] at this;exact this
 subst hr;subst hN
 exact aBj A ho hd hn hx rfl hy hu hi hz hsz hby hzs h0 hm hm0 hlen hbytes hU hT h
theorem aSk{E e:TypeId}{x y:Operand}{k m z:Nat}{v vy zv:Value}{cs ds r:List AC}(A:List bA)(i:TypeInfo)(bytes:Nat){B:List bA}(ho:o.op=.call {callee:=.builtin .append,args:=#[x,y],argTypes:=#[E,E]})(hd:o.dst=some d)(hn:d<n)
  (hx:evA ⟨n,T,⟨bx,A++⟨v,e,z,k,cs⟩::B⟩,ts⟩ x=some (.c (.val v))) (hy:evA ⟨n,T,⟨bx,A++⟨v,e,z,k,cs⟩::B⟩,ts⟩ y=some (.c (.val vy))) (hmem:(⟨vy,e,z,m,ds⟩:bA)∈A++⟨v,e,z,k,cs⟩::B) (hu:P.underlying E=some (.slice e)) (hi:P.info? e=some i) (hz:i.zero=some zv) (hsz:i.size=z) (hby:i.bytes=bytes) (hzs:zv.cells.size=z) (h0:0<z)
  (hlen:k+m <= maxLen) (hbytes:(k+m)*bytes <= 140737488355328) {N:Nat} (hN:k+m=N) (hU:(⟨bx,A++⟨v,e,z,k,cs⟩::B⟩:Sto).bl.Nodup -> ∀b,b∈aY v -> b∈U) (hT:∀b,b∈aY v -> b∈T) (hm:ds.length=m*z) (hr:cs++ds=r)
  (h:∀v',K ⟨n,aY v'++T,⟨bx,A++⟨v',e,z,N,r⟩::B⟩,(d,.c (.val v'))::ts⟩):AO P U o ⟨n,T,⟨bx,A++⟨v,e,z,k,cs⟩::B⟩,ts⟩ K:=by
 rcases Nat.eq_zero_or_pos m with rfl|hm0
 ·have hds:ds=[]:=List.eq_nil_of_length_eq_zero (by rw [hm,Nat.zero_mul])
  subst hds;subst hr;subst hN
  refine aAk A ho hd hn hx (fun a w hs=>?_) hu hi hT h0 ?_
  ·obtain ⟨us,hownR,-⟩:=hs.mem.row _ hmem
   have hown:=hownR.row h0
   obtain ⟨p,cap,hv⟩:=lR hown
   exact ⟨p,cap,by rw [hs.val hy];exact hv⟩
  have:=h v;rw [List.append_nil,Nat.add_zero] at this;exact this
 subst hr;subst hN
 refine aGq (st:=⟨n,T,⟨bx,A++⟨v,e,z,k,cs⟩::B⟩,ts⟩) A ho hd hn hx rfl (fun a w hs=>?_) hu hi hz hsz hby hzs h0 hm hlen hbytes hU hT h
 obtain ⟨us,hownR,hrep⟩:=hs.mem.row _ hmem
 have hown:=hownR.row h0
 obtain ⟨g,cap,hv⟩:=rV hs.mem hmem hm0 h0
 have hvy:=hs.val hy
 dsimp only at hv hown hrep
 subst hv
 exact ⟨⟨g,0,none⟩,cap,us,hvy,hrep,fun j u hj=>hown.cells (g:=g) rfl j u hj⟩
theorem aBf{E E':TypeId}{x:Operand}{k:Nat}(ho:o.op=.convert E E' x)(hx:evA st x=some (nI k))(hk:k<256)(hE:(P.underlying E).isSome=true)(hE':P.underlying E'=some (.int (P.intKind E')))(hk8:P.intKind E'=.u8):AY P U o st (.c (.val (.int .u8 ((UInt8.ofNat k).toNat:Int)))):=by
 intro a w hs _
 refine ⟨_,.c _ _ (.val _ rfl),fun w' _=>?_⟩
 have h1:=run_convert_int (P:=P) (w:=w') E E' .i64 ((k:Nat):Int) hE hE'
 simp only [execOp,ho,Sem.run_bind,hs.val hx]
 rw [h1,hk8]
 have h2:IntKind.u8.wrap ((k:Nat):Int)=((k:Nat):Int):=by
  have h3:(List.range 256).all (fun k=>decide (IntKind.u8.wrap ((k:Nat):Int)=((k:Nat):Int)))=true:=by kernel_rfl
  exact of_decide_eq_true (List.all_eq_true.1 h3 k (List.mem_range.2 hk))
 rw [h2,show (UInt8.ofNat k).toNat=k from UInt8.toNat_ofNat_of_lt' hk];rfl
end
theorem aG8{w:World}{u v:Value}(h:Rep w (.val v) u):u=v:=by cases h;rfl
theorem hX{U:List Nat}{o:Oper}{st:AS}{x:Operand}{t:List UInt8}{k:Nat}(ho:o.op=.convert 23 9 x)(hx:evA st x=some (.c (.sl k (iF t))))(hk:k=t.length):AY prog U o st (.c (.val (.string (bytes t)))):=by
 subst hk
 intro a w hs hU
 refine ⟨_,.c _ _ (.val _ rfl),fun w' hkp=>?_⟩
 have hv:=hs.ev hx
 generalize hxe:a.eval x=v at hv
 cases hv with
 |c _ _ hv=>cases hv with
  |sl _ _ us _ hr hl hh hc=>
   obtain ⟨p,cap,rfl,hcap,hr⟩:=hr
   have hus:us=cC t:=by
    refine List.ext_getElem (by rw [hl];simp [iF,cC]) fun j h1 h2=>?_
    have h3:=hh j (by simpa [iF,cC] using h2) h1
    have h4:(iF t)[j]'(by simpa [iF,cC] using h2)=.val (cC t)[j]:=by simp [iF,cC]
    rw [h4] at h3;exact aG8 h3
   subst hus
   have hcv:=zN t p cap w' (by
    rcases hr with h0|⟨b,off,rfl,hr⟩
    ·exact .inl h0
    refine .inr ⟨b,off,rfl,fun j u hj=>?_⟩
    obtain ⟨h4,h5⟩:=gA (hr j u hj)
    rw [hkp.cell (gV h4) (fun hm=>h5 (hU _ hm))];exact h4)
   simp only [execOp,ho,Sem.run_bind,hxe]
   rw [hcv];rfl
instance aRs{P:Program}{U T:List Nat}{n N:Nat}{ts:List (Nat×AT)}{t:AT}{g:Prop}{K:AS -> Prop}{E T0:TypeId}{x y:Operand}{ty:TypeId}{pos:String}{af:Array Edge}{gd:Option (Nat×Bool)}{b off z:Nat}{cs ds r:List AC}{ag:Bool}{bx A B:List Box}{rw:List bA}[h1:Ev ts x (.c (.val (.pointer (some ⟨b,off,none⟩))))][h2:Ev ts y t][h3:rF t ds][h4:lY bx b A T0 cs B][h5:TY P E ag z][h6:Spl cs off ds z r]{bx2:List Box}[h7:aNc bx rw T U b][h8:aDk A (⟨b,T0,r⟩::B) bx2][h:Go1 N (K ⟨n,T,⟨bx2,rw⟩,ts⟩) g]:Go1 (N+1) (AO P U ⟨none,.store E x y,ty,pos,af,gd⟩ ⟨n,T,⟨bx,rw⟩,ts⟩ K) g:=⟨fun k=>
 zQ A rfl rfl (h1.h _ _ _) (h2.h _ _ _) h3.h h4.h h5.h.2 h6.h.2.2 h6.h.2.1 h6.h.1 h7.h.1 h7.h.2 (by rw [h8.h];exact h.out k)⟩
end
end Go.Proofs.YtojinfngbbajgaaGreatDoor
