import Derived.Test.YtjgeihmhppadaaaGreatDoorCG2J
import Derived.Lib.SlBytesConst
set_option linter.all false
set_option synthInstance.maxHeartbeats 1000000
set_option synthInstance.maxSize 1000000
set_option maxHeartbeats 1600000
set_option maxRecDepth 100000
namespace Go.Proofs.YtjgeihmhppadaaaGreatDoor
open Go.Proofs.Tryz
open List (length_append length_cons length_nil mem_append mem_cons not_mem_nil append_assoc getElem_mem take_of_length_le)
section
open Go.RowKit
abbrev Dr(bs:List UInt8)(m:Int):AT:=.fact (.fact (.c (.sl bs.length (cT bs))) 0 0 (words.map λx=>ae x)) 2 0 [aA m]
def Jb{t:AT}{b o:Nat}{cs:List aN}:bu (.fact t b o cs) t:=λw v h=>by cases h with|fact _ _ _ _ us _ h _ _=>exact h
def Ta{bs:List UInt8}{m:Int}:bu (Dr bs m) (.c (.sl bs.length (cT bs))):=λw v h=>Jb w v (Jb w v h)
def wD{w:aV}{us vs:List aM}(h:dH w (vs.map .val) us):us=vs:=by
 refine lw (by have:=h.len;simpa using this) λi h1 h2=>?_;have h3:=h.at_ i mR h1;generalize hx:(vs.map aN.val)[i]'(by simpa using h2)=x at h3;rw [nK] at hx;subst hx;generalize us[i]=u at h3;cases h3;rfl
def VB{bl:List Nat}{w:aV}{bs:List UInt8}{m:Int}{v:aM}(h:cN (bi bl w) (Dr bs m) v):Env w:=by
 cases h with
 |fact _ _ _ _ us2 _ h hm hma=>
  cases h with
  |fact _ _ _ _ us _ _ hw hwa=>
   obtain rfl:us2=[.int .i64 m]:=wD (vs:=[.int .i64 m]) hm;obtain rfl:us=words.map .string:=wD (vs:=words.map .string) (by rw [lE];exact hw);have h1:∀j,j<words.length -> w.cell? ⟨0,0+j,none⟩=some (.string (words.getD j ByteArray.empty)):=λj hj=>by
    refine (nW (hwa j _ ?_)).1;rw [mD,jz hj];simp [List.getD,hj]
   have h2:w.cell? ⟨2,0,none⟩=some (.int .i64 m):=(nW (hma 0 _ J)).1;refine ⟨h1,⟨m,h2⟩,?_⟩;have aa:=lL (h1 0 V);have e2:=lL h2;exact Nat.succ_le_of_lt (Nat.max_lt.2 ⟨aa,e2⟩)
def UN{F:FuncId}{bs:List UInt8}{s:aH}{t0:AT}(hF:∀v w,cN (bi s.bl w) t0 v -> Calls prog F #[v] w λe w'=>(∃v pos er,e=.returned (.tuple #[v,.int .i64 pos,.int .i64 er]) /\ pB w' w.heap.size bs v pos er) /\ Below w.heap.size w w'):
  aR prog F [t0] [] s λt s'=>yg bs t /\ s'=s:=by
 intro vs w hm _ hl hr;obtain ⟨v,rfl⟩:∃v,vs=[v]:=by
  cases vs with
  |nil=>cases hl
  |cons v vs=>cases vs with
   |nil=>exact ⟨v,rfl⟩
   |cons _ _=>simp at hl
 refine (hF v w (hr 0 aK aK)).mono λe w' ⟨⟨v',pos,er,he,hf⟩,hb⟩=>?_;have hk:cH [] w w':=cH.of_below hb;have hu:fl (bi s.bl w) (bi s.bl w'):=kR hk gr (λb h=>.inl h);obtain ⟨m1,m2⟩:=hm.up hu Cj;have hm':Mem s w':=⟨hm.nodup,λb hb'=>k_ (hm.lt b hb') hk.size,m1,m2⟩;have t3:∀(x:AT)(p e2:Int),cN (bi s.bl w') x v' -> cN (bi s.bl w') (.tup [x,bB p,bB e2]) (.tuple #[v',.int .i64 p,.int .i64 e2]):=λx p e2 hx=>by
  refine .tup _ [v',.int .i64 p,.int .i64 e2] J λi h h'=>?_
  match i,h,h' with
  |0,_,_=>exact hx
  |1,_,_=>exact .c _ _ (.val _ rfl)
  |2,_,_=>exact .c _ _ (.val _ rfl)
 subst he;rcases hf with ⟨l,h1,h2,rfl,rfl,h3⟩|⟨p,e2,h1,rfl,rfl,rfl,h2⟩
 ·refine ⟨_,_,s,J,⟨.inl ⟨l,h1,J,h3⟩,J⟩,t3 _ _ _ (.c _ _ (.sl _ _ (jC l) _ (Ky h2 hm.lt) ?_ ?_ ?_)),hm',hk,λb hb=>.inl hb⟩
  ·rw [zy];simp
  ·rw [zy];exact (mW _ _ (Mn l)).at_
  exact Ad h2
 exact ⟨_,_,s,J,⟨.inr ⟨p,e2,h1,J,h2⟩,J⟩,t3 _ _ _ (.c _ _ (.val _ J)),hm',hk,λb hb=>.inl hb⟩
def B3(bs:List UInt8)(m:Int)(s:aH):aR prog 94 [Dr bs m] [] s λt s'=>yg bs t /\ s'=s:=
 UN λv w h=>UF bs v w (VB h) ((GH (Ta _ _ h)).1.mono λa u h=>(nW h).1)
section
variable {P:Program}{U T:List Nat}{o:Oper}{n d:Nat}{ts:List (Nat×AT)}{s:aH}{K:AS -> Prop}
theorem qx{F:FuncId}{ars:Array bc}{tys:Array bA}{us:List AT}(T':List Nat){QQ:AT -> aH -> Prop}(ho:o.op=.call {callee:=.value (.func F),args:=ars,argTypes:=tys})(hd:o.dst=some d)(hn:d<n)
  (hcf:∀args w,(callFunc F args).run P w=.ok (.enter F args) w) (has:ars.toList.map (ay ⟨n,T,s,ts⟩)=us.map some) (hc:aR P F us T' s QQ) (hT:∀b,b∈T' -> b∈T) (hTb:∀b,b∈T' -> b∈s.bl) (hU:s.bl.Nodup -> ∀b,b∈T' -> b∈U)
  (h:∀r s',QQ r s' -> ∃T2,(s'.bl.Nodup -> ∀b,b∈T2 -> b∈s'.bl /\ (b∈s.bl -> b∈T)) /\ K ⟨n,T2++T,s',(d,r)::ts⟩):dN P U o ⟨n,T,s,ts⟩ K:=by
 intro a w hs KK QQ' hK;obtain ⟨h1,h2⟩:=nx hs has;unfold Oper.wp;rw [show (execOp a.eval o).run P w=.ok (.enter F (ars.toList.map a.eval).toArray) w from by
  simp only [execOp,ho,resolve,Deferred.ofValue,Act.eval,Sem.run_bind,Sem.run_pure,Result.andThen_ok,invoke];rw [hcf]
  congr 2
  rw [←mu];simp,Oper.upon_enter]
 refine (hc _ w hs.mem hTb h1 h2).mono ?_;rintro en w' ⟨r,v,s',rfl,hq,hr,hm,hk,hb⟩;dsimp only;rw [hd];obtain ⟨T2,ht,hK2⟩:=h r s' hq;have s1:=hs.step (T2++T) (hk.mono hTb) hm hb;refine hK _ _ _ hK2 (s1.put hn hr) ⟨hk.mono hTb,hk.mono hT,hb,λb hb2=>?_⟩ (hk.mono (hU hs.mem.nodup));rcases mem_append.1 hb2 with hb2|hb2
 ·obtain ⟨aa,e2⟩:=ht hm.nodup b hb2;exact (hb b aa).imp e2 id
 exact .inl hb2
theorem Dl{bx bx':List aT}{rs rs' rw:List aS}{b:Nat}(hb:bx'.map aT.b=bx.map aT.b)(hn:(⟨bx',rs'++rw⟩:aH).bl.Nodup)(h1:b∈rs'.flatMap λr=>aO r.v)(h2:b∈(⟨bx,rs++rw⟩:aH).bl):b∈rs.flatMap λr=>aO r.v:=by
 unfold aH.bl at hn h2;simp only [d4,mem_append] at h2;simp only [d4] at hn;rw [hb] at hn;rcases h2 with h|h|h
 ·exact absurd J ((du.1 hn).2.2 b h b (fj _ h1))
 ·exact h
 exact absurd J ((du.1 (du.1 hn).2.1).2.2 b h1 b h)
end
end
section
open Go.RowKit
def grownCap_le(w:aV)(n:Nat)(e:bA)(hn:n<9223372036854775808):n <= grownCap w n 0 e /\ grownCap w n 0 e <= 9223372036854775807:=by
 unfold grownCap Question.cut;have:w.tape w.drawn (.appendCap n 0 e)%(2 ^ 63-n)<2 ^ 63-n:=Nat.mod_lt _ Y;simp only;omega
def Nx(w:aV)(s:aG)(c:Nat)(T:bA)(hc:s.size <= c)(fr:Nat×Nat):dr (w.drew.alloc (.cells (bytesRow s c) T fr)) (.slice (some ⟨w.heap.size,0,none⟩) s.size c) s.data.toList.length (dI s.data.toList):=by
 refine ⟨_,_,J,hc,.inr ⟨_,0,J,λj u hu=>?_⟩⟩;have hm:=World.cell?_alloc_mark w.drew (bytesRow s c) T fr j;rw [e0];have e:(⟨w.drew.heap.size,j,none⟩:Addr)=⟨w.heap.size,j,none⟩:=J;rw [←e,hm];have hj:j<s.data.toList.length:=by
  have:=(mM.1 hu).1;simpa [dI] using this
 unfold bytesRow;rw [DL (by simpa using hj)];simp only [dI,mD] at hu;simpa using hu
end
section
inductive cA (α:Type) where
 |ok (x:α) (k:Nat)
 |err (k e:Nat)
def dM(l:List Tok)(k:Nat):Tok:=l.getD k default
def lS{l:List Tok}{k:Nat}(h:k<l.length):dM l k=l[k]:=by unfold dM;rw [Cc,jz h];rfl
def binOp(s:ByteArray):Nat×Nat:=
 if s=bytes [124,124] then (17,1) else if s=bytes [38,38] then (16,2) else if s=bytes [61,61] then (14,3) else if s=bytes [33,61] then (15,3) else
 if s=bytes [60] then (10,3) else if s=bytes [60,61] then (11,3) else if s=bytes [62] then (12,3) else if s=bytes [62,61] then (13,3) else
 if s=bytes [43] then (8,4) else if s=bytes [45] then (9,4) else if s=bytes [42] then (5,5) else if s=bytes [47] then (6,5) else if s=bytes [37] then (7,5) else (0,0)
def ef(l:List Tok)(k:Nat)(s:List UInt8):Bool:=decide ((dM l k).kind=4) && decide ((dM l k).text=bytes s)
def jF(l:List Tok)(sub:Nat -> cA aP)(level:Nat):Nat -> aP -> Nat -> cA aP
 |0,x,k=>.ok x k
 |n+1,x,k=>
  if (dM l k).kind=4 /\ (binOp (dM l k).text).2=level then
   match sub (k+1) with
   |.ok y k'=>jF l sub level n (.mk ((binOp (dM l k).text).1:Int) 0 ax [x,y]) k'
   |.err a e=>.err a e
  else .ok x k
def gz(l:List Tok)(single:Nat -> cA aP):Nat -> Nat -> cA aP
 |0,k=>single k
 |j+1,k=>
  match gz l single j k with
  |.ok x k'=>jF l (gz l single j) (5-j) (l.length+1) x k'
  |.err a e=>.err a e
def y9(op:Int):cA aP -> cA aP
 |.ok x k=>.ok (.mk op 0 ax [x]) k
 |.err a e=>.err a e
def EP(l:List Tok):cA aP -> cA aP
 |.ok x k=>if ef l k [41] then .ok x (k+1) else .err k 4
 |.err a e=>.err a e
def eO(l:List Tok):Nat -> Nat -> cA aP
 |0,k=>
  if (dM l k).kind=2 then .ok (.mk 1 (dM l k).num ax []) (k+1)
  else if (dM l k).kind=1 then .ok (.mk 2 0 (dM l k).text []) (k+1)
  else if ef l k [45]||ef l k [33]||ef l k [40] then .err k 3
  else .err k 4
 |d+1,k=>
  if (dM l k).kind=2 then .ok (.mk 1 (dM l k).num ax []) (k+1)
  else if (dM l k).kind=1 then .ok (.mk 2 0 (dM l k).text []) (k+1)
  else if ef l k [45] then y9 3 (eO l d (k+1))
  else if ef l k [33] then y9 4 (eO l d (k+1))
  else if ef l k [40] then EP l (gz l (eO l d) 5 (k+1))
  else .err k 4
def oT(l:List Tok)(k:Nat):cA aP:=gz l (eO l 24) 5 k
def oN(l:List Tok):Prop:=∃h:0<l.length,(l[l.length-1]'(by omega)).kind=5
def oN.more{l:List Tok}(h:oN l){k:Nat}(hk:k<l.length)(hn:(dM l k).kind≠5):k+1<l.length:=by
 obtain ⟨h0,h1⟩:=h;rcases iQ (k+1) l.length with h|h
 ·exact h
 exfalso;apply hn;rw [lS hk];obtain rfl:k=l.length-1:=by omega
 exact h1
def ru{l:List Tok}{k:Nat}{s:List UInt8}(h:ef l k s=true):(dM l k).kind=4 /\ (dM l k).text=bytes s:=by simpa [ef] using h
def cA.In{α:Type}(l:List Tok)(k:Nat):cA α -> Prop
 |.ok _ k'=>k<k' /\ k'<l.length
 |.err a e=>k <= a /\ a<l.length /\ 0<e /\ e<16
def cA.In.mono{α:Type}{l:List Tok}{k j:Nat}{r:cA α}(h:r.In l k)(hj:j <= k):r.In l j:=by
 cases r<;>unfold cA.In at h⊢<;>omega
def FM{l:List Tok}(hl:oN l){sub:Nat -> cA aP}{level:Nat}(hs:∀k,k<l.length -> (sub k).In l k):∀(n:Nat)(x:aP)(k j:Nat),j<k -> k<l.length -> (jF l sub level n x k).In l j
 |0,x,k,j,hj,hk=>by unfold jF;exact ⟨hj,hk⟩
 |n+1,x,k,j,hj,hk=>by
  unfold jF;by_cases ht:(dM l k).kind=4 /\ (binOp (dM l k).text).2=level
  ·rw [if_pos ht];have hm:=hl.more hk Y;have h1:=hs (k+1) hm;cases hr:sub (k+1) with
   |ok y k'=>
    rw [hr] at h1;obtain ⟨h2,h3⟩:=h1;exact FM hl hs n _ k' j Y h3
   |err a e=>
    rw [hr] at h1;obtain ⟨h2,h3,h4,h5⟩:=h1;exact ⟨Y,h3,h4,h5⟩
  rw [if_neg ht];exact ⟨hj,hk⟩
def xB{l:List Tok}(hl:oN l){single:Nat -> cA aP}(hs:∀k,k<l.length -> (single k).In l k):∀(j k:Nat),k<l.length -> (gz l single j k).In l k
 |0,k,hk=>by unfold gz;exact hs k hk
 |j+1,k,hk=>by
  unfold gz;have h1:=xB hl hs j k hk;cases hr:gz l single j k with
  |ok x k'=>
   rw [hr] at h1;exact FM hl (λk hk=>xB hl hs j k hk) _ _ _ _ h1.1 h1.2
  |err a e=>rw [hr] at h1;exact h1
def JL{l:List Tok}{op:Int}{k j:Nat}{r:cA aP}(h:r.In l k)(hj:j <= k):(y9 op r).In l j:=by
 cases r with
 |ok x k'=>obtain ⟨h1,h2⟩:=h;exact ⟨Y,h2⟩
 |err a e=>obtain ⟨h1,h2,h3,h4⟩:=h;exact ⟨Y,h2,h3,h4⟩
def UI{l:List Tok}(hl:oN l){k j:Nat}{r:cA aP}(h:r.In l k)(hj:j <= k):(EP l r).In l j:=by
 cases r with
 |ok x k'=>
  obtain ⟨h1,h2⟩:=h;show cA.In l j (if ef l k' [41] then .ok x (k'+1) else .err k' 4);by_cases hs:ef l k' [41]=true
  ·rw [if_pos hs];exact ⟨Y,hl.more h2 (by rw [(ru hs).1];decide)⟩
  ·rw [if_neg hs];exact ⟨Y,h2,Y,Y⟩
 |err a e=>obtain ⟨h1,h2,h3,h4⟩:=h;exact ⟨Y,h2,h3,h4⟩
def wM{l:List Tok}(hl:oN l):∀(d k:Nat),k<l.length -> (eO l d k).In l k
 |0,k,hk=>by
  unfold eO;by_cases h1:(dM l k).kind=2
  ·rw [if_pos h1];exact ⟨Y,hl.more hk Y⟩
  ·rw [if_neg h1];by_cases h2:(dM l k).kind=1
   ·rw [if_pos h2];exact ⟨Y,hl.more hk Y⟩
   ·rw [if_neg h2];split<;>exact ⟨Y,hk,Y,Y⟩
 |d+1,k,hk=>by
  unfold eO;by_cases h1:(dM l k).kind=2
  ·rw [if_pos h1];exact ⟨Y,hl.more hk Y⟩
  rw [if_neg h1];by_cases h2:(dM l k).kind=1
  ·rw [if_pos h2];exact ⟨Y,hl.more hk Y⟩
  rw [if_neg h2];by_cases h3:ef l k [45]=true
  ·rw [if_pos h3];exact JL (wM hl d _ (hl.more hk (by rw [(ru h3).1];decide))) Y
  rw [if_neg h3];by_cases h4:ef l k [33]=true
  ·rw [if_pos h4];exact JL (wM hl d _ (hl.more hk (by rw [(ru h4).1];decide))) Y
  rw [if_neg h4];by_cases h5:ef l k [40]=true
  ·rw [if_pos h5];exact UI hl (xB hl (λk hk=>wM hl d k hk) _ _ (hl.more hk (by rw [(ru h5).1];decide))) Y
  rw [if_neg h5];exact ⟨Y,hk,Y,Y⟩
def uN{l:List Tok}(hl:oN l){k:Nat}(hk:k<l.length):(oT l k).In l k:=xB hl (λk hk=>wM hl 24 k hk) 5 k hk
end
section
def cA.bind{α β:Type}(r:cA α)(f:α -> Nat -> cA β):cA β:=
 match r with
 |.ok x k=>f x k
 |.err a e=>.err a e
def fu(l:List Tok)(k:Nat)(s:List UInt8):Bool:=decide ((dM l k).kind=3) && decide ((dM l k).text=bytes s)
def kX(l:List Tok)(k:Nat):cA ByteArray:=if (dM l k).kind=1 then .ok (dM l k).text (k+1) else .err k 4
def lI(l:List Tok)(k:Nat):cA Nat:=if (dM l k).kind=2 then .ok (dM l k).num (k+1) else .err k 4
def fY(l:List Tok)(s:List UInt8)(k:Nat):cA Unit:=if ef l k s then .ok () (k+1) else .err k 4
def su(l:List Tok)(n:ByteArray)(k:Nat):cA cD:=
 if ef l k [91] then (oT l (k+1)).bind λe k=>(fY l [93] k).bind λ_ k=>.ok ⟨n,[e]⟩ k else .ok ⟨n,[]⟩ k
def y0(l:List Tok)(k:Nat):cA cD:=(kX l k).bind (su l)
def q9(l:List Tok)(k:Nat):cA cK:=
 if fu l k [109,117,116,101,120] then (y0 l (k+1)).bind λr k=>.ok ⟨true,r,.zero⟩ k
 else (oT l k).bind λe k=>.ok ⟨false,.zero,e⟩ k
def lQ{α:Type}(l:List Tok)(el:Nat -> Nat -> cA α):Nat -> List α -> Nat -> cA (List α)
 |0,_,k=>.err k 4
 |n+1,acc,k=>(el acc.length k).bind λx k=>if ef l k [44] then lQ l el n (acc++[x]) (k+1) else (fY l [41] k).bind λ_ k=>.ok (acc++[x]) k
def o4{α:Type}(l:List Tok)(el:Nat -> Nat -> cA α)(k:Nat):cA (List α):=
 (fY l [40] k).bind λ_ k=>if ef l k [41] then .ok [] (k+1) else lQ l el l.length [] k
def pr(l:List Tok)(k:Nat):cA (List cK):=o4 l (λ_=>q9 l) k
def kL(l:List Tok)(s:aL)(k:Nat):cA aL:=(fY l [59] k).bind λ_ k=>.ok s k
def yY(l:List Tok)(k:Nat):cA aL:=(kX l k).bind λn k=>(fY l [61] k).bind λ_ k=>(oT l k).bind λe k=>kL l (.mk 1 n e .zero [] [] []) k
def AJ(l:List Tok)(k:Nat):cA aL:=(kX l k).bind λn k=>(pr l k).bind λa k=>kL l (.mk 4 n .zero .zero a [] []) k
def rz(l:List Tok)(kind:Int)(k:Nat):cA aL:=(y0 l k).bind λr k=>kL l (.mk kind ax .zero r [] [] []) k
def wY(l:List Tok)(blk:Nat -> cA (List aL))(e:aP)(t:List aL)(k:Nat):cA aL:=
 if fu l k [101,108,115,101] then (blk (k+1)).bind λf k=>.ok (.mk 7 ax e .zero [] t f) k else .ok (.mk 7 ax e .zero [] t []) k
def uO(l:List Tok)(blk:Nat -> cA (List aL))(k:Nat):cA aL:=(oT l k).bind λe k=>(blk k).bind λt k=>wY l blk e t k
def zh(l:List Tok)(blk:Nat -> cA (List aL))(k:Nat):cA aL:=(oT l k).bind λe k=>(blk k).bind λt k=>.ok (.mk 8 ax e .zero [] t []) k
def Cq(l:List Tok)(k:Nat):cA aL:=kL l (.mk 9 ax .zero .zero [] [] []) k
def rV(l:List Tok)(n:ByteArray)(k:Nat):cA aL:=
 if ef l k [61] then (oT l (k+1)).bind λe k=>kL l (.mk 2 n e .zero [] [] []) k else (pr l k).bind λa k=>kL l (.mk 3 n .zero .zero a [] []) k
def tE(l:List Tok)(k:Nat):cA aL:=(kX l k).bind (rV l)
def mF(l:List Tok)(blk:Nat -> cA (List aL))(k:Nat):cA aL:=
 if fu l k [118,97,114] then yY l (k+1)
 else if fu l k [103,111] then AJ l (k+1)
 else if fu l k [108,111,99,107] then rz l 5 (k+1)
 else if fu l k [117,110,108,111,99,107] then rz l 6 (k+1)
 else if fu l k [105,102] then uO l blk (k+1)
 else if fu l k [119,104,105,108,101] then zh l blk (k+1)
 else if fu l k [114,101,116,117,114,110] then Cq l (k+1)
 else tE l k
def ji(l:List Tok)(st:Nat -> cA aL):Nat -> List aL -> Nat -> cA (List aL)
 |0,_,k=>.err k 4
 |n+1,acc,k=>if ef l k [125] then .ok acc (k+1) else (st k).bind λs k=>ji l st n (acc++[s]) k
def j'(l:List Tok):Nat -> Nat -> cA (List aL)
 |0,k=>if ef l k [123] then .err k 3 else .err k 4
 |d+1,k=>(fY l [123] k).bind λ_ k=>ji l (mF l (j' l d)) l.length [] k
def xY(l:List Tok)(k:Nat):cA bw:=
 (kX l k).bind λn k=>
  if ef l k [61] then
   if ef l (k+1) [45] then (lI l (k+2)).bind λi k=>(fY l [59] k).bind λ_ k=>.ok ⟨n,-(i:Int)⟩ k
   else (lI l (k+1)).bind λi k=>(fY l [59] k).bind λ_ k=>.ok ⟨n,i⟩ k
  else (fY l [59] k).bind λ_ k=>.ok ⟨n,0⟩ k
def DF(l:List Tok)(k:Nat):cA Nat:=(lI l k).bind λi k'=>if i<1∨64<i then .err k 3 else .ok i k'
def ut(l:List Tok)(re:Bool)(k:Nat):cA cq:=
 (kX l k).bind λn k=>
  if re=false /\ ef l k [91]=true then (DF l (k+1)).bind λi k=>(fY l [93] k).bind λ_ k=>(fY l [59] k).bind λ_ k=>.ok ⟨n,re,i⟩ k
  else (fY l [59] k).bind λ_ k=>.ok ⟨n,re,0⟩ k
def ja(l:List Tok)(n k:Nat):cA bp:=
 if 6 <= n /\ ((dM l k).kind=1∨fu l k [109,117,116,101,120]=true) then .err k 3
 else if fu l k [109,117,116,101,120] then (kX l (k+1)).bind λs k=>.ok ⟨s,true⟩ k else (kX l k).bind λs k=>.ok ⟨s,false⟩ k
def Ek(l:List Tok)(k:Nat):cA bE:=(kX l k).bind λn k=>(o4 l (ja l) k).bind λp k=>(j' l 24 k).bind λb k=>.ok ⟨n,p,b⟩ k
def jX(l:List Tok)(x:aZ)(k:Nat):cA aZ:=
 if fu l k [118,97,114] then if 16 <= x.globals.length then .err k 3 else (xY l (k+1)).bind λg k=>.ok {x with globals:=x.globals++[g]} k
 else if fu l k [109,117,116,101,120] then if 12 <= x.mutexes.length then .err k 3 else (ut l false (k+1)).bind λm k=>.ok {x with mutexes:=x.mutexes++[m]} k
 else if fu l k [114,109,117,116,101,120] then if 12 <= x.mutexes.length then .err k 3 else (ut l true (k+1)).bind λm k=>.ok {x with mutexes:=x.mutexes++[m]} k
 else if fu l k [102,117,110,99] then if 16 <= x.funcs.length then .err k 3 else (Ek l (k+1)).bind λf k=>.ok {x with funcs:=x.funcs++[f]} k
 else .err k 4
def kc(l:List Tok):Nat -> aZ -> Nat -> cA aZ
 |0,_,k=>.err k 4
 |n+1,x,k=>if (dM l k).kind=5 then .ok x k else (jX l x k).bind λy k=>kc l n y k
def kW(l:List Tok):cA aZ:=kc l l.length ⟨[],[],[]⟩ 0
def Bn{l:List Tok}{k:Nat}{s:List UInt8}(h:fu l k s=true):(dM l k).kind=3 /\ (dM l k).text=bytes s:=by simpa [fu] using h
def cA.At{α:Type}(l:List Tok)(k:Nat):cA α -> Prop
 |.ok _ k'=>k <= k' /\ k'<l.length
 |.err a e=>k <= a /\ a<l.length /\ 0<e /\ e<16
def cA.In.at{α:Type}{l:List Tok}{k:Nat}{r:cA α}(h:r.In l k):r.At l k:=by
 cases r<;>unfold cA.In at h<;>unfold cA.At<;>omega
def cA.At.mono{α:Type}{l:List Tok}{k j:Nat}{r:cA α}(h:r.At l k)(hj:j <= k):r.At l j:=by
 cases r<;>unfold cA.At at h⊢<;>omega
def cA.At.in{α:Type}{l:List Tok}{k j:Nat}{r:cA α}(h:r.At l k)(hj:j<k):r.In l j:=by
 cases r<;>unfold cA.At at h<;>unfold cA.In<;>omega
def cA.In.bind{α β:Type}{l:List Tok}{k:Nat}{r:cA α}{f:α -> Nat -> cA β}(h:r.In l k)(hf:∀x k',k<k' -> k'<l.length -> (f x k').At l k'):(r.bind f).In l k:=by
 cases r with
 |ok x k'=>unfold cA.In at h;exact (hf x k' h.1 h.2).in h.1
 |err a e=>exact h
def cA.At.bind{α β:Type}{l:List Tok}{k:Nat}{r:cA α}{f:α -> Nat -> cA β}(h:r.At l k)(hf:∀x k',k <= k' -> k'<l.length -> (f x k').At l k'):(r.bind f).At l k:=by
 cases r with
 |ok x k'=>unfold cA.At at h;exact (hf x k' h.1 h.2).mono h.1
 |err a e=>exact h
def iv{α:Type}{l:List Tok}{k:Nat}{x:α}(hk:k<l.length):(cA.ok x k).At l k:=⟨bW _,hk⟩
def qM{α:Type}{l:List Tok}{k:Nat}(hk:k<l.length):(cA.err k 4:cA α).In l k:=⟨bW _,hk,Y,Y⟩
def sX{α:Type}{l:List Tok}{k:Nat}(hk:k<l.length):(cA.err k 3:cA α).In l k:=⟨bW _,hk,Y,Y⟩
section
variable {l:List Tok}(hl:oN l)
include hl
theorem pS{k:Nat}(hk:k<l.length):(kX l k).In l k:=by
 unfold kX;split
 ·exact ⟨Y,hl.more hk Y⟩
 exact qM hk
theorem Es{k:Nat}(hk:k<l.length):(lI l k).In l k:=by
 unfold lI;split
 ·exact ⟨Y,hl.more hk Y⟩
 exact qM hk
theorem my{k:Nat}{s:List UInt8}(hk:k<l.length)(h:ef l k s=true):k+1<l.length:=hl.more hk (by rw [(ru h).1];decide)
theorem lj{k:Nat}{s:List UInt8}(hk:k<l.length)(h:fu l k s=true):k+1<l.length:=hl.more hk (by rw [(Bn h).1];decide)
theorem m5{k:Nat}(s:List UInt8)(hk:k<l.length):(fY l s k).In l k:=by
 unfold fY;split
 ·rename_i h;exact ⟨Y,my hl hk h⟩
 exact qM hk
theorem TE{n:aG}{k:Nat}(hk:k<l.length):(su l n k).At l k:=by
 unfold su;split
 ·rename_i h;exact (((uN hl (my hl hk h)).bind λ_ _ _ hk=>((m5 hl _ hk).bind λ_ _ _ hk=>iv hk).at).at).mono Y
 exact iv hk
theorem L8{k:Nat}(hk:k<l.length):(y0 l k).In l k:=(pS hl hk).bind λ_ _ _ hk=>TE hl hk
theorem EI{k:Nat}(hk:k<l.length):(q9 l k).In l k:=by
 unfold q9;split
 ·rename_i h;exact (((L8 hl (lj hl hk h)).bind λ_ _ _ hk=>iv hk).at).in Y
 exact (uN hl hk).bind λ_ _ _ hk=>iv hk
theorem MO{α:Type}{el:Nat -> Nat -> cA α}(he:∀n k,k<l.length -> (el n k).In l k):∀(n:Nat)(acc:List α)(k:Nat),k<l.length -> (lQ l el n acc k).In l k
 |0,_,k,hk=>by unfold lQ;exact qM hk
 |n+1,acc,k,hk=>by
  unfold lQ;refine (he acc.length k hk).bind λx k' _ hk'=>?_;split
  ·rename_i h;exact (MO he n _ (k'+1) (my hl hk' h)).at.mono Y
  exact ((m5 hl _ hk').bind λ_ _ _ hk=>iv hk).at
theorem Gm{α:Type}{el:Nat -> Nat -> cA α}(he:∀n k,k<l.length -> (el n k).In l k){k:Nat}(hk:k<l.length):(o4 l el k).In l k:=by
 unfold o4;refine (m5 hl _ hk).bind λx k' _ hk'=>?_;split
 ·rename_i h;exact (iv (my hl hk' h)).mono Y
 exact (MO hl he _ _ _ hk').at
theorem Ft{k:Nat}(hk:k<l.length):(pr l k).In l k:=Gm hl (λ_ _ hk=>EI hl hk) hk
theorem uo{s:aL}{k:Nat}(hk:k<l.length):(kL l s k).In l k:=(m5 hl _ hk).bind λ_ _ _ hk=>iv hk
theorem Qa{k:Nat}(hk:k<l.length):(yY l k).In l k:=
 (pS hl hk).bind λ_ _ _ hk=>((m5 hl _ hk).bind λ_ _ _ hk=>((uN hl hk).bind λ_ _ _ hk=>(uo hl hk).at).at).at
theorem TB{k:Nat}(hk:k<l.length):(AJ l k).In l k:=(pS hl hk).bind λ_ _ _ hk=>((Ft hl hk).bind λ_ _ _ hk=>(uo hl hk).at).at
theorem IH{kd:Int}{k:Nat}(hk:k<l.length):(rz l kd k).In l k:=(L8 hl hk).bind λ_ _ _ hk=>(uo hl hk).at
theorem Ov{n:aG}{k:Nat}(hk:k<l.length):(rV l n k).At l k:=by
 unfold rV;split
 ·rename_i h;exact (((uN hl (my hl hk h)).bind λ_ _ _ hk=>(uo hl hk).at).at).mono Y
 exact ((Ft hl hk).bind λ_ _ _ hk=>(uo hl hk).at).at
theorem SI{k:Nat}(hk:k<l.length):(tE l k).In l k:=(pS hl hk).bind λ_ _ _ hk=>Ov hl hk
section
variable {blk:Nat -> cA (List aL)}(hb:∀k,k<l.length -> (blk k).In l k)
include hb
theorem Qz{e:aP}{t:List aL}{k:Nat}(hk:k<l.length):(wY l blk e t k).At l k:=by
 unfold wY;split
 ·rename_i h;exact (((hb _ (lj hl hk h)).bind λ_ _ _ hk=>iv hk).at).mono Y
 exact iv hk
theorem PF{k:Nat}(hk:k<l.length):(uO l blk k).In l k:=(uN hl hk).bind λ_ _ _ hk=>((hb _ hk).bind λ_ _ _ hk=>Qz hl hb hk).at
theorem Qr{k:Nat}(hk:k<l.length):(zh l blk k).In l k:=(uN hl hk).bind λ_ _ _ hk=>((hb _ hk).bind λ_ _ _ hk=>iv hk).at
theorem J9{k:Nat}(hk:k<l.length):(mF l blk k).In l k:=by
 unfold mF;split;·rename_i h;exact (Qa hl (lj hl hk h)).mono Y
 split;·rename_i h;exact (TB hl (lj hl hk h)).mono Y
 split;·rename_i h;exact (IH hl (lj hl hk h)).mono Y
 split;·rename_i h;exact (IH hl (lj hl hk h)).mono Y
 split;·rename_i h;exact (PF hl hb (lj hl hk h)).mono Y
 split;·rename_i h;exact (Qr hl hb (lj hl hk h)).mono Y
 split;·rename_i h;exact (uo hl (lj hl hk h)).mono Y
 exact SI hl hk
end
theorem Hz{st:Nat -> cA aL}(hs:∀k,k<l.length -> (st k).In l k):∀(n:Nat)(acc:List aL)(k:Nat),k<l.length -> (ji l st n acc k).In l k
 |0,_,k,hk=>by unfold ji;exact qM hk
 |n+1,acc,k,hk=>by
  unfold ji;split
  ·rename_i h;exact ⟨Y,my hl hk h⟩
  exact (hs k hk).bind λs k' _ hk'=>(Hz hs n _ k' hk').at
theorem BR:∀(d k:Nat),k<l.length -> (j' l d k).In l k
 |0,k,hk=>by unfold j';split;exact sX hk;exact qM hk
 |d+1,k,hk=>by
  unfold j';exact (m5 hl _ hk).bind λ_ k' _ hk'=>(Hz hl (λk hk=>J9 hl (λk hk=>BR d k hk) hk) _ _ _ hk').at
theorem PW{k:Nat}(hk:k<l.length):(xY l k).In l k:=by
 unfold xY;refine (pS hl hk).bind λ_ k _ hk=>?_;split
 ·rename_i h;have h1:=my hl hk h;split
  ·rename_i h2;have h3:=my hl h1 h2;exact (((Es hl h3).bind λ_ _ _ hk=>((m5 hl _ hk).bind λ_ _ _ hk=>iv hk).at).at).mono Y
  exact (((Es hl h1).bind λ_ _ _ hk=>((m5 hl _ hk).bind λ_ _ _ hk=>iv hk).at).at).mono Y
 exact ((m5 hl _ hk).bind λ_ _ _ hk=>iv hk).at
theorem Qo{k:Nat}(hk:k<l.length):(DF l k).In l k:=by
 unfold DF;have h:=Es hl hk;cases hr:lI l k with
 |ok i k'=>
  rw [hr] at h;show cA.In l k (if i<1∨64<i then .err k 3 else .ok i k');split
  ·exact sX hk
  ·exact h
 |err a e=>rw [hr] at h;exact h
theorem Fq{re:Bool}{k:Nat}(hk:k<l.length):(ut l re k).In l k:=by
 unfold ut;refine (pS hl hk).bind λ_ k _ hk=>?_;split
 ·rename_i h;exact (((Qo hl (my hl hk h.2)).bind λ_ _ _ hk=>((m5 hl _ hk).bind λ_ _ _ hk=>((m5 hl _ hk).bind λ_ _ _ hk=>iv hk).at).at).at).mono Y
 exact ((m5 hl _ hk).bind λ_ _ _ hk=>iv hk).at
theorem BB{n k:Nat}(hk:k<l.length):(ja l n k).In l k:=by
 unfold ja;split
 ·exact sX hk
 split
 ·rename_i h;exact (((pS hl (lj hl hk h)).bind λ_ _ _ hk=>iv hk).at).in Y
 exact (pS hl hk).bind λ_ _ _ hk=>iv hk
theorem PV{k:Nat}(hk:k<l.length):(Ek l k).In l k:=
 (pS hl hk).bind λ_ _ _ hk=>((Gm hl (λ_ _ hk=>BB hl hk) hk).bind λ_ _ _ hk=>((BR hl 24 _ hk).bind λ_ _ _ hk=>iv hk).at).at
theorem Hk{x:aZ}{k:Nat}(hk:k<l.length):(jX l x k).In l k:=by
 unfold jX;split
 ·rename_i h;split
  ·exact sX hk
  exact (((PW hl (lj hl hk h)).bind λ_ _ _ hk=>iv hk).at).in Y
 split
 ·rename_i h;split
  ·exact sX hk
  exact (((Fq hl (lj hl hk h)).bind λ_ _ _ hk=>iv hk).at).in Y
 split
 ·rename_i h;split
  ·exact sX hk
  exact (((Fq hl (lj hl hk h)).bind λ_ _ _ hk=>iv hk).at).in Y
 split
 ·rename_i h;split
  ·exact sX hk
  exact (((PV hl (lj hl hk h)).bind λ_ _ _ hk=>iv hk).at).in Y
 exact qM hk
theorem F':∀(n:Nat)(x:aZ)(k:Nat),k<l.length -> (kc l n x k).At l k
 |0,_,k,hk=>by unfold kc;exact (qM hk).at
 |n+1,x,k,hk=>by
  unfold kc;split
  ·exact iv hk
  exact ((Hk hl hk).bind λy k' _ hk'=>F' n y k' hk').at
end
end
section
def fa{α:Type}(bm k0:Nat)(r:cA α)(x:α)(k e:Nat):Prop:=
 (bm≠0 /\ k=k0 /\ e=bm)∨(bm=0 /\ ((r=.ok x k /\ e=0)∨(r=.err k e /\ e≠0)))
section
variable {α β:Type}{bm k0 k k2 e e2:Nat}{r:cA α}{x:α}{y:β}
theorem fa.skip(h:bm≠0)(r:cA α)(x:α):fa bm k0 r x k0 bm:=.inl ⟨h,rfl,rfl⟩
theorem fa.ok(x:α)(k0 k:Nat)(h:r=.ok x k):fa 0 k0 r x k 0:=.inr ⟨rfl,.inl ⟨h,rfl⟩⟩
theorem fa.err(x:α)(k0 k e:Nat)(h:r=.err k e)(he:e≠0):fa 0 k0 r x k e:=.inr ⟨rfl,.inr ⟨h,he⟩⟩
theorem fa.pure(x:α)(k e:Nat):fa e k (.ok x k) x k e:=by
 by_cases h:e=0
 ·subst h;exact .ok x k k rfl
 exact .skip h _ _
theorem fa.bind{f:α -> Nat -> cA β}(h:fa bm k0 r x k e)(h2:fa e k (f x k) y k2 e2):fa bm k0 (r.bind f) y k2 e2:=by
 rcases h with ⟨h0,rfl,rfl⟩|⟨rfl,⟨rfl,rfl⟩|⟨rfl,he⟩⟩
 ·rcases h2 with ⟨_,rfl,rfl⟩|⟨h3,_⟩
  ·exact .inl ⟨h0,J,J⟩
  exact absurd h3 h0
 ·rcases h2 with ⟨h3,_⟩|⟨_,h2⟩
  ·exact absurd J h3
  exact .inr ⟨J,h2⟩
 rcases h2 with ⟨_,rfl,rfl⟩|⟨h3,_⟩
 ·exact .inr ⟨J,.inr ⟨J,he⟩⟩
 exact absurd h3 he
theorem fa.map{f:α -> β}(h:fa bm k0 r x k e):fa bm k0 (r.bind λx k=>.ok (f x) k) (f x) k e:=h.bind (fa.pure _ _ _)
theorem fa.yes{c:Prop}[Decidable c]{a b:cA α}(hc:bm=0 -> c)(h:fa bm k0 a x k e):fa bm k0 (if c then a else b) x k e:=by
 by_cases h0:bm=0
 ·rw [if_pos (hc h0)];exact h
 rcases h with ⟨_,rfl,rfl⟩|⟨h3,_⟩
 ·exact .skip h0 _ _
 exact absurd h3 h0
theorem fa.no{c:Prop}[Decidable c]{a b:cA α}(hc:bm=0 -> ¬c)(h:fa bm k0 b x k e):fa bm k0 (if c then a else b) x k e:=by
 by_cases h0:bm=0
 ·rw [if_neg (hc h0)];exact h
 rcases h with ⟨_,rfl,rfl⟩|⟨h3,_⟩
 ·exact .skip h0 _ _
 exact absurd h3 h0
theorem fa.from{k1:Nat}(h:fa 0 k1 r x k e):fa 0 k0 r x k e:=by
 rcases h with ⟨h0,_⟩|h
 ·exact absurd J h0
 exact .inr h
theorem fa.eq{r':cA α}(h:fa bm k0 r x k e)(hr:bm=0 -> r=r'):fa bm k0 r' x k e:=by
 rcases h with ⟨h0,h1,h2⟩|⟨h0,h⟩
 ·exact .inl ⟨h0,h1,h2⟩
 rw [hr h0] at h;exact .inr ⟨h0,h⟩
theorem fa.good(h:fa bm k0 r x k e)(he:e=0):bm=0 /\ r=.ok x k:=by
 rcases h with ⟨h0,_,rfl⟩|⟨rfl,⟨rfl,rfl⟩|⟨rfl,h1⟩⟩
 ·exact absurd he h0
 ·exact ⟨J,J⟩
 exact absurd he h1
theorem fa.place{l:List Tok}(h:fa bm k0 r x k e)(hk:k0<l.length)(hr:bm=0 -> r.At l k0):k0 <= k /\ k<l.length:=by
 rcases h with ⟨h0,rfl,rfl⟩|⟨rfl,⟨rfl,rfl⟩|⟨rfl,h1⟩⟩
 ·exact ⟨bW _,hk⟩
 ·exact hr J
 exact ⟨(hr J).1,(hr J).2.1⟩
theorem fa.small{l:List Tok}(h:fa bm k0 r x k e)(he:bm<16)(hr:bm=0 -> r.At l k0):e<16:=by
 rcases h with ⟨h0,rfl,rfl⟩|⟨rfl,⟨rfl,rfl⟩|⟨rfl,h1⟩⟩
 ·exact he
 ·omega
 exact (hr J).2.2.2
end
def bh{α:Type}(bm b0:Nat)(r:cA α)(x:α)(k b e:Nat):Prop:=
 (bm≠0 /\ b=b0 /\ e=bm)∨(bm=0 /\ ((r=.ok x k /\ e=0 /\ b=b0)∨(r=.err b e /\ e≠0)))
section
variable {α β:Type}{bm b0 k k0 b k2 b2 e e2:Nat}{r:cA α}{x:α}{y:β}
theorem bh.skip(h:bm≠0)(r:cA α)(x:α)(k:Nat):bh bm b0 r x k b0 bm:=.inl ⟨h,rfl,rfl⟩
theorem bh.ok(x:α)(k b0:Nat)(h:r=.ok x k):bh 0 b0 r x k b0 0:=.inr ⟨rfl,.inl ⟨h,rfl,rfl⟩⟩
theorem bh.err(x:α)(k b0 b e:Nat)(h:r=.err b e)(he:e≠0):bh 0 b0 r x k b e:=.inr ⟨rfl,.inr ⟨h,he⟩⟩
theorem bh.pure(x:α)(k b e:Nat):bh e b (.ok x k) x k b e:=by
 by_cases h:e=0
 ·subst h;exact .ok x k b rfl
 exact .skip h _ _ _
theorem bh.bind{f:α -> Nat -> cA β}(h:bh bm b0 r x k b e)(h2:bh e b (f x k) y k2 b2 e2):bh bm b0 (r.bind f) y k2 b2 e2:=by
 rcases h with ⟨h0,rfl,rfl⟩|⟨rfl,⟨rfl,rfl,rfl⟩|⟨rfl,he⟩⟩
 ·rcases h2 with ⟨_,rfl,rfl⟩|⟨h3,_⟩
  ·exact .inl ⟨h0,J,J⟩
  exact absurd h3 h0
 ·rcases h2 with ⟨h3,_⟩|⟨_,h2⟩
  ·exact absurd J h3
  exact .inr ⟨J,h2⟩
 rcases h2 with ⟨_,rfl,rfl⟩|⟨h3,_⟩
 ·exact .inr ⟨J,.inr ⟨J,he⟩⟩
 exact absurd h3 he
theorem bh.map{f:α -> β}(h:bh bm b0 r x k b e):bh bm b0 (r.bind λx k=>.ok (f x) k) (f x) k b e:=h.bind (bh.pure _ _ _ _)
theorem bh.yes{c:Prop}[Decidable c]{a d:cA α}(hc:bm=0 -> c)(h:bh bm b0 a x k b e):bh bm b0 (if c then a else d) x k b e:=by
 by_cases h0:bm=0
 ·rw [if_pos (hc h0)];exact h
 rcases h with ⟨_,rfl,rfl⟩|⟨h3,_⟩
 ·exact .skip h0 _ _ _
 exact absurd h3 h0
theorem bh.no{c:Prop}[Decidable c]{a d:cA α}(hc:bm=0 -> ¬c)(h:bh bm b0 d x k b e):bh bm b0 (if c then a else d) x k b e:=by
 by_cases h0:bm=0
 ·rw [if_neg (hc h0)];exact h
 rcases h with ⟨_,rfl,rfl⟩|⟨h3,_⟩
 ·exact .skip h0 _ _ _
 exact absurd h3 h0
theorem bh.eq{r':cA α}(h:bh bm b0 r x k b e)(hr:bm=0 -> r=r'):bh bm b0 r' x k b e:=by
 rcases h with ⟨h0,h1,h2⟩|⟨h0,h⟩
 ·exact .inl ⟨h0,h1,h2⟩
 rw [hr h0] at h;exact .inr ⟨h0,h⟩
theorem bh.good(h:bh bm b0 r x k b e)(he:e=0):bm=0 /\ r=.ok x k /\ b=b0:=by
 rcases h with ⟨h0,_,rfl⟩|⟨rfl,⟨rfl,rfl,rfl⟩|⟨rfl,h1⟩⟩
 ·exact absurd he h0
 ·exact ⟨J,J,J⟩
 exact absurd he h1
theorem bh.small{l:List Tok}(h:bh bm b0 r x k b e)(he:bm<16)(hr:bm=0 -> r.At l k0):e<16:=by
 rcases h with ⟨h0,rfl,rfl⟩|⟨rfl,⟨rfl,rfl,rfl⟩|⟨rfl,h1⟩⟩
 ·exact he
 ·omega
 exact (hr J).2.2.2
end
end
section
open Go.RowKit
section
variable {P:Program}{U T:List Nat}{o:Oper}{n d:Nat}{ts:List (Nat×AT)}{s:aH}{K:AS -> Prop}{st:AS}
theorem KU{x y:bc}{tys:Array bA}{m k:Int}(r:Int)(ho:o.op=.call {callee:=.builtin .max,args:=#[x,y],argTypes:=tys})(hx:ay st x=some (bB m))(hy:ay st y=some (bB k))(hr:max m k=r):cf P U o st (bB r):=
 iF rfl λa w hs w'=>by
  subst hr;simp only [execOp,ho,resolve,km,cd,fg,hs.val hx,hs.val hy];simp [go_sem,invoke,builtin]
theorem Pf{w:aV}{a:Option Addr}{k cap z l h:Nat}{cs:List aN}(hr:jK w (.sl k cs) (.slice a k cap))(h1:l <= h)(h2:h <= k):jK w (.sl (h-l) ((cs.drop (l*z)).take ((h-l)*z))) (.slice (if cap=l then a else a.map (·.add (l*z))) (h-l) (cap-l)):=by
 cases hr with
 |sl _ _ us _ hra hl hh hcap=>
  obtain ⟨a',cap',he,hc,hcell⟩:=hra;cases he;have hR:dH w cs us:=⟨hl,hh⟩;have hR2:=(hR.drop (l*z)).take ((h-l)*z);refine .sl _ _ ((us.drop (l*z)).take ((h-l)*z)) _ ⟨_,_,J,Y,?_⟩ hR2.len hR2.at_ (λ_ _ _ h9=>by cases h9;have:=hcap _ _ _ rfl;omega);rcases hcell with h0|⟨b,off,rfl,hcell⟩
  ·left;subst h0;simp
  by_cases hcl:cap=l
  ·left;have:h-l=0:=Y;rw [this];simp
  right;rw [if_neg hcl];refine ⟨b,off+l*z,by simp [qG],λj u hj=>?_⟩;rw [m0] at hj;split at hj
  ·rw [oi] at hj;rw [qw];exact hcell _ _ hj
  cases hj
theorem Fo{w:aV}{k:Nat}{cs:List aN}{v:aM}(h:cN w (.c (.sl k cs)) v):∃a cap,v=.slice a k cap /\ k <= cap /\ jK w (.sl k cs) (.slice a k cap):=by
 cases h with
 |c _ _ h=>cases h with
  |sl _ _ us _ hr hl hh hc=>obtain ⟨a,cap,rfl,hk,hx⟩:=hr;exact ⟨a,cap,rfl,hk,.sl _ _ us _ ⟨a,cap,rfl,hk,hx⟩ hl hh hc⟩
theorem UM{t e:bA}{x y':bc}{k h z:Nat}{k2:IntKind}{j:Int}{cs r:List aN}(ho:o.op=.slice t x none (some y') none)(hx:ay st x=some (.c (.sl k cs)))(hy':ay st y'=some (au (.int k2 j)))(hj:j=h)(h2:h <= k)
  (ht:P.underlying t=some (.slice (P.elem t))) (he:P.elem t=e) (hz:∀w,(sizeOf e).run P w=.ok z w) (hr:cs.take (h*z)=r):cf P U o st (.c (.sl h r)):=by
 intro a w hs _;have hv:=hs.ev hx;generalize hxe:a.eval x=v at hv;obtain ⟨p,cap,rfl,hk,hrep⟩:=Fo hv;subst hr;subst hj;subst he;have h9:=Pf (z:=z) (l:=0) hrep (d2 _) h2;simp only [qA,sS,xP] at h9;refine ⟨_,.c _ _ h9,λw' _=>?_⟩;simp only [execOp,ho,hxe,hs.val hy',nt,Option.map_none];rw [Sem.run_bind,run_sliceAt_slice (h:=ht),run_slice_h (ht:=ht) (h0:=Int.natCast_nonneg h) (h2:=Int.ofNat_le.2 (gb h2 hk)),hz];simp [Result.andThen,go_sem,sliced]
theorem za{E E' e:bA}{x:bc}{b:aG}(ho:o.op=.convert E E' x)(hd:o.dst=some d)(hn:d<n)(hx:ay ⟨n,T,s,ts⟩ x=some (cB b))(hE:P.underlying E=some .string)(hE':P.underlying E'=some (.slice e))(he:P.underlying e=some (.int .u8))(hb:b.size<9223372036854775808){N:Nat}{cs:List aN}(hN:b.size=N)(hcs:cT b.data.toList=cs)
  (h:K ⟨n,T,s,(d,.c (.sl N cs))::ts⟩):dN P U o ⟨n,T,s,ts⟩ K:=by
 subst hN;subst hcs;intro a w hs KK QQ hK;obtain ⟨C,hC⟩:∃C,C=grownCap w b.size 0 e:=⟨_,rfl⟩;obtain ⟨g1,g2⟩:=grownCap_le w b.size e hb;have hrun:(execOp a.eval o).run P w=.ok (.value (.slice (some ⟨w.heap.size,0,none⟩) b.size C)) (w.drew.alloc (.cells (bytesRow b C) e ((bytesRow b C).size,(bytesRow b C).size+1))):=by
  subst hC;simp only [execOp,ho,Sem.run_bind,hs.val hx];rw [run_bytes_of_string w E E' e b hE hE' he];rfl
 rw [←hC] at g1 g2;clear hC;unfold Oper.wp;rw [hrun,Oper.upon_value,hd];have hrow:=Nx w b C e g1 ((bytesRow b C).size,(bytesRow b C).size+1);generalize hw1:w.drew.alloc (.cells (bytesRow b C) e ((bytesRow b C).size,(bytesRow b C).size+1))=w1 at hrow;have hk:cH [] w w1:=by rw [←hw1];exact (cH.refl _ _).drew.alloc _
 have hsz:w1.heap.size=w.heap.size+1:=by rw [←hw1];show (w.heap.push _).size=_;simp
 have hub:fl (bi s.bl w) (bi s.bl w1):=kR hk gr (λb h=>.inl h);obtain ⟨m1,m2⟩:=hs.mem.up hub Ev;have hm:Mem s w1:=⟨hs.mem.nodup,λb hb=>k_ (hs.mem.lt b hb) hk.size,m1,m2⟩;have s1:=hs.step (w1:=w1) T (hk.mono aK) hm (λb hb=>.inl hb);have hrep:cN (bi s.bl w1) (.c (.sl b.size (cT b.data.toList))) (.slice (some ⟨w.heap.size,0,none⟩) b.size C):=by
  have hne:w.heap.size∉s.bl:=λhm=>by have:w.heap.size<w.heap.size:=hs.mem.lt _ hm;omega
  have hR:=mW (bi s.bl w1) (dI b.data.toList) wX;have aa:(dI b.data.toList).map aN.val=cT b.data.toList:=by simp [dI,cT]
  rw [aa] at hR;refine .c _ _ (.sl _ _ (dI b.data.toList) _ ?_ hR.len hR.at_ (λ_ _ _ h=>by cases h;exact g2));obtain ⟨a',c',he',hc',hr'⟩:=hrow;cases he';refine ⟨_,_,J,g1,?_⟩;rcases hr' with h0|⟨b',off,hb',hr'⟩
  ·exact .inl h0
  cases hb';exact .inr ⟨_,_,J,λj u hu=>by rw [np _ _ _ hne];exact hr' j u hu⟩
 exact hK _ _ _ h (s1.put hn hrep) ⟨hk.mono aK,hk.mono aK,λb hb=>.inl hb,λb hb=>.inl hb⟩ (hk.mono aK)
abbrev Dm(t:AT)(m:Int):AT:=.fact (.fact t 0 0 (words.map λx=>ae x)) 2 0 [aA m]
theorem y2{s:aH}{w w':aV}(hm:Mem s w)(hb:Below w.heap.size w w'):cH [] w w' /\ Mem s w':=by
 have hk:cH [] w w':=cH.of_below hb;have hu:fl (bi s.bl w) (bi s.bl w'):=kR hk gr (λb h=>.inl h);obtain ⟨m1,m2⟩:=hm.up hu Cj;exact ⟨hk,hm.nodup,λb hb'=>k_ (hm.lt b hb') hk.size,m1,m2⟩
theorem GI{F:FuncId}{ts:List AT}{us:List aM}{u:aM}(h1:u.oneCell'=true)(hts:ts=us.map λu=>au u)(h:∀w,Calls P F us.toArray w λe w'=>e=.returned u /\ w=w')(s:aH):aR P F ts [] s λr s'=>r=au u /\ s'=s:=by
 intro vs w hm _ hl hr;subst hts;obtain rfl:vs=us:=by
  refine lw sF λi h1 h2=>?_;have h3:=hr i mR h1;simp only [nK] at h3;exact h3.val
 exact (h w).mono λe w' ⟨h2,h3⟩=>ME
theorem TO{w:aV}{l:List Int}{a:Option Addr}{cap:Nat}(h:dr w (.slice a l.length cap) l.length (l.map (.int .i64)))(hc:cap <= 9223372036854775807):cN (bi [] w) (.c (.sl l.length (l.map λi=>aA i))) (.slice a l.length cap):=by
 have hid:∀a:Addr,(bi [] w).cell? a=w.cell? a:=λa=>np _ _ _ aK;have hR:=mW (bi [] w) (l.map (.int .i64)) wX;rw [lE] at hR;exact .c _ _ (.sl _ _ _ _ (h.mono λa u h=>by rw [hid];exact h) hR.len hR.at_ (λ_ _ _ h=>by cases h;exact hc))
theorem Nm{F:FuncId}{ts:List AT}{vs:List aM}{w:aV}(h:aR P F ts [] ⟨[],[]⟩ λr s'=>r=ap true /\ s'=⟨[],[]⟩)(hl:vs.length=ts.length)(hv:∀i (h:i<ts.length) (h':i<vs.length),cN (bi [] w) ts[i] vs[i]):Calls P F vs.toArray w λe w'=>e=.returned (.bool true) /\ Below w.heap.size w w':=by
 have hm:Mem ⟨[],[]⟩ w:=⟨List.nodup_nil,(λb hb=>absurd hb uT),y7,y7⟩;refine (h vs w hm (λb hb=>absurd hb aK) hl hv).mono λe w' ⟨r,v',s',h1,⟨h2,h3⟩,h4,h5,h6,h7⟩=>?_;subst h2;subst h3;cases h4 with
 |c _ _ h4=>cases h4;exact ⟨h1,⟨h6.os,h6.tape,h6.output,h6.size,λk hk=>h6.block k hk aK⟩⟩
end
end
section
open Go.RowKit
section
variable {P:Program}{U T:List Nat}{o:Oper}{n d:Nat}{bx:List aT}{rw:List aS}{ts:List (Nat×AT)}{K:AS -> Prop}{st:AS}{t:AT}
theorem Qt{t e:bA}{x y:bc}{d n m z bytes:Nat}{v zv:aM}{cs ds:List aN}{i:TypeInfo}(A:List aS){B:List aS}(ho:o.op=.call {callee:=.builtin .append,args:=#[x,y],argTypes:=#[t,t]})(hd:o.dst=some d)(hn:d<st.n)
  (hx:ay st x=some (au v)) (hrow:st.s.rows=A++⟨v,e,z,n,cs⟩::B) (hy:∀a w,eS st a w -> ∃ad c ys,a.eval y=.slice (some ad) m c /\ dH (bi st.s.bl w) ds ys /\ ∀j u,ys[j]?=some u -> w.cell? (ad.add j)=some u) (hu:P.underlying t=some (.slice e)) (hi:P.info? e=some i) (hz:i.zero=some zv) (hsz:i.size=z) (hby:i.bytes=bytes) (hzs:zv.cells.size=z) (h0:0<z)
  (hm:ds.length=m*z) (hlen:n+m <= maxLen) (hbytes:(n+m)*bytes <= 140737488355328) (hU:st.s.bl.Nodup -> ∀b,b∈aO v -> b∈U) (hT:∀b,b∈aO v -> b∈st.T)
  (h:∀v',K {st with s:=⟨st.s.boxes,A++⟨v',e,z,n+m,cs++ds⟩::B⟩,T:=aO v'++st.T,ts:=(d,au v')::st.ts}):dN P U o st K:=by
 refine BK A hd hn hrow h0 (λa w hs us hown=>?_) hU hT h;obtain ⟨ad,cap,ys,hyv,hyrep,hyc⟩:=hy a w hs;exact ⟨ys,hyrep,λKK QQ hK=>G' w x y t ho 0 e i zv z bytes hu hi hz hsz hby hzs h0 v n us (hs.val hx) hown ad m cap ys hyv (by rw [hyrep.len,hm]) hyc hyrep.one hlen hbytes (d2 _) hK⟩
theorem Qc(w:aV)(t ty e:bA)(i:TypeInfo)(size:Nat)(ht:P.underlying t=some (.slice e))(hi:P.info? e=some i)(v:aM)(n:Nat)(xs:List aM)(hown:w.ownsRow 0 e size v n xs)(b:Option Addr)(c:Nat):
  (Builtin.append_ #[t,t] ty #[v,.slice b 0 c]).run P w=.ok v w:=by
 have hl:∀a:Addr,(loadCells a 0).run P w=.ok #[] w:=λa=>run_loadCells_list (P:=P) w a [] Dh;rcases hown.2 with ⟨rfl,rfl⟩|⟨g,cap,cur,rfl,_,_,hnc,_⟩
 ·cases b<;>simp [Builtin.append_,run_underlying ht,sizeOf,typeInfo,hi,Builtin.lenOf,Builtin.firstCells,hl]
 cases b<;>simp [Builtin.append_,run_underlying ht,sizeOf,typeInfo,hi,Builtin.lenOf,Builtin.firstCells,hnc,storeCells,hl]
theorem Jj{t e:bA}{x y:bc}{z k:Nat}{v:aM}{cs:List aN}{i:TypeInfo}(A:List aS){B:List aS}(ho:o.op=.call {callee:=.builtin .append,args:=#[x,y],argTypes:=#[t,t]})(hd:o.dst=some d)(hn:d<n)
  (hx:ay ⟨n,T,⟨bx,A++⟨v,e,z,k,cs⟩::B⟩,ts⟩ x=some (au v)) (hy:∀a w,eS ⟨n,T,⟨bx,A++⟨v,e,z,k,cs⟩::B⟩,ts⟩ a w -> ∃b c,a.eval y=.slice b 0 c) (hu:P.underlying t=some (.slice e)) (hi:P.info? e=some i) (hT:∀b,b∈aO v -> b∈T) (h0:0<z)
  (h:K ⟨n,aO v++T,⟨bx,A++⟨v,e,z,k,cs⟩::B⟩,(d,au v)::ts⟩):dN P U o ⟨n,T,⟨bx,A++⟨v,e,z,k,cs⟩::B⟩,ts⟩ K:=by
 intro a w hs KK QQ hK;obtain ⟨us,hownR,hrep⟩:=hs.mem.row ⟨v,e,z,k,cs⟩ aK;have hown:=hownR.row h0;obtain ⟨b,c,hyv⟩:=hy a w hs;have hr:=Qc (P:=P) w t o.type e i z hu hi v k us hown b c;have s2:=hs.step (w1:=w) (aO v++T) (cH.refl _ _) hs.mem (λb hb=>.inl hb);have h1c:v.oneCell'=true:=by obtain ⟨_,_,he⟩:=vK hown;dsimp only at he;rw [he];rfl
 have hxv:=hs.val hx;have goal:KK (a.put o.dst v) w:=by
  rw [hd];refine hK _ _ _ h (s2.put (v:=v) hn (.c _ _ (.val _ h1c))) ⟨cH.refl _ _,cH.refl _ _,λb hb=>.inl hb,λg hg=>?_⟩ (cH.refl _ _);rcases mem_append.1 hg with hg|hg
  ·exact .inl (hT g hg)
  exact .inl hg
 unfold Oper.wp execOp;simp only [ho,resolve,invoke,builtin,Sem.run_bind,Sem.run_pure,Result.andThen_ok,km,cd,fg,hxv,hyv,hr];exact goal
theorem na{E e:bA}{x y:bc}{k m z:Nat}{v zv:aM}{cs ds r:List aN}(A:List aS)(i:TypeInfo)(bytes:Nat){B:List aS}(ho:o.op=.call {callee:=.builtin .append,args:=#[x,y],argTypes:=#[E,E]})(hd:o.dst=some d)(hn:d<n)
  (hx:ay ⟨n,T,⟨bx,A++⟨v,e,z,k,cs⟩::B⟩,ts⟩ x=some (au v)) (hy:ay ⟨n,T,⟨bx,A++⟨v,e,z,k,cs⟩::B⟩,ts⟩ y=some (.c (.sl m ds))) (hu:P.underlying E=some (.slice e)) (hi:P.info? e=some i) (hz:i.zero=some zv) (hsz:i.size=z) (hby:i.bytes=bytes) (hzs:zv.cells.size=z) (h0:0<z)
  (hm:ds.length=m*z) (hlen:k+m <= maxLen) (hbytes:(k+m)*bytes <= 140737488355328) {N:Nat} (hN:k+m=N) (hU:(⟨bx,A++⟨v,e,z,k,cs⟩::B⟩:aH).bl.Nodup -> ∀b,b∈aO v -> b∈U) (hT:∀b,b∈aO v -> b∈T) (hr:cs++ds=r)
  (h:∀v',K ⟨n,aO v'++T,⟨bx,A++⟨v',e,z,N,r⟩::B⟩,(d,au v')::ts⟩):dN P U o ⟨n,T,⟨bx,A++⟨v,e,z,k,cs⟩::B⟩,ts⟩ K:=by
 rcases ud m with rfl|hm0
 ·have hds:ds=[]:=uv (by rw [hm,qA]);subst hds;subst hr;subst hN;refine Jj A ho hd hn hx (λa w hs=>?_) hu hi hT h0 ?_
  ·obtain ⟨p,cap,hv,-⟩:=Fo (hs.ev hy);exact ⟨p,cap,hv⟩
  have:=h v;rw [eC,sY] at this;exact this
 subst hr;subst hN;exact E7 A ho hd hn hx J hy hu hi hz hsz hby hzs h0 hm hm0 hlen hbytes hU hT h
theorem Lw{E e:bA}{x y:bc}{k m z:Nat}{v vy zv:aM}{cs ds r:List aN}(A:List aS)(i:TypeInfo)(bytes:Nat){B:List aS}(ho:o.op=.call {callee:=.builtin .append,args:=#[x,y],argTypes:=#[E,E]})(hd:o.dst=some d)(hn:d<n)
  (hx:ay ⟨n,T,⟨bx,A++⟨v,e,z,k,cs⟩::B⟩,ts⟩ x=some (au v)) (hy:ay ⟨n,T,⟨bx,A++⟨v,e,z,k,cs⟩::B⟩,ts⟩ y=some (au vy)) (hmem:(⟨vy,e,z,m,ds⟩:aS)∈A++⟨v,e,z,k,cs⟩::B) (hu:P.underlying E=some (.slice e)) (hi:P.info? e=some i) (hz:i.zero=some zv) (hsz:i.size=z) (hby:i.bytes=bytes) (hzs:zv.cells.size=z) (h0:0<z)
  (hlen:k+m <= maxLen) (hbytes:(k+m)*bytes <= 140737488355328) {N:Nat} (hN:k+m=N) (hU:(⟨bx,A++⟨v,e,z,k,cs⟩::B⟩:aH).bl.Nodup -> ∀b,b∈aO v -> b∈U) (hT:∀b,b∈aO v -> b∈T) (hm:ds.length=m*z) (hr:cs++ds=r)
  (h:∀v',K ⟨n,aO v'++T,⟨bx,A++⟨v',e,z,N,r⟩::B⟩,(d,au v')::ts⟩):dN P U o ⟨n,T,⟨bx,A++⟨v,e,z,k,cs⟩::B⟩,ts⟩ K:=by
 rcases ud m with rfl|hm0
 ·have hds:ds=[]:=uv (by rw [hm,qA]);subst hds;subst hr;subst hN;refine Jj A ho hd hn hx (λa w hs=>?_) hu hi hT h0 ?_
  ·obtain ⟨us,hownR,-⟩:=hs.mem.row _ hmem;have hown:=hownR.row h0;obtain ⟨p,cap,hv⟩:=vK hown;exact ⟨p,cap,by rw [hs.val hy];exact hv⟩
  have:=h v;rw [eC,sY] at this;exact this
 subst hr;subst hN;refine Qt (st:=⟨n,T,⟨bx,A++⟨v,e,z,k,cs⟩::B⟩,ts⟩) A ho hd hn hx J (λa w hs=>?_) hu hi hz hsz hby hzs h0 hm hlen hbytes hU hT h;obtain ⟨us,hownR,hrep⟩:=hs.mem.row _ hmem;have hown:=hownR.row h0;obtain ⟨g,cap,hv⟩:=Eu hs.mem hmem hm0 h0;have hvy:=hs.val hy;dsimp only at hv hown hrep;subst hv;exact ⟨⟨g,0,none⟩,cap,us,hvy,hrep,λj u hj=>hown.cells (g:=g) J j u hj⟩
theorem uq{E E':bA}{x:bc}{k:Nat}(ho:o.op=.convert E E' x)(hx:ay st x=some (aX k))(hk:k<256)(hE:(P.underlying E).isSome=true)(hE':P.underlying E'=some (.int (P.intKind E')))(hk8:P.intKind E'=.u8):cf P U o st (au (.int .u8 ((UInt8.ofNat k).toNat:Int))):=by
 intro a w hs _;refine ⟨_,.c _ _ (.val _ J),λw' _=>?_⟩;have h1:=run_convert_int (P:=P) (w:=w') E E' .i64 ((k:Nat):Int) hE hE';simp only [execOp,ho,Sem.run_bind,hs.val hx];rw [h1,hk8];have h2:IntKind.u8.wrap ((k:Nat):Int)=((k:Nat):Int):=by
  have h3:(List.range 256).all (λk=>decide (IntKind.u8.wrap ((k:Nat):Int)=((k:Nat):Int)))=true:=aQ;exact of_decide_eq_true (d3.1 h3 k (mr.2 hk))
 rw [h2,show (UInt8.ofNat k).toNat=k from UInt8.toNat_ofNat_of_lt' hk];rfl
end
def P8{w:aV}{u v:aM}(h:jK w (.val v) u):u=v:=by cases h;rfl
def kS{U:List Nat}{o:Oper}{st:AS}{x:bc}{t:List UInt8}{k:Nat}(ho:o.op=.convert 58 9 x)(hx:ay st x=some (.c (.sl k (cT t))))(hk:k=t.length):cf prog U o st (cB (bytes t)):=by
 subst hk;intro a w hs hU;refine ⟨_,.c _ _ (.val _ J),λw' hkp=>?_⟩;have hv:=hs.ev hx;generalize hxe:a.eval x=v at hv;cases hv with
 |c _ _ hv=>cases hv with
  |sl _ _ us _ hr hl hh hc=>
   obtain ⟨p,cap,rfl,hcap,hr⟩:=hr;have hus:us=dI t:=by
    refine lw (by rw [hl];simp [cT,dI]) λj h1 h2=>?_;have h3:=hh j (by simpa [cT,dI] using h2) h1;have h4:(cT t)[j]'(by simpa [cT,dI] using h2)=.val (dI t)[j]:=by simp [cT,dI]
    rw [h4] at h3;exact P8 h3
   subst hus;have hcv:=C4 t p cap w' (by
    rcases hr with h0|⟨b,off,rfl,hr⟩
    ·exact .inl h0
    refine .inr ⟨b,off,J,λj u hj=>?_⟩;obtain ⟨h4,h5⟩:=nW (hr j u hj);rw [hkp.cell (lL h4) (λhm=>h5 (hU _ hm))];exact h4)
   simp only [execOp,ho,Sem.run_bind,hxe];rw [hcv];rfl
instance X4{P:Program}{U T:List Nat}{n N:Nat}{ts:List (Nat×AT)}{t:AT}{g:Prop}{K:AS -> Prop}{E T0:TypeId}{x y:Operand}{ty:TypeId}{pos:String}{af:Array Edge}{gd:Option (Nat×Bool)}{b off z:Nat}{cs ds r:List aN}{ag:Bool}{bx A B:List aT}{rw:List aS}[h1:gC ts x (au (.pointer (some ⟨b,off,none⟩)))][h2:gC ts y t][h3:qC t ds][h4:kZ bx b A T0 cs B][h5:cj P E ag z][h6:sx cs off ds z r]{bx2:List aT}[h7:vD bx rw T U b][h8:pR A (⟨b,T0,r⟩::B) bx2][h:dY N (K ⟨n,T,⟨bx2,rw⟩,ts⟩) g]:dY (N+1) (dN P U ⟨none,.store E x y,ty,pos,af,gd⟩ ⟨n,T,⟨bx,rw⟩,ts⟩ K) g:=⟨λk=>
 AB A rfl rfl (h1.h _ _ _) (h2.h _ _ _) h3.h h4.h h5.h.2 h6.h.2.2 h6.h.2.1 h6.h.1 h7.h.1 h7.h.2 E5⟩
end
section
open Go.RowKit
def Vf{bx bx':List aT}{rw:List aS}(h:bx'.Perm bx):jU ⟨bx,rw⟩ ⟨bx',rw⟩:=by
 intro w hm;have hp:((⟨bx',rw⟩:aH).bl).Perm ((⟨bx,rw⟩:aH).bl):=List.Perm.append (h.map _) (List.Perm.refl _);have hu:fl (bi (⟨bx,rw⟩:aH).bl w) (bi (⟨bx',rw⟩:aH).bl w):=up_sub λb hb=>hp.mem_iff.1 hb;exact ⟨⟨hp.nodup_iff.2 hm.nodup,λb hb=>hm.lt b (hp.mem_iff.1 hb),λx hx=>let ⟨us,e,r⟩:=hm.box x (h.mem_iff.1 hx);⟨us,e,r.mono hu⟩,λx hx=>let ⟨us,e,r⟩:=hm.row x hx;⟨us,e,r.mono hu⟩⟩,λb hb=>hp.mem_iff.1 hb⟩
def Mem.setRowR{s:aH}{w:aV}{A B:List aS}{g cap k z:Nat}{E:bA}{cs ds:List aN}{cur cur':Array aM}{us':List aM}(h:Mem s w)(hb:s.rows=A++⟨.slice (some ⟨g,0,none⟩) k cap,E,z,k,cs⟩::B)(h1:w.heap[g]?=some (.cells cur E (0,0)))(hr:dH (bi s.bl w) ds us')
  (hkc:k <= cap) (hcm:cap <= maxLen) (hsz:cur'.size=cap*z) (htk:cur'.toList.take (k*z)=us') (hlen:us'.length=k*z):
  Mem ⟨s.boxes,A++⟨.slice (some ⟨g,0,none⟩) k cap,E,z,k,ds⟩::B⟩ (w.setRow g cur'):=by
 have hbl:(⟨s.boxes,A++⟨.slice (some ⟨g,0,none⟩) k cap,E,z,k,ds⟩::B⟩:aH).bl=s.bl:=rW;have hmem:g∈s.bl:=GE;have hk:=vC w g cur';have hu:fl (bi s.bl w) (bi s.bl (w.setRow g cur')):=kR hk B1 (λx hx=>.inl hx);have hnd:=h.nodup;have hg:g∈aO (.slice (some ⟨g,0,none⟩) k cap):=kq;have hnd2:(s.boxes.map aT.b++(A.flatMap (λr=>aO r.v)++(aO (.slice (some ⟨g,0,none⟩) k cap)++B.flatMap λr=>aO r.v))).Nodup:=by
  have:=hnd;unfold aH.bl at this;rw [hb] at this;simpa using this
 have hbox:∀x,x∈s.boxes -> x.b≠g:=λx hx he=>(du.1 hnd2).2.2 x.b (gH.2 ⟨x,hx,J⟩) g (by simp [hg]) he;have hrow:∀r,r∈A∨r∈B -> g∉aO r.v:=by
  intro r hr hm;have h2:=(du.1 hnd2).2.1;rcases hr with hr|hr
  ·exact (du.1 h2).2.2 g (jv.2 ⟨r,hr,hm⟩) g (fj _ hg) J
  exact (du.1 (du.1 h2).2.1).2.2 g hg g (jv.2 ⟨r,hr,hm⟩) J
 refine ⟨by rw [hbl];exact hnd,λx hx=>Bs,λx hx=>?_,λr hr2=>?_⟩
 ·rw [hbl];obtain ⟨us,aa,e2⟩:=h.box x hx;exact ⟨us,MG,e2.mono hu⟩
 rw [hbl];have old:r∈A∨r∈B -> ∃us,m8 (w.setRow g cur') r us /\ dH (bi s.bl (w.setRow g cur')) r.cs us:=λhr=>by
  have hr3:r∈s.rows:=Hb;obtain ⟨us,aa,e2⟩:=h.row r hr3;exact ⟨us,aa.keep λq hq=>hk.block q (h.lt q (f7 _ (jv.2 ⟨r,hr3,hq⟩))) GF,e2.mono hu⟩
 simp only [mem_append,mem_cons] at hr2;rcases hr2 with hr2|rfl|hr2
 ·exact old (.inl hr2)
 ·exact ⟨us',.inl ⟨hlen,.inr ⟨g,cap,cur',J,d2 _,setRow_heap w g cur _ E (0,0) h1,hkc,hcm,hsz,htk⟩⟩,hr.mono hu⟩
 exact old (.inr hr2)
def Pe{P:Program}{U:List Nat}{o:Oper}{st:AS}{K:AS -> Prop}{ty E:bA}{x y:bc}{g off z zz k cap:Nat}{cs ds r:List aN}{t:AT}(A:List aS){B:List aS}(ho:o.op=.store ty x y)(hd:o.dst=none)(hx:ay st x=some (au (.pointer (some ⟨g,off,none⟩))))(hy:ay st y=some t)(hc:jo t=some ds)
  (hb:st.s.rows=A++⟨.slice (some ⟨g,0,none⟩) k cap,E,zz,k,cs⟩::B) (hS:∀w,(sizeOf ty).run P w=.ok z w) (hz:ds.length=z) (hl:off+z <= cs.length) (hr:splice cs off ds=r) (hT:g∈st.T) (hU:st.s.bl.Nodup -> g∈U)
  (h:K {st with s:=⟨st.s.boxes,A++⟨.slice (some ⟨g,0,none⟩) k cap,E,zz,k,r⟩::B⟩}):dN P U o st K:=by
 intro a w hs KK QQ hK;subst hr;have hmem:(⟨.slice (some ⟨g,0,none⟩) k cap,E,zz,k,cs⟩:aS)∈st.s.rows:=rR;obtain ⟨us,hownR,h2⟩:=hs.mem.row _ hmem;obtain ⟨h0,h1⟩:=hownR.row0 rfl;rcases h1 with ⟨h1,-⟩|⟨g',cap',cur,hv,-,hh,hkc,hcm,hcs,htk⟩
 ·cases h1
 cases hv;dsimp only at h0 hh hkc hcs htk;have hv:=sL hc (hs.ev hy);have hlen:=hv.len;have hl2:us.length=cs.length:=h2.len;have hle:k*zz <= cur.size:=by rw [hcs];exact Nat.mul_le_mul_right _ hkc
 have hbl:(⟨st.s.boxes,A++⟨.slice (some ⟨g,0,none⟩) k cap,E,zz,k,splice cs off ds⟩::B⟩:aH).bl=st.s.bl:=rW;have hbm:g∈st.s.bl:=GE;generalize hvs:(a.eval y).cells.toList=vs at hv hlen;have hst:=run_storeCells_at (P:=P) g off E vs 0 cur w hh Y hv.one;simp only [sY] at hst;have hk:=vC w g (cur.toList.take off++vs++cur.toList.drop (off+vs.length)).toArray;unfold Oper.wp;have hrun:(execOp a.eval o).run P w=.ok .skip (w.setRow g (cur.toList.take off++vs++cur.toList.drop (off+vs.length)).toArray):=by
  have hsz:(a.eval y).cells.size=z:=by rw [←pU,hvs,hlen,hz]
  simp only [execOp,ho,hs.val hx,Instr.storeAt,Instr.sureAddr,storeVar,Sem.run_bind,Sem.run_pure,Result.andThen_ok,hS,hsz,ne_eq,not_true_eq_false,if_false,hvs];rw [hst];rfl
 rw [hrun,Oper.upon_skip,hd];have htk2:(cur.toList.take off++vs++cur.toList.drop (off+vs.length)).take (k*zz)=us.take off++vs++us.drop (off+vs.length):=by
  subst htk;refine zB λj=>?_;rw [m0];by_cases hj:j<k*zz
  ·rw [if_pos hj];simp only [List.getElem?_append,length_append,j8,pU,m0,oi]
   repeat' split
   all_goals first|rfl|omega|(congr 1;omega)|skip
  rw [if_neg hj,wT];simp only [length_append,j8,jk,pU];omega
 have hm:=hs.mem.setRowR (cur':=(cur.toList.take off++vs++cur.toList.drop (off+vs.length)).toArray) hb hh (h2.splice hv off) hkc hcm (by simp only [uF,length_append,j8,jk,pU];omega) htk2 (by simp only [length_append,j8,jk];omega);refine hK _ _ _ h (hs.step st.T (hk.mono qU) hm (λx hx=>.inl p8)) ⟨hk.mono qU,hk.mono vR,λx hx=>.inl p8,λx hx=>.inl hx⟩ (hk.mono vI)
section
variable {P:Program}{ops:Array Oper}{Z T:List Nat}{o:Oper}{n:Nat}{s:aH}{ts:List (Nat×AT)}{K:AS -> Prop}{bx:List aT}{rw:List aS}{Q:Exit -> AS -> Prop}{l:List Oper}
theorem three(i j k:Nat){o2 o3:Oper}{fuel:Nat}{listed:Array Bool}(hr:Region.ready .any ops listed=[i,j,k])(hi:ops.toList[i]?=some o)(hw:dn ops o ⟨n,T,s,ts⟩=some true)(hi2:ops.toList[j]?=some o2)(hw2:dn ops o2 ⟨n,T,s,ts⟩=some true)(hi3:ops.toList[k]?=some o3)(hw3:dn ops o3 ⟨n,T,s,ts⟩=some true)
  (h:dN P (fG s Z) o ⟨n,T,s,ts⟩ λs=>dh P ops Z fuel (listed.setIfInBounds i true) s K) (h2:dN P (fG s Z) o2 ⟨n,T,s,ts⟩ λs=>dh P ops Z fuel (listed.setIfInBounds j true) s K) (h3:dN P (fG s Z) o3 ⟨n,T,s,ts⟩ λs=>dh P ops Z fuel (listed.setIfInBounds k true) s K):dh P ops Z (fuel+1) listed ⟨n,T,s,ts⟩ K:=
 yj hr rfl (sB hi hw h (sB hi2 hw2 h2 (sB hi3 hw3 h3 yT)))
theorem Vo{x y:aT}{B:List aT}(h:cL P ops l ⟨n,T,⟨y::x::B,rw⟩,ts⟩ Q):cL P ops l ⟨n,T,⟨x::y::B,rw⟩,ts⟩ Q:=
 rh (qO (st:=⟨n,T,⟨x::y::B,rw⟩,ts⟩) (Vf (List.Perm.swap _ _ _))) h
theorem eY{Z:List Nat}{r:aS}{b:Nat}[h1:vn bx Z](hn:(⟨bx,rw⟩:aH).bl.Nodup)(hb:b∈aO r.v)(hr:r∈rw:=by simp):b∈fG ⟨bx,rw⟩ Z:=by
 have h3:b∈rw.flatMap λr=>aO r.v:=jv.2 ⟨r,hr,hb⟩;refine gK.2 ⟨f7 _ h3,λhz=>?_⟩;exact (du.1 hn).2.2 b (h1.h b hz) b h3 J
theorem nT{P:Program}{U:List Nat}{o:Oper}{st:AS}{E yt:bA}{x y:bc}{c d:UInt8}{a b r:aG}(ho:o.op=.binOp .add E x y yt)(hx:ay st x=some (cB a))(hy:ay st y=some (cB b))(ha:a=bytes [c])(hb:b=bytes [d])(hr:bytes [c,d]=r):cf P U o st (cB r):=by
 subst hr;subst hb;subst ha;exact Dk (P:=P) (U:=U) ho hx hy (by show 1+1 <= _;decide)
end
def s_{P:Program}{U T:List Nat}{o:Oper}{n:Nat}{bx:List aT}{ts:List (Nat×AT)}{K:AS -> Prop}{ty E:bA}{x y:bc}{g off z zz k cap:Nat}{cs ds r:List aN}{t:AT}(A:List aS){B:List aS}(ho:o.op=.store ty x y)(hd:o.dst=none)(hx:ay ⟨n,T,⟨bx,A++⟨.slice (some ⟨g,0,none⟩) k cap,E,zz,k,cs⟩::B⟩,ts⟩ x=some (au (.pointer (some ⟨g,off,none⟩))))(hy:ay ⟨n,T,⟨bx,A++⟨.slice (some ⟨g,0,none⟩) k cap,E,zz,k,cs⟩::B⟩,ts⟩ y=some t)(hc:jo t=some ds)
  (hS:∀w,(sizeOf ty).run P w=.ok z w) (hz:ds.length=z) (hl:off+z <= cs.length) (hr:splice cs off ds=r) (hT:g∈T) (hU:(⟨bx,A++⟨.slice (some ⟨g,0,none⟩) k cap,E,zz,k,cs⟩::B⟩:aH).bl.Nodup -> g∈U)
  (h:K ⟨n,T,⟨bx,A++⟨.slice (some ⟨g,0,none⟩) k cap,E,zz,k,r⟩::B⟩,ts⟩):dN P U o ⟨n,T,⟨bx,A++⟨.slice (some ⟨g,0,none⟩) k cap,E,zz,k,cs⟩::B⟩,ts⟩ K:=Pe A ho hd hx hy hc rfl hS hz hl hr hT hU h
end
section
open Go.RowKit
section
variable {m n:Int}
theorem bg(h:m=n):eU .eql m n=some true:=pM
theorem bZ(h:¬m=n):eU .eql m n=some false:=pM
theorem fe(h:¬m=n):eU .neq m n=some true:=pM
theorem dv(h:m=n):eU .neq m n=some false:=pM
theorem ck(h:m<n):eU .lss m n=some true:=pM
theorem cg(h:¬m<n):eU .lss m n=some false:=AW
theorem vV(h:m <= n):eU .leq m n=some true:=pM
theorem xJ(h:¬m <= n):eU .leq m n=some false:=AW
theorem ek(h:n<m):eU .gtr m n=some true:=pM
theorem em(h:¬n<m):eU .gtr m n=some false:=AW
theorem mH(h:n <= m):eU .geq m n=some true:=pM
theorem nP(h:¬n <= m):eU .geq m n=some false:=AW
end
section
variable {m n:ByteArray}
theorem nA(h:m=n):kb .eql m n=some true:=by simp [kb,h]
theorem m9(h:¬m=n):kb .eql m n=some false:=by simp [kb,h]
theorem yl(h:¬m=n):kb .neq m n=some true:=by simp [kb,h]
theorem yy(h:m=n):kb .neq m n=some false:=by simp [kb,h]
end
section
variable {P:Program}{U T:List Nat}{o:Oper}{n d:Nat}{ts:List (Nat×AT)}{s:aH}{K:AS -> Prop}{st:AS}{Q:Exit -> AS -> Prop}
theorem cI{t t':AT}(h:bu t t')(hy:cf P U o st t):cf P U o st t':=λa w hs hu=>
 let ⟨v,h1,h2⟩:=hy a w hs hu
 ⟨v,h _ _ h1,h2⟩
theorem bF{a b:Bool}(h:a=b):bu (ap a) (ap b):=h▸bu.refl _
theorem bv{a b:Int}(h:a=b):bu (bB a) (bB b):=h▸bu.refl _
theorem fH{a b:aG}(h:a=b):bu (cB a) (cB b):=h▸bu.refl _
theorem oX{x:Bool}(h:x=true):(!x)=false:=m6
theorem ol{x:Bool}(h:x=false):(!x)=true:=m6
theorem bU{a b:Bool}(h:b=a):AT.c (bD a)=ap b:=h▸rfl
theorem fI{a b:Int}(h:b=a):AT.c (aA a)=bB b:=h▸rfl
theorem lH{a b:aG}(h:b=a):AT.c (ae a)=cB b:=h▸rfl
theorem VX(a b:List UInt8):bytes a++bytes b=bytes (a++b):=xX qN
theorem wh(a:List UInt8):(bytes a).size=a.length:=ri
theorem pe{t yt:bA}{x y:bc}{m k:aG}(a b:List UInt8)(ho:o.op=.binOp .add t x y yt)(hx:ay st x=some (cB m))(hy:ay st y=some (cB k))(ha:m=bytes a)(hb:k=bytes b)(hl:a.length+b.length <= 9223372036854775807):cf P U o st (cB (bytes (a++b))):=by
 subst ha;subst hb;rw [←VX];exact Dk ho hx hy (by rw [wh,wh];exact hl)
theorem back(s:aG):s=bytes s.data.toList:=qN
theorem fX{F:FuncId}{ars:Array bc}{tys:Array bA}{us:List AT}{QQ:AT -> aH -> Prop}(ho:o.op=.call {callee:=.value (.func F),args:=ars,argTypes:=tys})(hd:o.dst=some d)(hn:d<n)
  (hcf:∀args w,(callFunc F args).run P w=.ok (.enter F args) w) (has:ars.toList.map (ay ⟨n,T,s,ts⟩)=us.map some) (hc:aR P F us [] s QQ) (h:∀r s',QQ r s' -> K ⟨n,T,s',(d,r)::ts⟩):dN P U o ⟨n,T,s,ts⟩ K:=
 bj [] ho hd hn hcf has hc dL dL (λ_=>dL) h
theorem lc{c:Code}(N i:Nat)(fx:Nat -> List (Nat×AT))(hs:Sub ⟨n,T,s,ts⟩ ⟨n,T,s,(i,aX 0)::fx 0⟩)
  (round:∀k,k <= N -> bo P c ⟨n,T,s,(i,aX k)::fx k⟩ (j_ (λs'=>k<N /\ Sub s' ⟨n,T,s,(i,aX (k+1))::fx (k+1)⟩) Q)):bo P (.loop c) ⟨n,T,s,ts⟩ Q:=by
 refine ff (λk=>⟨n,T,s,(i,aX k)::fx k⟩) (λk=>k <= N) (λk=>N-k) 0 hs (d2 _) λk hk=>qP (round k hk) λe s' h=>?_;cases e with
 |normal=>exact ⟨k+1,h.1,by have:=h.1;omega,h.2⟩
 |_=>exact h
theorem jO{c:Code}(p:Nat -> Prop)(N i:Nat)(fx:Nat -> List (Nat×AT))(hp:p 0)(hs:Sub ⟨n,T,s,ts⟩ ⟨n,T,s,(i,aX 0)::fx 0⟩)
  (round:∀k,k <= N -> p k -> bo P c ⟨n,T,s,(i,aX k)::fx k⟩ (j_ (λs'=>k<N /\ p (k+1) /\ Sub s' ⟨n,T,s,(i,aX (k+1))::fx (k+1)⟩) Q)):bo P (.loop c) ⟨n,T,s,ts⟩ Q:=by
 refine ff (λk=>⟨n,T,s,(i,aX k)::fx k⟩) (λk=>k <= N /\ p k) (λk=>N-k) 0 hs ⟨d2 _,hp⟩ λk hk=>qP (round k hk.1 hk.2) λe s' h=>?_;cases e with
 |normal=>exact ⟨k+1,⟨h.1,h.2.1⟩,by have:=h.1;omega,h.2.2⟩
 |_=>exact h
theorem D2{c:Code}{bx bx0:List aT}{rw rw0:List aS}(p:Nat -> Prop)(N i j:Nat)(E:bA)(z:Nat)(cnt:Nat -> Nat)(cs:Nat -> List aN)(T0:List Nat)(fx:Nat -> List (Nat×AT))(hp:p 0)
  (hs:Sub ⟨n,T,⟨bx0,rw0⟩,ts⟩ ⟨n,aO (.slice none 0 0)++T0,⟨bx,⟨.slice none 0 0,E,z,cnt 0,cs 0⟩::rw⟩,(i,aX 0)::(j,.c (aI))::fx 0⟩)
  (round:∀k v,k <= N -> p k -> bo P c ⟨n,aO v++T0,⟨bx,⟨v,E,z,cnt k,cs k⟩::rw⟩,(i,aX k)::(j,au v)::fx k⟩
   (j_ (λs'=>k<N /\ p (k+1) /\ ∃v',Sub s' ⟨n,aO v'++T0,⟨bx,⟨v',E,z,cnt (k+1),cs (k+1)⟩::rw⟩,(i,aX (k+1))::(j,au v')::fx (k+1)⟩) Q)):bo P (.loop c) ⟨n,T,⟨bx0,rw0⟩,ts⟩ Q:=by
 refine ff (λg:Nat×aM=>⟨n,aO g.2++T0,⟨bx,⟨g.2,E,z,cnt g.1,cs g.1⟩::rw⟩,(i,aX g.1)::(j,au g.2)::fx g.1⟩) (λg=>g.1 <= N /\ p g.1) (λg=>N-g.1) (0,.slice none 0 0) hs ⟨d2 _,hp⟩ λg hg=>qP (round g.1 g.2 hg.1 hg.2) λe s' h=>?_;cases e with
 |normal=>
  obtain ⟨h1,h2,v',h3⟩:=h;exact ⟨(g.1+1,v'),⟨h1,h2⟩,by show N-(g.1+1)<N-g.1;omega,h3⟩
 |_=>exact h
end
def Oper.wp_mono2{P:Program}{Q Q':Exit -> Act -> aV -> Prop}{o:Oper}{a:Act}{w:aV}{K K':Act -> aV -> Prop}(h:∀a w,K a w -> K' a w)(hq:∀e a w,e≠.normal -> Q e a w -> Q' e a w)(hl:LetsOut Q -> LetsOut Q')
  (hh:o.wp P a w K Q):o.wp P a w K' Q':=by
 unfold Oper.wp at *;generalize (execOp a.eval o).run P w=r at *;cases r with
 |ok n w'=>
  cases n<;>simp only [Oper.upon] at hh⊢<;>
   first
    |exact h _ _ hh
    |exact Calls.mono hh (λe w'' he=>by cases e<;>first|exact h _ _ he|exact hq _ _ _ aK he|exact hl he)
    |exact Rows.mono hh (λ_ _ he=>h _ _ he)
 |halt x w'=>cases x<;>simp only [Oper.upon] at hh⊢<;>first|exact hq _ _ _ aK hh|exact hh
def A3{P:Program}{ops:Array Oper}{Q Q1:Exit -> Act -> aV -> Prop}{l2:List Oper}(hn:∀a w,Q1 .normal a w -> wpList P ops Q l2 a w)(hq:∀e a w,e≠.normal -> Q1 e a w -> Q e a w):∀(l1:List Oper)(a:Act)(w:aV),wpList P ops Q1 l1 a w -> wpList P ops Q (l1++l2) a w
 |[],a,w,h=>hn a w h
 |o::l1,a,w,h=>by
  rw [eD];unfold wpList at h⊢;split at h
  ·rename_i hw;rw [if_pos hw];rcases h with h|⟨h1,a2,w2,h2⟩
   ·refine .inl ?_;have hK:∀a w,wpList P ops Q1 l1 a w -> wpList P ops Q (l1++l2) a w:=λa w=>A3 hn hq l1 a w;have hL:LetsOut Q1 -> LetsOut Q:=λ⟨a,w,h⟩=>⟨a,w,hq _ a w aK h⟩;exact Oper.wp_mono2 hK hq hL h
   exact .inr ⟨h1,a2,w2,hq _ _ _ aK h2⟩
  rename_i hw;rw [if_neg hw];exact A3 hn hq l1 _ _ h
class nw (N:Nat) (l:List Oper) (l1 l2:outParam (List Oper)):Prop where h:l=l1++l2
instance aBw{l:List Oper}:nw 0 l [] l:=⟨rfl⟩
instance aCA{N:Nat}{o:Oper}{l l1 l2:List Oper}[h:nw N l l1 l2]:nw (N+1) (o::l) (o::l1) l2:=⟨by rw [h.h];rfl⟩
instance ZI{N:Nat}{o:Oper}{l m l1 l2:List Oper}[h:nw (N+1) (o::List.append l m) l1 l2]:nw (N+1) (List.append (o::l) m) l1 l2:=⟨h.h⟩
instance aCz{N:Nat}{m l1 l2:List Oper}[h:nw N m l1 l2]:nw N (List.append [] m) l1 l2:=⟨h.h⟩
instance Z'{j t:Nat}{o:Oper}{l m:List Oper}[h:qT (o::List.append l m) j t]:qT (List.append (o::l) m) j t:=⟨h.h⟩
instance Xz{j t:Nat}{m:List Oper}[h:qT m j t]:qT (List.append [] m) j t:=⟨h.h⟩
instance Wy{P:Program}{ops:Array Oper}{o:Oper}{l m:List Oper}{st:AS}{Q:Exit -> AS -> Prop}{N:Nat}{g:Prop}[h:dY (N+1) (cL P ops (o::List.append l m) st Q) g]:dY (N+1) (cL P ops (List.append (o::l) m) st Q) g:=⟨h.out⟩
instance Yd{P:Program}{ops:Array Oper}{m:List Oper}{st:AS}{Q:Exit -> AS -> Prop}{N:Nat}{g:Prop}[h:dY (N+1) (cL P ops m st Q) g]:dY (N+1) (cL P ops (List.append [] m) st Q) g:=⟨h.out⟩
def TC{P:Program}{ops:Array Oper}{l l1 l2:List Oper}{st:AS}{Q:Exit -> AS -> Prop}(N:Nat)(st':AS)[hs:nw N l l1 l2](h1:cL P ops l1 st (λe s=>e=.normal /\ Sub s st'))(h2:cL P ops l2 st' Q):cL P ops l st Q:=by
 rw [hs.h];intro a w hS QQ hQ;refine A3 (Q1:=λe a' w'=>match e with|.normal=>∃s,Sub s st' /\ eS s a' w' /\ gj st w s w'|_=>False) ?_ ?_ l1 a w (h1 a w hS _ ?_)
 ·rintro a' w' ⟨s,hs1,hs2,hs3⟩;exact h2 a' w' (hs1 a' w' hs2).1 QQ λe a2 w2 s2 q k1 k2=>hQ e a2 w2 s2 q k1 ((hs3.trans (hs1.ext hs2)).trans k2)
 ·intro e a' w' he h;cases e with
  |normal=>exact absurd rfl he
  |_=>exact h.elim
 rintro e a' w' s ⟨rfl,h⟩ k1 k2;exact ⟨s,h,k1,k2⟩
def nV{P:Program}{ops:Array Oper}{l l1 l2:List Oper}{n:Nat}{T:List Nat}{s:aH}{ts:List (Nat×AT)}{Q:Exit -> AS -> Prop}(N:Nat)(ts':List (Nat×AT))[hs:nw N l l1 l2](h1:cL P ops l1 ⟨n,T,s,ts⟩ (λe s'=>e=.normal /\ Sub s' ⟨n,T,s,ts'⟩))(h2:cL P ops l2 ⟨n,T,s,ts'⟩ Q):cL P ops l ⟨n,T,s,ts⟩ Q:=TC N _ h1 h2
def m_{P:Program}{x y:Code}{n:Nat}{T:List Nat}{s:aH}{ts:List (Nat×AT)}{Q:Exit -> AS -> Prop}(ts':List (Nat×AT))(h1:bo P x ⟨n,T,s,ts⟩ (λe s'=>e=.normal /\ Sub s' ⟨n,T,s,ts'⟩))(h2:bo P y ⟨n,T,s,ts'⟩ Q):bo P (.seq x y) ⟨n,T,s,ts⟩ Q:=
 AG (qP h1 λe s ⟨he,hs⟩=>by subst he;exact A8 (rA hs h2))
end
section
open Go.RowKit
def MZ(x n:Int)(hn:0<n):-n<x.tmod n:=by
 by_cases hx:0 <= x
 ·have:=Int.tmod_nonneg n hx;omega
 have h1:=CZ (-x) hn;rw [Int.neg_tmod] at h1;omega
def Qm(x n:Int)(hn:0<n):(x.tmod n+n).tmod n=x%n:=by
 have h1:=CZ x hn;have h2:=MZ x n hn;rw [Int.tmod_eq_emod_of_nonneg Y,Int.add_emod_right];rw [Int.tmod_def];rw [show x-n*x.tdiv n=x+n*(-(x.tdiv n)) by rw [Int.mul_neg];omega,Int.add_mul_emod_self_left]
def Te(x n:Int)(w:aV)(hn:0<n)(hn2:n <= 4611686018427387904):
  Calls prog 16 #[.int .i64 x,.int .i64 n] w λe w'=>e=.returned (.int .i64 (x%n)) /\ w=w':=by
 have h1:=CZ x hn;have h2:=MZ x n hn;have h3:=Qm x n hn;have h4:0 <= x%n:=Int.emod_nonneg x Y;have h5:x%n<n:=Int.emod_lt_of_pos x hn;have hw1:IntKind.i64.wrap (x.tmod n)=x.tmod n:=IntWalk.i64_in _ Y;have hw2:IntKind.i64.wrap (x.tmod n+n)=x.tmod n+n:=IntWalk.i64_in _ Y;have hw3:IntKind.i64.wrap (x%n)=x%n:=IntWalk.i64_in _ Y
 go_enter func16,Tryz.ntmps16
 go_wp2
 go_ret
 exact ⟨jt (by simp [h3]),J⟩
def OE(x n:Int)(hn:0<n)(hn2:n <= 4611686018427387904)(s:aH):aR prog 16 [bB x,bB n] [] s λr s'=>r=bB (x%n) /\ s'=s:=
 GI rfl rfl (us:=[.int .i64 x,.int .i64 n]) (λw=>Te x n w hn hn2) s
def MJ{p:Prop}[Decidable p](h:p):some (decide p)=some true:=by rw [decide_eq_true h]
def Kc{p:Prop}[Decidable p](h:¬p):some (decide p)=some false:=by rw [decide_eq_false h]
end
section
def eE:Nat -> List ByteArray
 |0=>[⟨#[124,124]⟩]
 |1=>[⟨#[38,38]⟩]
 |2=>[⟨#[61,61]⟩,⟨#[33,61]⟩,⟨#[60]⟩,⟨#[60,61]⟩,⟨#[62]⟩,⟨#[62,61]⟩]
 |3=>[⟨#[43]⟩,⟨#[45]⟩]
 |_=>[⟨#[42]⟩,⟨#[47]⟩,⟨#[37]⟩]
def dj:Nat -> List Int
 |0=>[17]
 |1=>[16]
 |2=>[14,15,10,11,12,13]
 |3=>[8,9]
 |_=>[5,6,7]
def BP(k:Nat):(dj k).length=(eE k).length /\ 1 <= (eE k).length /\ (eE k).length <= 6:=by
 rcases k with _|_|_|_|k<;>simp [dj,eE]
def T6(k:Nat)(hk:k<5):∀j (h:j<(eE k).length),ee (eE k)[j]=false:=by
 rcases (show k=0∨k=1∨k=2∨k=3∨k=4 by omega) with rfl|rfl|rfl|rfl|rfl<;>decide
def MY(k:Nat)(hk:k<5):∀j (h:j<(eE k).length) (h':j<(dj k).length),(((binOp (eE k)[j]).1:Int)=(dj k)[j]) /\ (binOp (eE k)[j]).2=k+1:=by
 rcases (show k=0∨k=1∨k=2∨k=3∨k=4 by omega) with rfl|rfl|rfl|rfl|rfl<;>decide
def Tq(k:Nat)(hk:k<5)(s:aG)(h:(binOp s).2=k+1):s∈eE k:=by
 by_cases ha:s=bytes [124,124]∨s=bytes [38,38]∨s=bytes [61,61]∨s=bytes [33,61]∨s=bytes [60]∨s=bytes [60,61]∨s=bytes [62]∨s=bytes [62,61]∨s=bytes [43]∨s=bytes [45]∨s=bytes [42]∨s=bytes [47]∨s=bytes [37]
 ·rcases (show k=0∨k=1∨k=2∨k=3∨k=4 by omega) with rfl|rfl|rfl|rfl|rfl<;>rcases ha with rfl|rfl|rfl|rfl|rfl|rfl|rfl|rfl|rfl|rfl|rfl|rfl|rfl<;>first|(exfalso;revert h;decide)|simp [eE,bytes]
 exfalso;simp only [not_or] at ha;obtain ⟨a1,a2,a3,a4,a5,a6,a7,a8,a9,b1,b2,b3,b4⟩:=ha;rw [binOp,if_neg a1,if_neg a2,if_neg a3,if_neg a4,if_neg a5,if_neg a6,if_neg a7,if_neg a8,if_neg a9,if_neg b1,if_neg b2,if_neg b3,if_neg b4] at h;simp at h
end
section
open Go.RowKit
def DW(k:Nat):cp k=(if k/10=0 then [] else cp (k/10))++[UInt8.ofNat (48+k%10)]:=by
 conv=>lhs;rw [cp]
 by_cases h:k<10
 ·rw [if_pos h,if_pos Y,show k%10=k by omega];rfl
 rw [if_neg h,if_neg Y]
def U2(m:Nat):∀n,n<10 ^ m -> 0<m -> (cp n).length <= m:=by
 induction m with
 |zero=>intro n _ h;omega
 |succ m ih=>
  intro n hn _;rw [DW];by_cases h:n/10=0
  ·rw [if_pos h];simp
  rw [if_neg h,length_append];have h1:n/10<10 ^ m:=by rw [xR] at hn;omega
  have hm:0<m:=by
   rcases ud m with rfl|h2
   ·simp at h1;omega
   exact h2
  have:=ih (n/10) h1 hm;simp;omega
def wI(n:Nat)(hn:n<18446744073709551616):(cp n).length <= 20:=
 U2 20 n (Nat.lt_trans hn V) Y
def M2(w:aV)(c:UInt8):(convert 58 9 (.slice (some ⟨w.heap.size,0,none⟩) 1 1)).run prog (w.alloc (.cells #[.int .u8 c.toNat] 5))=.ok (.string (bytes [c])) (w.alloc (.cells #[.int .u8 c.toNat] 5)):=
 C4 [c] (some ⟨w.heap.size,0,none⟩) 1 _ (.inr ⟨w.heap.size,0,rfl,λj u hu=>by
  have:=ym w (dI [c]) 5 j u hu;have e:(⟨w.heap.size,0,none⟩:Addr).add j=⟨w.heap.size,0+j,none⟩:=xp;rw [e] at this;exact this⟩)
def bytes_append(a b:List UInt8):bytes a++bytes b=bytes (a++b):=xX qN
def EM(a:List UInt8):(bytes a).size=a.length:=ri
def Q5(n:Nat)(w:World)(u v:Value)(wr:World):Prop:=∃(k:Nat) (t:List UInt8),u=.int .u64 k /\ v=.string (bytes t) /\ cp n=(if k=0 then [] else cp k)++t /\ k <= n /\ Below w.heap.size w wr
def RI(n:Nat)(w:aV)(hn:n<18446744073709551616):
  Calls prog 134 #[.int .u64 n] w λe w'=>e=.returned (.string (bytes (cp n))) /\ Below w.heap.size w w':=by
 have hst:=DW n;have hl20:=wI n hn;obtain ⟨c,hcd⟩:∃c,c=UInt8.ofNat (48+n%10):=⟨_,rfl⟩;have hc:(c.toNat:Int)=48+(n:Int)%10:=by rw [hcd,UInt8.toNat_ofNat'];omega
 rw [←hcd] at hst;have hcv:=M2 w c;rw [hc] at hcv;have hb0:(n:Int) <= 18446744073709551615:=Y;have HL:=Lib.hid hl20;have HST:=Lib.hid hst;clear hc hcd hst hl20 hn
 go_enter func134,Tryz.ntmps134
 go_wp2_with fail
 go_loopw [0,3] (λu v wr=>Q5 n w u v wr) (λu _ _=>(intOf u).toNat)
 case atStart=>exact ⟨n/10,[c],j0,rfl,HST.out,Y,eG⟩
 case round=>
  obtain ⟨k,t,rfl,rfl,hd,hkn,hb⟩:=hrel;have hsz:=hb.size;have htl:t.length <= 20:=by
   have:=congrArg List.length hd;rw [length_append] at this;have:=HL.out;omega
  have HD:=Lib.hid hd;clear hd hcv;by_cases hk:0<k
  ·have g1:(0:Int)<k:=Y;obtain ⟨d,hdd⟩:∃d,d=UInt8.ofNat (48+k%10):=⟨_,rfl⟩;have hdn:(d.toNat:Int)=48+(k:Int)%10:=by rw [hdd,UInt8.toNat_ofNat'];omega
   have hcv:=M2 wr d;rw [hdn] at hcv;have hadd:∀W:aV,(Op.stringOp .add (bytes [d]) (bytes t)).run prog W=.ok (.string (bytes (d::t))) W:=λW=>by
    rw [run_string_add_sum (P:=prog) (w:=W) _ _ (by rw [EM,EM];simp;omega),bytes_append];rfl
   have HDD:=Lib.hid hdd;have hkb:(k:Int) <= 18446744073709551615:=Y;clear hdn hdd
   go_wp2_with fail
   go_roundw
   case rel=>
    refine ⟨k/10,d::t,j0,J,?_,Y,eG⟩;have h1:=HD.out;rw [if_neg Y,DW k,←HDD.out] at h1;rw [h1];simp
   case measure=>simp [intOf];omega
  have g1:(k:Int) <= 0:=Y;have HK:=Lib.hid (show k=0 by omega);clear hk
  go_wp2_with fail
  go_ret
  refine ⟨?_,hb⟩;have h1:=HD.out;rw [if_pos HK.out] at h1;rw [h1];rfl
def Ur(z:Int)(n:Nat)(w:aV)(hz:z=n)(hn:n<18446744073709551616):
  Calls prog 134 #[.int .u64 z] w λe w'=>e=.returned (.string (bytes (cp n))) /\ Below w.heap.size w w':=by
 subst hz;exact RI n w hn
def Oy(n:Int)(w:aV)(h1:-9223372036854775808 <= n)(h2:n <= 9223372036854775807):
  Calls prog 100 #[.int .i64 n] w λe w'=>e=.returned (.string (bytes (eM n))) /\ Below w.heap.size w w':=by
 obtain ⟨m,hm⟩:∃m,m=n.natAbs:=⟨_,rfl⟩;have hml:m<18446744073709551616:=Y;have hl:=wI m hml;have hadd:∀W:aV,(Op.stringOp .add ⟨#[45]⟩ (bytes (cp m))).run prog W=.ok (.string (bytes (45::cp m))) W:=λW=>by
  rw [run_string_add_sum (P:=prog) (w:=W) _ _ (by rw [EM,show (⟨#[45]⟩:aG).size=1 from rfl];omega)];exact congrArg (λx=>Result.ok (Value.string x) W) (bytes_append [45] (cp m))
 have HM:=Lib.hid hm;have HML:=Lib.hid hml;clear hm hl hml;by_cases hn:n<0;focus
  have hnl:eM n=45::cp m:=by unfold eM;rw [if_pos hn,HM.out]
 rotate_left;have hnl:eM n=cp m:=by unfold eM;rw [if_neg hn,HM.out]
 all_goals
  have HN:=Lib.hid hnl;clear hnl
  go_enter func100,Tryz.ntmps100
  go_wp2_with (go_at_call 134;((with_reducible refine (Ur _ m _ (by have:=HM.out;omega) HML.out).mono ?_);rintro e w1 ⟨rfl,hb⟩))
  go_ret
  exact ⟨by rw [HN.out];rfl,hb⟩
def Pz{w:aV}{v:aM}{n:Nat}{cells:List aM}(h:dr w v n cells)(o:Obj):dr (w.alloc o) v n cells:=h.below ((Below.refl w.heap.size w).alloc (bW _) o) (bW _)
def Vi(k:Nat)(w:aV)(hk:k<5):
  Calls prog 140 #[.int .i64 k] w λe w'=>(∃v u,e=.returned (.tuple #[v,u]) /\ dr w' v (eE k).length ((eE k).map .string) /\ dr w' u (dj k).length ((dj k).map (.int .i64))) /\ Below w.heap.size w w':=by
 have hcases:k=0∨k=1∨k=2∨k=3∨k=4:=Y;rcases hcases with rfl|rfl|rfl|rfl|rfl;all_goals
  go_enter func140,Tryz.ntmps140
  go_wp2_with fail
  go_ret2
  exact ⟨⟨_,_,J,Pz (dr.new w _ 9 _) _,dr.new_at _ _ 3 _ _ aK⟩,eG⟩
def Ni(k:Nat)(hk:k<5)(op:Int)(h:op∈dj k):cw op=k:=by
 have hcases:k=0∨k=1∨k=2∨k=3∨k=4:=Y;rcases hcases with rfl|rfl|rfl|rfl|rfl<;>simp only [dj,mem_cons,not_mem_nil,or_false] at h
 ·subst h;rfl
 ·subst h;rfl
 ·rcases h with rfl|rfl|rfl|rfl|rfl|rfl<;>rfl
 ·rcases h with rfl|rfl<;>rfl
 rcases h with rfl|rfl|rfl<;>rfl
def Ux(op:Int)(h:∀k,k<5 -> op∉dj k):(op=3∨op=4 -> cw op=5) /\ (¬(op=3∨op=4) -> cw op=6):=by
 have h0:=h 0 Y;have h1:=h 1 Y;have h2:=h 2 Y;have h3:=h 3 Y;have h4:=h 4 Y;simp only [dj,mem_cons,not_mem_nil,or_false,not_or] at h0 h1 h2 h3 h4;unfold cw;rw [if_neg h0,if_neg h1,if_neg Y,if_neg Y,if_neg Y];exact ⟨λh=>if_pos h,λh=>if_neg h⟩
def S7(op:Int)(w:World)(v:Value)(wr:World):Prop:=∃k:Nat,v=.int .i64 k /\ k <= 5 /\ (∀j,j<k -> op∉dj j) /\ Below w.heap.size w wr
def VC(op:Int)(k:Nat)(v:Value):Prop:=∃i:Nat,v=.int .i64 i /\ i <= (dj k).length /\ op∉(dj k).take i
def Vt(op:Int)(w:aV):
  Calls prog 158 #[.int .i64 op] w λe w'=>e=.returned (.int .i64 (cw op)) /\ Below w.heap.size w w':=by
 go_enter func158,Tryz.ntmps158
 go_wp2_with fail
 go_loopw [3] (λv wr=>S7 op w v wr) (λv _=>5-(intOf v).toNat)
 case atStart=>exact ⟨0,rfl,Y,λj h=>absurd h Y,Below.refl _ _⟩
 case round=>
  obtain ⟨k,rfl,hk,hno,hb⟩:=hrel;have HNO:=Lib.hid hno;clear hno;have hsz:=hb.size;by_cases hlt:k<5
  ·have g1:(k:Int)<5:=Y
   go_wp2_with (go_at_call 140;((with_reducible refine (Vi k _ hlt).mono ?_);rintro e w1 ⟨⟨v,u,rfl,hv,hu⟩,hb1⟩;clear hv;obtain ⟨a,c,rfl,hc,hr⟩:=hu;have HR:=Lib.hid hr;clear hr))
   go_hide hQ
   go_loop [6] (λv=>VC op k v) (λv=>(dj k).length-(intOf v).toNat)
   case atStart=>exact ⟨0,rfl,Y,aK⟩
   case round=>
    obtain ⟨i,rfl,hi,hni⟩:=hrel;have HNI:=Lib.hid hni;clear hni;have hll:(dj k).length <= 6:=by
     have hcases:k=0∨k=1∨k=2∨k=3∨k=4:=Y;rcases hcases with rfl|rfl|rfl|rfl|rfl<;>decide
    by_cases hil:i<(dj k).length
    ·rcases HR.out with h0|⟨b,off,rfl,hr⟩
     ·exfalso;have:=congrArg List.length h0;simp at this;rw [this] at hil;simp at hil
     have hcell:=hr i (.int .i64 (dj k)[i]) (by simp [hil]);clear hr;by_cases he:(dj k)[i]=op
     ·have q:=Ni k hlt op (he▸getElem_mem hil);have hq:((dj k)[i] == op)=true:=by rw [he];simp
      have Q:=Lib.hid q;clear q he
      go_wp2_with fail
      subst hQ
      go_wp2_with fail
      go_ret
      exact ⟨jt (by rw [Q.out]),hb.trans (hb1.mono hsz)⟩
     have hq:((dj k)[i] == op)=false:=so;have HE:=Lib.hid he;clear he
     go_wp2_with fail
     go_round
     case rel=>exact ⟨i+1,j0,Y,by rw [ga hil];simp only [mem_append,jw,not_or];exact ⟨HNI.out,λh=>HE.out h.symm⟩⟩
     case measure=>simp [intOf];omega
    have hnot:op∉dj k:=by have h:=HNI.out;rw [take_of_length_le Y] at h;exact h
    have hno2:∀j,j<k+1 -> op∉dj j:=by
     intro j hj;rcases iQ j k with h|h
     ·exact HNO.out j h
     obtain rfl:j=k:=Y;exact hnot
    have HN2:=Lib.hid hno2;clear hnot hno2
    go_wp2_with fail
    subst hQ
    go_wp2_with fail
    go_roundw
    case rel=>exact ⟨k+1,j0,Y,HN2.out,hb.trans (hb1.mono hsz)⟩
    case measure=>simp [intOf];omega
  have hout:=Ux op (λj hj=>HNO.out j Y);have HO:=Lib.hid hout;clear hout;by_cases h3:op=3∨op=4
  ·have hs:=HO.out.1 h3;have HS:=Lib.hid hs;clear hs;rcases h3 with rfl|rfl;all_goals
    go_wp2_with fail
    go_ret
    exact ⟨jt (by rw [HS.out];rfl),hb⟩
  have hs:=HO.out.2 h3;have HS:=Lib.hid hs;have q3:(op == 3)=false:=by rw [beq_eq_false_iff_ne];exact λh=>h3 (.inl h)
  have q4:(op == 4)=false:=by rw [beq_eq_false_iff_ne];exact λh=>h3 (.inr h)
  clear hs h3
  go_wp2_with fail
  go_ret
  exact ⟨jt (by rw [HS.out];rfl),hb⟩
def DR{P:Program}{F:FuncId}{ts:List AT}{us:List aM}{u:aM}(h1:u.oneCell'=true)(hts:ts=us.map λu=>au u)(h:∀w,Calls P F us.toArray w λe w'=>e=.returned u /\ Below w.heap.size w w')(s:aH):aR P F ts [] s λr s'=>r=au u /\ s'=s:=by
 intro vs w hm _ hl hr;subst hts;obtain rfl:vs=us:=by
  refine lw sF λi h1 h2=>?_;have h3:=hr i mR h1;simp only [nK] at h3;exact h3.val
 exact (h w).mono λe w' ⟨h2,h3⟩=>by
  obtain ⟨hk,hm'⟩:=y2 hm h3;exact ⟨_,_,s,h2,⟨J,J⟩,.c _ _ (.val _ h1),hm',hk,λb hb=>.inl hb⟩
def H_{P:Program}{U:List Nat}{o:Oper}{st:AS}{E yt:bA}{x y:bc}{m k:Nat}(r:Nat)(ho:o.op=.binOp .rem E x y yt)(hx:ay st x=some (aX m))(hy:ay st y=some (aX k))(hk:k≠0)(hr:m%k=r):cf P U o st (aX r):=by
 subst hr;exact A7 ho hx hy Y J
def lR(i:Nat)(c:UInt8):Bool:=fR c||(decide (i≠0) && dJ c)
def Pw(s:aG)(h:∀j (hj:j<s.size),lR j s[j]=true):br s=(decide (1 <= s.size) && decide (s.size <= 16) && !ee s):=by
 unfold br;have hl:s.size=s.data.toList.length:=J;have hall:∀j (hj:j<s.data.toList.length),lR j s.data.toList[j]=true:=λj hj=>h j (by rw [hl];exact hj);rw [hl];cases hd:s.data.toList with
 |nil=>simp
 |cons c r=>
  rw [hd] at hall;have h0:=hall 0 aK;have hr:r.all cv=true:=by
   rw [d3];intro x hx;obtain ⟨i,hi,rfl⟩:=jQ hx;have:=hall (i+1) oJ;simpa [lR,cv] using this
  have h1:fR c=true:=by simpa [lR] using h0
  simp only [h1,hr,xH,length_cons];rw [show decide (1 <= r.length+1)=true by simp,xH]
def VQ(s:aG)(k:Nat)(hk:k<s.size)(h:lR k s[k]=false):br s=false:=by
 unfold br;have hk':k<s.data.toList.length:=hk;have h':lR k s.data.toList[k]=false:=h;cases hd:s.data.toList with
 |nil=>rfl
 |cons c r=>
  simp only [hd] at h' hk';cases k with
  |zero=>
   have:fR c=false:=by simpa [lR] using h'
   simp [this]
  |succ k=>
   have hkr:k<r.length:=by simpa using hk'
   have hx:cv r[k]=false:=by simpa [lR,cv] using h'
   have:r.all cv=false:=by
    rw [List.all_eq_false];exact ⟨r[k],getElem_mem _,vx⟩
   simp [this]
def VA(s:ByteArray)(v:Value):Prop:=∃k:Nat,v=.int .i64 k /\ k <= s.size /\ ∀j (hj:j<s.size),j<k -> lR j s[j]=true
def NE(s:aG)(w:aV)(hs:s.size <= 4611686018427387904):
  Calls prog 72 #[.string s] w λe w'=>e=.returned (.bool (br s)) /\ Below w.heap.size w w':=by
 go_enter func72,Tryz.ntmps72
 go_wp2_with fail
 go_loop [3] (λv=>VA s v) (λv=>s.size-(intOf v).toNat)
 case atStart=>exact ⟨0,rfl,Y,λj _ h=>absurd h Y⟩
 case round=>
  obtain ⟨k,rfl,hk,hall⟩:=hrel;have HA:=Lib.hid hall;clear hall;by_cases hlt:k<s.size
  ·cases hc:lR k s[k] with
   |true=>
    have hall2:∀j (hj:j<s.size),j<k+1 -> lR j s[j]=true:=by
     intro j hj h;rcases iQ j k with h1|h1
     ·exact HA.out j hj h1
     obtain rfl:j=k:=Y;exact hc
    have HA2:=Lib.hid hall2;have HC:=Lib.hid hc;clear hall2 hc
    go_wp2_with (first|(go_at_call 81;((with_reducible refine (lq _ _).mono ?_);rintro e w' ⟨rfl,rfl⟩))|(go_at_call 82;((with_reducible refine (mX _ _).mono ?_);rintro e w' ⟨rfl,rfl⟩)))
    all_goals first
     |(go_round;(case rel=>exact ⟨k+1,j0,Y,HA2.out⟩);(case measure=>simp [intOf];omega))
     |(exfalso;have h:=HC.out;simp [lR] at h;simp_all;done)
     |(exfalso;have h:=HC.out;simp [lR] at h;simp_all;omega)
   |false=>
    have hb:=VQ s k hlt hc;have HB:=Lib.hid hb;have HC:=Lib.hid hc;clear hb hc
    go_wp2_with (first|(go_at_call 81;((with_reducible refine (lq _ _).mono ?_);rintro e w' ⟨rfl,rfl⟩))|(go_at_call 82;((with_reducible refine (mX _ _).mono ?_);rintro e w' ⟨rfl,rfl⟩)))
    all_goals first
     |(go_ret;exact ⟨by rw [HB.out];rfl,Below.refl _ _⟩)
     |(exfalso;have h:=HC.out;simp [lR] at h;simp_all;done)
     |(exfalso;have h:=HC.out;simp [lR] at h;simp_all;omega)
  ·have hnm:=Pw s (λj hj=>HA.out j hj Y);have HN:=Lib.hid hnm;clear hnm
   go_wp2_with (go_at_call 83;((with_reducible refine (Er _ _).mono ?_);rintro e w1 ⟨rfl,hb⟩))
   all_goals
    go_ret
    refine ⟨ox ?_,by first|exact hb|exact Below.refl _ _⟩;rw [HN.out];simp_all
    try omega
end
section
mutual
def aP.nodes:aP -> Nat
 |.mk _ _ _ args=>1+dD args
def dD:List aP -> Nat
 |[]=>0
 |e::es=>1+e.nodes+dD es
end
def oG:∀(l:List aP)(k:Nat)(h:k<l.length),l[k].nodes<dD l
 |[],k,h=>pk
 |e::es,0,h=>by rw [dD];simp;omega
 |e::es,k+1,h=>by have:=oG es k iW;rw [dD];simp;omega
def tO:∀(l:List aP),l.length <= dD l
 |[]=>aK
 |e::es=>by have:=tO es;rw [dD];simp;omega
end
section
open Go.RowKit
def r9(x:aG)(h:x.size <= 4611686018427387904)(s:aH):aR prog 72 [cB x] [] s λr s'=>r=ap (br x) /\ s'=s:=
 DR (us:=[.string x]) rfl rfl (λw=>NE x w h) s
def wv(op:Int)(s:aH):aR prog 158 [bB op] [] s λr s'=>r=bB ((cw op:Nat):Int) /\ s'=s:=
 DR (us:=[.int .i64 op]) rfl rfl (λw=>Vt op w) s
def K4(e:aP)(k:Nat)(hk:k<e.args.length)(s:aH):aR prog 159 [.agg (bb e),aX k] [] s λt s'=>t=ap (gX e.op k e.args[k].op) /\ s'=s:=by
 obtain ⟨bx,rw⟩:=s;refine bN 29 func159 ?_;refine go 7 λb1=>?_;refine b_ [b1] (aY [0,1,2] 9 (go 4 ?_));refine ab 3 J (bS bR bb e.args fw ei k J J J J Y V runUnderlying85 sizeOf87) (aY [4,5,7,8] 4 (go 5 ?_));refine an 6 J J (fX J J V call158 J (wv (e.args[k].op) _) ?_);rintro _ _ ⟨rfl,rfl⟩;refine an 9 J J (fX J J V call158 J (wv e.op _) ?_);rintro _ _ ⟨rfl,rfl⟩;refine aY [10,11] 0 (go 3 ?_);refine bG (go 5 ?_);by_cases h3:((cw (e.args[k].op):Nat):Int)<((cw e.op:Nat):Int);focus
  refine aC true J (ck h3) (go 13 ?_)
 rotate_left;focus
  refine aC false J (cg h3) (go 3 ?_);by_cases h4:((cw (e.args[k].op):Nat):Int)=((cw e.op:Nat):Int);focus
   refine aC true J (bg h4) (go 2 ?_);by_cases h5:((k:Nat):Int)=1;focus
    refine aC true J (bg h5) (go 6 ?_)
   rotate_left;refine aC false J (bZ h5) (go 6 ?_)
  rotate_left 2;refine aC false J (bZ h4) (go 9 ?_)
 all_goals
  exact aw (s':=⟨bx,rw⟩) J cM ⟨bU IK,J⟩
def KC(b:Int):∀(l:List aP)(j:Nat)(x:aP),iS b j (l++[x])=max (iS b j l) (gS x+if gX b (j+l.length) x.op then 1 else 0)
 |[],j,x=>by simp [iS]
 |y::l,j,x=>by
  rw [eD,iS,KC b l (j+1) x,iS,Nat.max_assoc];have:j+1+l.length=j+(y::l).length:=di;rw [this]
def Al(b:Int)(l:List aP)(k:Nat)(h:k<l.length):iS b 0 (l.take (k+1))=max (iS b 0 (l.take k)) (gS l[k]+if gX b k l[k].op then 1 else 0):=by
 rw [ga h,KC,j8,rT Y,e0]
def zR(N:Nat):∀(e:aP),e.nodes <= N -> gS e+1 <= 2*e.nodes:=by
 induction N with
 |zero=>intro e h;cases e;rw [aP.nodes] at h;omega
 |succ N ih=>
  rintro ⟨op,num,name,args⟩ h;rw [aP.nodes] at h;have key:∀(l:List aP)(k:Nat),dD l <= N -> iS op k l <= 2*dD l:=by
   intro l;induction l with
   |nil=>intro k _;rw [iS];omega
   |cons e es ih2=>
    intro k hl;rw [dD] at hl⊢;rw [iS];have h1:=ih e Y;have h2:=ih2 (k+1) Y;split<;>omega
  have:=key args 0 Y;rw [gS,aP.nodes];split<;>omega
def BW(e:aP)(k:Nat)(h:k<e.args.length):e.args[k].nodes<e.nodes:=by
 cases e with
 |mk op num name args=>have:=oG args k h;rw [aP.nodes];show args[k].nodes<_;omega
def qc(e:aP):e.args.length<e.nodes:=by
 cases e with
 |mk op num name args=>have:=tO args;rw [aP.nodes];show args.length<_;omega
def xl(e:aP):gS e=iS e.op 0 e.args+if cw e.op=5 then 1 else 0:=by cases e;rw [gS];rfl
def Se(e:aP)(hN:e.nodes <= 1000000000)(ih:∀k (h:k<e.args.length) (s:aH),aR prog 133 [.agg (bb e.args[k])] [] s λr s'=>r=bB ((gS e.args[k]:Nat):Int) /\ s'=s)(s:aH):aR prog 133 [.agg (bb e)] [] s λt s'=>t=bB ((gS e:Nat):Int) /\ s'=s:=by
 obtain ⟨bx,rw⟩:=s;have hlen:=qc e;refine bN 34 func133 ?_;refine go 18 λb1=>?_;refine lc (e.args.length) 4 (λk=>[(3,bB ((iS e.op 0 (e.args.take (k)):Nat):Int)),(1,aE b1)]) (ao J) λk hk=>?_;show bo prog _ ⟨34,_,_,(4,aX k)::[(3,bB ((iS e.op 0 (e.args.take (k)):Nat):Int)),(1,aE b1)]⟩ _;refine go 7 ?_;by_cases h1:((k:Nat):Int)<((e.args.length:Nat):Int)
 ·refine aC true J (ck h1) (go 12 ?_);refine aF J (bS bR bb e.args fw ei k J J J J Y V runUnderlying85 sizeOf87) (go 1 ?_);refine cy J call133 J (ih k Y _) ?_;rintro _ _ ⟨rfl,rfl⟩;refine go 6 ?_;have hle:=zR _ e.args[k] (bW _);have hnk:=BW e k Y;refine go 2 ?_;refine cy J call159 J (K4 e k Y _) ?_;rintro _ _ ⟨hr4,rfl⟩;rcases bq (gX e.op k e.args[k].op) with h5|h5;focus
   rw [h5] at hr4;subst hr4;refine go 5 ?_;refine bJ J (go 6 ?_)
  rotate_left;rw [h5] at hr4;subst hr4;refine go 8 ?_;all_goals
   have hmx:=Al e.op e.args k Y;refine aF J (KU _ J J J J) (go 6 ?_);refine bJ J (go 2 ?_);exact ⟨Y,(av J (bv Y) (av J (bv (by rw [Al _ _ _ Y,h5];simp only [if_true,lK,if_false];omega)) (ao J)))⟩
 refine aC false J (cg h1) (go 11 ?_);have hle0:=zR _ e (bW _);have hq:=xl e;obtain rfl:k=e.args.length:=Y;rw [take_of_length_le (bW _)];refine go 2 ?_;refine cy J call158 J (wv e.op _) ?_;rintro _ _ ⟨rfl,rfl⟩;by_cases h10:((cw e.op:Nat):Int)=5
 ·refine aC true J (bg h10) (go 5 ?_);refine bJ J (go 10 ?_);exact aw (s':=⟨bx,rw⟩) J cM ⟨fI KE,J⟩
 refine aC false J (bZ h10) (go 12 ?_);exact aw (s':=⟨bx,rw⟩) J cM ⟨fI Jg,J⟩
def IA:∀(N:Nat)(e:aP),e.nodes <= N -> N <= 1000000000 -> ∀s:aH,aR prog 133 [.agg (bb e)] [] s λr s'=>r=bB ((gS e:Nat):Int) /\ s'=s
 |0,e,h,_=>pd
 |N+1,e,h,hN=>Se e Y λk hk s=>IA N e.args[k] pH Y s
def pF(e:aP):dc e=((if cw e.op=6 then kP e.op e.num e.name else decide (e.num=0) && decide (e.name=ax)) && decide (e.args.length=arity e.op) && eu e.args):=by cases e;rw [dc];rfl
def D6:∀(l:List aP)(k:Nat)(h:k<l.length),eu (l.take (k+1))=(eu (l.take k) && dc l[k])
 |e::es,0,_=>by simp [eu]
 |e::es,k+1,h=>by
  rw [jI,jI,eu,eu,D6 es k iW,Bool.and_assoc]
  rfl
def vL:∀(l:List aP)(k:Nat)(h:k<l.length),dc l[k]=false -> eu l=false
 |e::es,0,_,hs=>by rw [eu];simp only [EB] at hs;rw [hs];rfl
 |e::es,k+1,h,hs=>by rw [eu,vL es k iW (by simpa using hs),pQ]
def TK(e:aP)(hsz:e.name.size <= 4611686018427387904)(hN:e.nodes <= 1000000000)(ih:∀k (h:k<e.args.length) (s:aH),aR prog 132 [.agg (bb e.args[k])] [] s λr s'=>r=ap (dc e.args[k]) /\ s'=s)(s:aH):aR prog 132 [.agg (bb e)] [] s λt s'=>t=ap (dc e) /\ s'=s:=by
 obtain ⟨bx,rw⟩:=s;have hlen:=qc e;refine bN 77 func132 ?_;refine go 16 λb1=>?_;refine cy J call158 J (wv e.op _) ?_;rintro _ _ ⟨rfl,rfl⟩;refine go 5 ?_;by_cases h2:((cw e.op:Nat):Int)=6;focus
  refine aC true J (bg h2) (go 10 ?_);refine b_ [b1] (aY [0,1] 26 (go 3 ?_));by_cases h4:e.op=1;focus
   refine ab 2 J (ej true J J J (bg h4)) (aY [3,4,5] 22 (go 4 ?_));by_cases h5:(0:Int) <= e.num;focus
    refine ab 6 J (ej true J J J (mH h5)) (aY [7,8,9,10] 17 (go 5 ?_));by_cases h6:e.name=ax;focus
     refine ab 11 J (eo true J J J (nA h6)) (aY [12,13,14] 13 (go 4 ?_));refine ab 15 J (ej false J J J (bZ Y)) (aY [16,17,18,19,20,21,22,23,24,25,26,27] 0 (go 13 ?_));refine bG (go 22 ?_);by_cases h8:((e.args.length:Nat):Int)=0
     ·refine aC false J (dv h8) (go 2 ?_);refine aC false J ge (go 23 ?_);refine jO (λk=>eu (e.args.take k)=true) (e.args.length) 6 (λk=>[(1,aE b1),(3,bB 0)]) J (ao J) λk hk hvk=>?_;replace hvk:eu (e.args.take k)=true:=hvk
      try dsimp only
      refine go 5 ?_;refine aC false J (cg Y) (go 14 ?_);exact aw (s':=⟨bx,rw⟩) J cM ⟨bU xt,J⟩
     refine aC true J (fe h8) (go 24 ?_)
    rotate_left;refine ab 11 J (eo false J J J (m9 h6)) (aY [12,13,14] 13 (go 4 ?_));refine ab 15 J (ej false J J J (bZ Y)) (aY [16,17,18,19,20,21,22,23,24,25,26,27] 0 (go 13 ?_));refine bG (go 20 ?_)
   rotate_left 2;refine ab 6 J (ej false J J J (nP h5)) (aY [7,8,9,10,11,12,13,14] 13 (go 9 ?_));refine ab 15 J (ej false J J J (bZ Y)) (aY [16,17,18,19,20,21,22,23,24,25,26,27] 0 (go 13 ?_));refine bG (go 20 ?_)
  rotate_left 3;focus
   refine ab 2 J (ej false J J J (bZ h4)) (aY [3,4,5,6,7,8,9,10,11,12,13,14] 13 (go 13 ?_));by_cases h14:e.op=2;focus
    refine ab 15 J (ej true J J J (bg h14)) (aY [16,17,18] 9 (go 4 ?_));by_cases h15:e.num=0;focus
     refine ab 19 J (ej true J J J (bg h15)) (aY [20,21,22,23] 4 (go 5 ?_));refine an 24 J J (fX J J V call72 J (r9 e.name (by first|assumption|exact hsz) _) ?_);rintro _ _ ⟨hr16,rfl⟩;rcases bq (br e.name) with h17|h17;focus
      rw [h17] at hr16;subst hr16;refine aY [25,26,27] 0 (go 4 ?_);refine bG (go 22 ?_);by_cases h19:((e.args.length:Nat):Int)=0
      ·refine aC false J (dv h19) (go 2 ?_);refine aC false J ge (go 23 ?_);refine jO (λk=>eu (e.args.take k)=true) (e.args.length) 6 (λk=>[(1,aE b1),(3,bB 0)]) J (ao J) λk hk hvk=>?_;replace hvk:eu (e.args.take k)=true:=hvk
       try dsimp only
       refine go 5 ?_;refine aC false J (cg Y) (go 14 ?_);exact aw (s':=⟨bx,rw⟩) J cM ⟨bU xt,J⟩
      refine aC true J (fe h19) (go 24 ?_)
     rotate_left;rw [h17] at hr16;subst hr16;refine aY [25,26,27] 0 (go 4 ?_);refine bG (go 20 ?_)
    rotate_left 2;refine ab 19 J (ej false J J J (bZ h15)) (aY [20,21,22,23,24,25,26,27] 0 (go 9 ?_));refine bG (go 20 ?_)
   rotate_left 3;refine ab 15 J (ej false J J J (bZ h14)) (aY [16,17,18,19,20,21,22,23,24,25,26,27] 0 (go 13 ?_));refine bG (go 20 ?_)
 rotate_left 7;focus
  refine aC false J (bZ h2) (go 6 ?_);by_cases h27:((cw e.op:Nat):Int)=5;focus
   refine aC true J (bg h27) (go 16 ?_);by_cases h29:((e.args.length:Nat):Int)=1;focus
    refine aC false J (dv h29) (go 2 ?_);refine aC true J J (go 3 ?_);by_cases h30:e.num=0;focus
     refine aC false J (dv h30) (go 3 ?_);by_cases h31:e.name=ax
     ·refine aF J (eo false J J J (yy h31)) (go 15 ?_);refine jO (λk=>eu (e.args.take k)=true) (e.args.length) 6 (λk=>[(1,aE b1),(3,bB 1)]) J (ao J) λk hk hvk=>?_;replace hvk:eu (e.args.take k)=true:=hvk
      try dsimp only
      refine go 5 ?_;by_cases h33:((k:Nat):Int)<1
      ·refine aC true J (ck h33) (go 12 ?_);refine aF J (bS bR bb e.args fw ei k J J J J Y V runUnderlying85 sizeOf87) (go 1 ?_);refine cy J call132 J (ih k Y _) ?_;rintro _ _ ⟨hr35,rfl⟩;rcases bq (dc e.args[k]) with h36|h36
       ·rw [h36] at hr35;subst hr35;refine go 9 ?_;refine bJ J (go 2 ?_);exact ⟨Y,(by rw [D6 _ _ Y,hvk,h36];rfl),(av J (bv Y) (ao J))⟩
       rw [h36] at hr35;subst hr35;refine go 15 ?_;exact aw (s':=⟨bx,rw⟩) J cM ⟨bU (by rw [pF,vL _ _ _ h36,pQ]),J⟩
      refine aC false J (cg h33) (go 14 ?_);exact aw (s':=⟨bx,rw⟩) J cM ⟨bU xt,J⟩
     refine aF J (eo true J J J (yl h31)) (go 13 ?_)
    rotate_left;refine aC true J (fe h30) (go 17 ?_)
   rotate_left 2;refine aC true J (fe h29) (go 24 ?_)
  rotate_left 3;focus
   refine aC false J (bZ h27) (go 14 ?_);by_cases h44:((e.args.length:Nat):Int)=2;focus
    refine aC false J (dv h44) (go 2 ?_);refine aC true J J (go 3 ?_);by_cases h45:e.num=0;focus
     refine aC false J (dv h45) (go 3 ?_);by_cases h46:e.name=ax
     ·refine aF J (eo false J J J (yy h46)) (go 15 ?_);refine jO (λk=>eu (e.args.take k)=true) (e.args.length) 6 (λk=>[(1,aE b1),(3,bB 2)]) J (ao J) λk hk hvk=>?_;replace hvk:eu (e.args.take k)=true:=hvk
      try dsimp only
      refine go 5 ?_;by_cases h48:((k:Nat):Int)<2
      ·refine aC true J (ck h48) (go 12 ?_);refine aF J (bS bR bb e.args fw ei k J J J J Y V runUnderlying85 sizeOf87) (go 1 ?_);refine cy J call132 J (ih k Y _) ?_;rintro _ _ ⟨hr50,rfl⟩;rcases bq (dc e.args[k]) with h51|h51
       ·rw [h51] at hr50;subst hr50;refine go 9 ?_;refine bJ J (go 2 ?_);exact ⟨Y,(by rw [D6 _ _ Y,hvk,h51];rfl),(av J (bv Y) (ao J))⟩
       rw [h51] at hr50;subst hr50;refine go 15 ?_;exact aw (s':=⟨bx,rw⟩) J cM ⟨bU (by rw [pF,vL _ _ _ h51,pQ]),J⟩
      refine aC false J (cg h48) (go 14 ?_);exact aw (s':=⟨bx,rw⟩) J cM ⟨bU xt,J⟩
     refine aF J (eo true J J J (yl h46)) (go 13 ?_)
    rotate_left;refine aC true J (fe h45) (go 17 ?_)
   rotate_left 2;refine aC true J (fe h44) (go 24 ?_)
 all_goals
  exact aw (s':=⟨bx,rw⟩) J cM ⟨bU (by rw [pF];unfold kP arity;(repeat' split)<;>first|omega|(simp_all;done)|(simp_all;omega)),rfl⟩
end
section
def cD.small(N:Nat)(r:cD):Prop:=r.index.length <= 1 /\ ∀x,x∈r.index -> x.nodes <= N
def cK.small(N:Nat)(a:cK):Prop:=a.ref.small N /\ a.expr.nodes <= N
mutual
def aL.small(N:Nat):aL -> Prop
 |.mk _ _ e r a t f=>e.nodes <= N /\ r.small N /\ a.length <= N /\ (∀x,x∈a -> x.small N) /\ t.length <= N /\ smalls N t /\ f.length <= N /\ smalls N f
def smalls(N:Nat):List aL -> Prop
 |[]=>True
 |s::r=>s.small N /\ smalls N r
end
def bE.small(N:Nat)(f:bE):Prop:=f.params.length <= N /\ f.body.length <= N /\ smalls N f.body
def aZ.small(N:Nat)(p:aZ):Prop:=p.globals.length <= N /\ p.mutexes.length <= N /\ p.funcs.length <= N /\ ∀f,f∈p.funcs -> f.small N
end
section
open Go.RowKit
def R3(op num:Int)(name:aG)(args:List aP)(hl:args.length <= 1000000000)(ih:∀k (h:k<args.length) (s:aH),aR prog 55 [.agg (bb args[k]),.agg (bb args[k])] [] s λr s'=>r=ap true /\ s'=s)(s:aH):
  aR prog 55 [.agg [aA op,aA num,ae name,aB bR args],.agg [aA op,aA num,ae name,aB bR args]] [] s λr s'=>r=ap true /\ s'=s:=by
 obtain ⟨bx,rw⟩:=s;refine bN 53 func55 ?_;refine go 14 λb1 b2=>?_;refine aC false J ge (go 5 ?_);refine aC false J ge (go 6 ?_);refine aF J (eo false J J J (by simp [kb])) (go 8 ?_);refine aC false J ge (go 13 ?_);refine Ri (args.length) 5 [(2,_),(3,_)] (ao J) λk hk=>?_;refine go 7 ?_;refine aF J (ej _ J J J J) (go 2 ?_);refine iB J (λhc2=>?_) (λhc2=>?_)
 ·have hk2:k<args.length:=by simpa using hc2
  refine go 5 ?_;refine b_ [b2,b1] (aY [0,1,2] 9 (go 4 ?_));refine ab 3 J (bS bR bb args fw ei k J J J J hk2 V runUnderlying85 sizeOf87) (aY [4,5,6,7] 4 (go 5 ?_));refine ab 8 J (bS bR bb args fw ei k J J J J hk2 V runUnderlying85 sizeOf87) (aY [9] 2 (go 2 ?_));refine an 10 J J (bj [] J J V call55 J (ih k hk2 ⟨_,_⟩) dL dL (λ_=>dL) ?_);rintro r3 s3 ⟨rfl,rfl⟩;refine aY [11] 0 (go 2 ?_);refine bG (go 7 ?_);refine bJ J (go 2 ?_);exact ⟨Y,(ao J)⟩
 refine go 11 ?_;exact aw (s':=⟨bx,rw⟩) J eX ⟨J,J⟩
mutual
def Ch:∀(x:aP),x.nodes <= 1000000000 -> ∀(s:aH),aR prog 55 [.agg (bb x),.agg (bb x)] [] s λr s'=>r=ap true /\ s'=s
 |.mk op num name args,hn,s=>R3 op num name args (by have:=tO args;simp only [aP.nodes] at hn;omega) (λk h s=>FJ args (by simp only [aP.nodes] at hn;omega) k h s) s
def FJ:∀(l:List aP),dD l <= 1000000000 -> ∀(k:Nat)(h:k<l.length)(s:aH),aR prog 55 [.agg (bb l[k]),.agg (bb l[k])] [] s λr s'=>r=ap true /\ s'=s
 |[],_,_,h,_=>absurd h aK
 |e::es,hn,0,_,s=>Ch e (by simp only [dD] at hn;omega) s
 |e::es,hn,k+1,h,s=>FJ es (by simp only [dD] at hn;omega) k iW s
end
abbrev l8(l:List ByteArray):aN:=.sl l.length (l.map λs=>ae s)
abbrev l_(l:List Int):aN:=.sl l.length (l.map λn=>aA n)
def VW(s:aH):aR prog 140 [aX 0] [] s λt s'=>t=.tup [.c (l8 (eE 0)),.c (l_ (dj 0))] /\ s'=s:=by
 obtain ⟨bx,rw⟩:=s;refine bN 23 func140 ?_;refine go 15 ?_;refine aC true J ge (go 6 ?_);refine aW J (be iM ?_);refine aW J (be oV ?_);refine go 7 ?_;exact ⟨.inr J,_,⟨bx,rw⟩,iP J (bM J) (bM J),aj (.refl _) (.refl _),J,J⟩
def TV(s:aH):aR prog 140 [aX 1] [] s λt s'=>t=.tup [.c (l8 (eE 1)),.c (l_ (dj 1))] /\ s'=s:=by
 obtain ⟨bx,rw⟩:=s;refine bN 23 func140 ?_;refine go 15 ?_;refine aC false J J (go 6 ?_);refine aC true J ge (go 6 ?_);refine aW J (be iM ?_);refine aW J (be oV ?_);refine go 7 ?_;exact ⟨.inr J,_,⟨bx,rw⟩,iP J (bM J) (bM J),aj (.refl _) (.refl _),J,J⟩
def OV(s:aH):aR prog 140 [aX 2] [] s λt s'=>t=.tup [.c (l8 (eE 2)),.c (l_ (dj 2))] /\ s'=s:=by
 obtain ⟨bx,rw⟩:=s;refine bN 23 func140 ?_;refine go 15 ?_;refine aC false J J (go 6 ?_);refine aC false J J (go 6 ?_);refine aC true J ge (go 6 ?_);refine aW J (rY Tryz.t9 [ae ⟨#[]⟩,ae ⟨#[]⟩,ae ⟨#[]⟩,ae ⟨#[]⟩,ae ⟨#[]⟩,ae ⟨#[]⟩] J J V (.cons J (.cons J (.cons J (.cons J (.cons J (.cons J .nil)))))) underlying61 aQ J V V aQ aQ J ?_);refine aW J (rY Tryz.t3 [aA 0,aA 0,aA 0,aA 0,aA 0,aA 0] J J V (.cons J (.cons J (.cons J (.cons J (.cons J (.cons J .nil)))))) underlying22 aQ J V V aQ aQ J ?_);refine go 7 ?_;exact ⟨.inr J,_,⟨bx,rw⟩,iP J (bM J) (bM J),aj (.refl _) (.refl _),J,J⟩
def SY(s:aH):aR prog 140 [aX 3] [] s λt s'=>t=.tup [.c (l8 (eE 3)),.c (l_ (dj 3))] /\ s'=s:=by
 obtain ⟨bx,rw⟩:=s;refine bN 23 func140 ?_;refine go 15 ?_;refine aC false J J (go 6 ?_);refine aC false J J (go 6 ?_);refine aC false J J (go 6 ?_);refine aC true J ge (go 6 ?_);refine aW J (be (hps:=(.cons J (.cons J .nil))) B7 ?_);refine aW J (rY Tryz.t3 [aA 0,aA 0] J J V (.cons J (.cons J .nil)) underlying22 aQ J V V aQ aQ J ?_);refine go 7 ?_;exact ⟨.inr J,_,⟨bx,rw⟩,iP J (bM J) (bM J),aj (.refl _) (.refl _),J,J⟩
def NS(s:aH):aR prog 140 [aX 4] [] s λt s'=>t=.tup [.c (l8 (eE 4)),.c (l_ (dj 4))] /\ s'=s:=by
 obtain ⟨bx,rw⟩:=s;refine bN 23 func140 ?_;refine go 15 ?_;refine aC false J J (go 6 ?_);refine aC false J J (go 6 ?_);refine aC false J J (go 6 ?_);refine aC false J J (go 9 ?_);refine aW J (be (hps:=(.cons J (.cons J (.cons J .nil)))) sO ?_);refine aW J (rY Tryz.t3 [aA 0,aA 0,aA 0] J J V (.cons J (.cons J (.cons J .nil))) underlying22 aQ J V V aQ aQ J ?_);refine go 5 ?_;exact ⟨.inr J,_,⟨bx,rw⟩,iP J (bM J) (bM J),aj (.refl _) (.refl _),J,J⟩
def Ic(lv:Nat)(h:lv<5)(s:aH):aR prog 140 [bB (lv:Int)] [] s λt s'=>t=.tup [.c (l8 (eE lv)),.c (l_ (dj lv))] /\ s'=s:=by
 rcases (show lv=0∨lv=1∨lv=2∨lv=3∨lv=4 by omega) with rfl|rfl|rfl|rfl|rfl
 ·exact VW s
 ·exact TV s
 ·exact OV s
 ·exact SY s
 exact NS s
end
section
def nn(n:Nat)(l:List UInt8):Nat:=l.foldl (λn c=>10*n+(c.toNat-48)) n
def Ig(n:Nat):nn n []=n:=rfl
def Ec(n:Nat)(c:UInt8)(r:List UInt8):nn n (c::r)=nn (10*n+(c.toNat-48)) r:=by unfold nn;rw [o']
def RN(l:List UInt8)(c:UInt8)(n:Nat):nn n (l++[c])=10*nn n l+(c.toNat-48):=by
 unfold nn;rw [y_];rfl
def Hr(k:Nat):dJ (UInt8.ofNat (48+k%10))=true:=by
 have hc:(UInt8.ofNat (48+k%10)).toNat=48+k%10:=Aa;simp only [dJ,decide_eq_true_eq,hc];omega
def Oz(l:List UInt8):∀n,n <= nn n l:=by
 induction l with
 |nil=>intro n;exact bW _
 |cons c r ih=>intro n;have:=ih (10*n+(c.toNat-48));rw [Ec];omega
def Qg(l:List UInt8)(h:∀c∈l,dJ c=true):∀n,n <= 9223372036854775807 -> e1 n l=if nn n l <= 9223372036854775807 then some (nn n l) else none:=by
 induction l with
 |nil=>intro n hn;rw [e1,Ig,if_pos hn]
 |cons c r ih=>
  intro n hn;have hc:=h c (jm ..);simp only [dJ,decide_eq_true_eq] at hc;rw [e1,Ec];by_cases ho:(9223372036854775807-(c.toNat-48))/10<n
  ·rw [if_pos ho];have:=Oz r (10*n+(c.toNat-48));rw [if_neg Y]
  rw [if_neg ho,ih (λd hd=>h d (dT _ hd)) _ Y]
def Va(c:UInt8)(h:dJ c=true):fR c=false /\ isSp c=false /\ c≠47:=by
 simp only [dJ,decide_eq_true_eq] at h;refine ⟨?_,?_,?_⟩
 ·simp only [fR,decide_eq_false_iff_not];omega
 ·simp only [isSp,decide_eq_false_iff_not];omega
 rintro rfl;revert h;decide
end
section
structure dK where
 kind:Nat
 text:ByteArray
 num:Nat
def Tok.pt(t:Tok):dK:=⟨t.kind,t.text,t.num⟩
def LV:dK:=⟨5,⟨#[]⟩,0⟩
def dd(s:List UInt8):dK:=⟨4,bytes s,0⟩
def ju(s:List UInt8):dK:=⟨3,bytes s,0⟩
inductive cV:List UInt8 -> List dK -> Prop where
 |nil {s:List UInt8} (h:iz s=[]):cV s []
 |cons {s r:List UInt8} {kind len num:Nat} {ps:List dK} (h:iz s=r) (h0:r≠[]) (hn:d1 r=.tok kind len num) (ht:cV (r.drop len) ps):cV s (⟨kind,bytes (r.take len),num⟩::ps)
def cV.same{s s':List UInt8}{ps:List dK}(h:cV s ps)(he:iz s'=iz s):cV s' ps:=by
 cases h with
 |nil h=>exact .nil (he.trans h)
 |cons h h0 hn ht=>exact .cons (he.trans h) h0 hn ht
def cV.sp{c:UInt8}{r:List UInt8}{ps:List dK}(h:cV r ps)(hc:isSp c=true):cV (c::r) ps:=h.same (C9 hc)
def cV.bl{r:List UInt8}{ps:List dK}(h:cV r ps):cV (32::r) ps:=h.sp V
def cV.end:cV [] []:=.nil CJ
def Uo{r:List UInt8}{ps:List dK}(h:cV r ps):∀(s:List UInt8)(k n:Nat),s.drop k=r -> k <= s.length -> n+ps.length <= 4000 -> ∃L,gN s k n=.ok L /\ L.map Tok.pt=ps++[LV]:=by
 induction h with
 |@nil r h=>
  intro s k n hd hk _;refine ⟨_,wG (by unfold cR;rw [hd,h];simp),J⟩
 |@cons r0 r kind len num ps h h0 hn _ ih=>
  intro s k n hd hk hl;simp only [length_cons] at hl;have hs:s.drop (cR s k)=r:=by rw [TA,hd,h]
  have hlt:cR s k<s.length:=by
   rcases iQ (cR s k) s.length with h1|h1
   ·exact h1
   rw [ka h1] at hs;exact absurd hs.symm h0
  have hlen:=xL h0 hn;have hr:r.length=s.length-cR s k:=by rw [←hs,jk]
  obtain ⟨L,h1,h2⟩:=ih s (cR s k+len) (n+1) (by rw [←xu,hs]) Y Y;rw [wl hk hlt (by rw [hs];exact hn) Y,h1,hs];exact ⟨_,J,by rw [cd,h2];rfl⟩
def R4{s:List UInt8}{ps:List dK}(h:cV s ps)(hs:s.length <= 262144)(hp:ps.length <= 4000):∃L,fo s=.ok L /\ L.map Tok.pt=ps++[LV]:=by
 unfold fo;rw [if_neg Y];exact Uo h s 0 0 J Y Y
def pa(r:List UInt8):Prop:=∀c,r.head?=some c -> cv c=false
def JP{p:UInt8 -> Bool}{l r:List UInt8}(h:∀c∈l,p c=true)(hr:∀c,r.head?=some c -> p c=false):(l++r).takeWhile p=l:=by
 induction l with
 |nil=>
  cases r with
  |nil=>rfl
  |cons c r=>rw [dw,List.takeWhile_cons_of_neg];rw [hr c rfl];simp
 |cons c l ih=>rw [eD,q8 (h c (jm ..)),ih λd hd=>h d (dT _ hd)]
def LS{c:UInt8}(h:fR c=true):isSp c=false /\ c≠47:=by
 simp only [fR,decide_eq_true_eq] at h;refine ⟨?_,?_⟩
 ·simp only [isSp,decide_eq_false_iff_not];omega
 rintro rfl;revert h;decide
def cV.letters{s r:List UInt8}{ps:List dK}(h:cV r ps)(c:UInt8)(q:List UInt8)(hs:s=c::q)(hc:fR c=true)(hq:∀d∈q,cv d=true)(hl:s.length <= 16)(hr:pa r):cV (s++r) (⟨if ee (bytes s) then 3 else 1,bytes s,0⟩::ps):=by
 subst hs;have ht:((c::q)++r).takeWhile cv=c::q:=JP (λd hd=>by
  rcases mem_cons.1 hd with rfl|hd
  ·simp [cv,hc]
  exact hq d hd) hr
 have hn:d1 ((c::q)++r)=.tok (if ee (bytes (c::q)) then 3 else 1) (c::q).length 0:=by
  rw [eD] at ht⊢;rw [sv hc,ht,if_neg Y]
 have:=cV.cons (s:=(c::q)++r) (r:=(c::q)++r) (vJ (r:=q++r) (LS hc).1 (λh=>(LS hc).2 h.1)) aK hn (ps:=ps) (by rw [List.drop_left];exact h);rw [List.take_left] at this;exact this
def NP(s:aG):bytes s.data.toList=s:=qN
def cV.name{r:List UInt8}{ps:List dK}(h:cV r ps)(s:aG)(hs:br s=true)(hr:pa r):cV (s.data.toList++r) (⟨1,s,0⟩::ps):=by
 unfold br at hs;split at hs
 ·cases hs
 rename_i c q he;simp only [cz,d3,decide_eq_true_eq,tr] at hs;obtain ⟨⟨⟨h1,h2⟩,h3⟩,h4⟩:=hs;have:=h.letters (s:=s.data.toList) c q he h1 h2 (by exact h3) hr;rw [NP,h4] at this;exact this
def NI:∀x,x∈words -> x.size <= 16 /\ fR (x.data.toList.headD 0)=true /\ (x.data.toList.tail.all cv)=true:=V
def cV.word{r:List UInt8}{ps:List dK}(h:cV r ps)(s:List UInt8)(hs:ee (bytes s)=true)(hr:pa r):cV (s++r) (ju s::ps):=by
 obtain ⟨h1,h2,h3⟩:=NI _ ((zk _).1 hs);have e:(bytes s).data.toList=s:=qN;rw [e] at h2 h3;have e2:(bytes s).size=s.length:=ri;rw [e2] at h1;cases s with
 |nil=>exact absurd h2 V
 |cons c q=>
  have:=h.letters (s:=c::q) c q rfl h2 (d3.1 h3) h1 hr;rw [hs] at this;exact this
def Ir(n:Nat):∀c∈cp n,dJ c=true:=by
 induction n using cp.induct with
 |case1 n h=>
  rw [cp,if_pos h];intro c hc;simp only [jw] at hc;subst hc;have:=Hr n
  rwa [Nat.mod_eq_of_lt h] at this
 |case2 n h ih=>
  rw [cp,if_neg h];intro c hc;rcases mem_append.1 hc with hc|hc
  ·exact ih c hc
  simp only [jw] at hc;subst hc;exact Hr n
def Gy(n:Nat):cp n≠[]:=by rw [cp];split<;>simp
def Tl(n:Nat):nn 0 (cp n)=n:=by
 induction n using cp.induct with
 |case1 n h=>
  have hc:(UInt8.ofNat (48+n)).toNat=48+n:=Aa;rw [cp,if_pos h,Ec,Ig,hc];omega
 |case2 n h ih=>
  have hc:(UInt8.ofNat (48+n%10)).toNat=48+n%10:=Aa;rw [cp,if_neg h,RN,ih,hc];omega
def cV.num{r:List UInt8}{ps:List dK}(h:cV r ps)(n:Nat)(hn:n <= 9223372036854775807)(hr:pa r):cV (cp n++r) (⟨2,bytes (cp n),n⟩::ps):=by
 obtain ⟨c,q,he⟩:=uJ (Gy n);have hd:=Ir n;have hv:=Qg (cp n) hd 0 Y;rw [Tl,if_pos hn] at hv;have ht:(cp n++r).takeWhile dJ=cp n:=JP hd λc hc=>by
  have:=hr c hc;unfold cv at this;simp only [Bool.or_eq_false_iff] at this;exact this.2
 have hc:=hd c Gq;have hx:=Va c hc;have hnx:d1 (cp n++r)=.tok 2 (cp n).length n:=by
  rw [he,eD] at ht⊢;rw [tD hx.1 hc (n:=n) (by rw [ht,←he];exact hv),ht]
 have:=cV.cons (s:=cp n++r) (r:=cp n++r) (by rw [he];exact vJ (r:=q++r) hx.2.1 (λh=>hx.2.2 h.1)) (by rw [he];simp) hnx (ps:=ps) (by rw [List.drop_left];exact h);rw [List.take_left] at this;exact this
def U':∀c,c∈iT -> fR c=false /\ dJ c=false /\ isSp c=false:=V
def cV.one{r:List UInt8}{ps:List dK}(h:cV r ps)(c:UInt8)(hc:c∈iT)(hr:∀d,r.head?=some d -> [c,d]∉jM /\ ¬(c=47 /\ d=47)):cV (c::r) (dd [c]::ps):=by
 obtain ⟨h1,h2,h3⟩:=U' c hc;have hno:¬(2 <= (c::r).length /\ (c::r).take 2∈jM):=by
  rintro ⟨h4,h5⟩;cases r with
  |nil=>simp at h4
  |cons d r=>exact (hr d rfl).1 h5
 have hn:d1 (c::r)=.tok 4 1 0:=by rw [rk h1 h2,Cr hno hc];rfl
 exact cV.cons (vJ h3 (λ⟨h4,h5⟩=>(hr 47 h5).2 ⟨h4,J⟩)) aK hn h
def Qy:∀x,x∈jM -> fR (x.headD 0)=false /\ dJ (x.headD 0)=false /\ isSp (x.headD 0)=false /\ x.headD 0≠47:=V
def cV.two{r:List UInt8}{ps:List dK}(h:cV r ps)(c d:UInt8)(hc:[c,d]∈jM):cV (c::d::r) (dd [c,d]::ps):=by
 obtain ⟨h1,h2,h3,h4⟩:=Qy _ hc;have hn:d1 (c::d::r)=.tok 4 2 0:=by rw [rk (c:=c) h1 h2,C5 (l:=c::d::r) aK hc];rfl
 exact cV.cons (vJ h3 (λh5=>h4 h5.1)) aK hn h
def Fin(r:List UInt8):Prop:=∀c,r.head?=some c -> c∈([32,41,93,59,44]:List UInt8)
def D_:∀c,c∈([32,41,93,59,44]:List UInt8) -> cv c=false /\ c≠47 /\ ∀d,d∈iT -> [d,c]∉jM:=V
def Fin.nam{r:List UInt8}(h:Fin r):pa r:=λc hc=>(D_ c (h c hc)).1
def Fin.cons{c:UInt8}{r:List UInt8}(h:c∈([32,41,93,59,44]:List UInt8)):Fin (c::r):=λd hd=>by cases hd;exact h
def Fin.nil:Fin []:=λc hc=>by cases hc
def pa.cons{c:UInt8}{r:List UInt8}(h:cv c=false):pa (c::r):=λd hd=>by cases hd;exact h
def cV.one'{r:List UInt8}{ps:List dK}(h:cV r ps)(c:UInt8)(hc:c∈iT)(hr:Fin r):cV (c::r) (dd [c]::ps):=
 h.one c hc λd hd=>⟨(D_ d (hr d hd)).2.2 c hc,λh2=>(D_ d (hr d hd)).2.1 h2.2⟩
def UR:∀c,c∈([40,41,123,125,91,93,44,59,43,45,42,37]:List UInt8) -> c∈iT /\ c≠47 /\ ∀x,x∈jM -> x.headD 0≠c:=V
def cV.free{r:List UInt8}{ps:List dK}(h:cV r ps)(c:UInt8)(hc:c∈([40,41,123,125,91,93,44,59,43,45,42,37]:List UInt8)):cV (c::r) (dd [c]::ps):=by
 obtain ⟨h1,h2,h3⟩:=UR c hc;exact h.one c h1 λd _=>⟨λhm=>h3 _ hm J,λh4=>h2 h4.1⟩
end
section
inductive je:aP -> Prop where
 |num (n:Nat) (h:n <= 9223372036854775807):je (.mk 1 n ax [])
 |name (s:ByteArray) (h:br s=true):je (.mk 2 0 s [])
 |un (op:Int) (x:aP) (h:op=3∨op=4) (hx:je x):je (.mk op 0 ax [x])
 |bin (op:Int) (x y:aP) (h:5 <= op /\ op <= 17) (hx:je x) (hy:je y):je (.mk op 0 ax [x,y])
def sT(b:Bool)(t:List UInt8):List UInt8:=if b then [40]++t++[41] else t
def mZ(b:Bool)(t:List dK):List dK:=if b then dd [40]::(t++[dd [41]]) else t
def Hy(op num:Int)(name:ByteArray)(ts:List (List dK)):List dK:=
 if op=1 then [⟨2,bytes (cp num.natAbs),num.natAbs⟩] else if op=2 then [⟨1,name,0⟩] else if op=3 then dd [45]::ts.getD 0 [] else if op=4 then dd [33]::ts.getD 0 [] else
 ts.getD 0 []++dd (kl op)::ts.getD 1 []
mutual
def dy:aP -> List dK
 |.mk op num name args=>Hy op num name (pY op 0 args)
def pY(b:Int):Nat -> List aP -> List (List dK)
 |_,[]=>[]
 |k,e::es=>mZ (gX b k e.op) (dy e)::pY b (k+1) es
end
def LR{op:Int}(h:5 <= op /\ op <= 17):op=5∨op=6∨op=7∨op=8∨op=9∨op=10∨op=11∨op=12∨op=13∨op=14∨op=15∨op=16∨op=17:=Y
def Td{op:Int}(h:5 <= op /\ op <= 17):cw op<5:=by
 rcases LR h with rfl|rfl|rfl|rfl|rfl|rfl|rfl|rfl|rfl|rfl|rfl|rfl|rfl<;>decide
def CO(n:Nat):bX (.mk 1 n ax [])=cp n:=by
 rw [bX,gY];show eM (n:Int)=_;unfold eM;rw [if_neg Y];rfl
def L9(s:aG):bX (.mk 2 0 s [])=s.data.toList:=by rw [bX,gY];rfl
def DD(n:Nat):dy (.mk 1 n ax [])=[⟨2,bytes (cp n),n⟩]:=by rw [dy,pY];rfl
def DU(s:aG):dy (.mk 2 0 s [])=[⟨1,s,0⟩]:=by rw [dy,pY];rfl
def IU{op:Int}(h:op=3∨op=4)(x:aP):bX (.mk op 0 ax [x])=(if op=3 then 45 else 33)::sT (gX op 0 x.op) (bX x):=by
 rw [bX,gY,gY];rcases h with rfl|rfl<;>rfl
def Cd{op:Int}(h:op=3∨op=4)(x:aP):dy (.mk op 0 ax [x])=dd [if op=3 then 45 else 33]::mZ (gX op 0 x.op) (dy x):=by
 rw [dy,pY,pY];rcases h with rfl|rfl<;>rfl
def Lq{op:Int}(h:5 <= op /\ op <= 17)(x y:aP):bX (.mk op 0 ax [x,y])=sT (gX op 0 x.op) (bX x)++([32]++kl op++[32])++sT (gX op 1 y.op) (bX y):=by
 rw [bX,gY,gY,gY];unfold jN;have hs:=Td h;rw [if_neg Y,if_neg Y,if_neg Y,if_neg Y,if_pos hs];simp [sT]
def Bb{op:Int}(h:5 <= op /\ op <= 17)(x y:aP):dy (.mk op 0 ax [x,y])=mZ (gX op 0 x.op) (dy x)++dd (kl op)::mZ (gX op 1 y.op) (dy y):=by
 rw [dy,pY,pY,pY];unfold Hy;rw [if_neg Y,if_neg Y,if_neg Y,if_neg Y]
 rfl
def po(r:List UInt8):Prop:=∃c q,r=c::q /\ c≠61 /\ c≠38 /\ c≠124 /\ c≠47
def po.app{r:List UInt8}(h:po r)(s:List UInt8):po (r++s):=by
 obtain ⟨c,q,rfl,h1⟩:=h;exact ⟨c,q++s,J,h1⟩
def Gr{c:UInt8}(h:cv c=true)(q:List UInt8):po (c::q):=by
 refine ⟨c,q,J,?_,?_,?_,?_⟩<;>(rintro rfl;revert h;decide)
def Hs{b:Bool}{t:List UInt8}(h:po t):po (sT b t):=by
 cases b
 ·exact h
 exact ⟨40,t++[41],J,V,V,V,V⟩
def je.sta{e:aP}(h:je e):po (bX e):=by
 induction h with
 |num n h=>
  rw [CO];obtain ⟨c,q,he⟩:=uJ (Gy n);rw [he];exact Gr (by unfold cv;rw [Ir n c Gq];simp) q
 |name s h=>
  rw [L9];unfold br at h;split at h
  ·cases h
  ·rename_i c q he;simp only [cz] at h;rw [he];exact Gr (by unfold cv;rw [h.1.1.1];rfl) q
 |un op x h hx ih=>
  rw [IU h];rcases h with rfl|rfl
  ·exact ⟨45,_,J,V,V,V,V⟩
  ·exact ⟨33,_,J,V,V,V,V⟩
 |bin op x y h hx hy ihx ihy=>
  rw [Lq h,append_assoc];exact (Hs ihx).app _
def S0:∀x,x∈jM -> x.getD 1 0=61∨x.getD 1 0=38∨x.getD 1 0=124:=V
def cV.pre{r:List UInt8}{ps:List dK}(h:cV r ps)(c:UInt8)(hc:c∈iT)(hr:po r):cV (c::r) (dd [c]::ps):=by
 obtain ⟨d,q,rfl,h1,h2,h3,h4⟩:=hr;refine h.one c hc λd' hd=>?_;cases hd;refine ⟨λhm=>?_,λh5=>h4 h5.2⟩;rcases S0 _ hm with h5|h5|h5
 ·exact h1 h5
 ·exact h2 h5
 exact h3 h5
def cV.oper{r:List UInt8}{ps:List dK}(h:cV r ps){op:Int}(ho:5 <= op /\ op <= 17):cV ([32]++kl op++[32]++r) (dd (kl op)::ps):=by
 have h1:=h.bl;have hf:Fin (32::r):=Fin.cons V;rcases LR ho with rfl|rfl|rfl|rfl|rfl|rfl|rfl|rfl|rfl|rfl|rfl|rfl|rfl
 ·exact (h1.one' 42 V hf).bl
 ·exact (h1.one' 47 V hf).bl
 ·exact (h1.one' 37 V hf).bl
 ·exact (h1.one' 43 V hf).bl
 ·exact (h1.one' 45 V hf).bl
 ·exact (h1.one' 60 V hf).bl
 ·exact (h1.two 60 61 V).bl
 ·exact (h1.one' 62 V hf).bl
 ·exact (h1.two 62 61 V).bl
 ·exact (h1.two 61 61 V).bl
 ·exact (h1.two 33 61 V).bl
 ·exact (h1.two 38 38 V).bl
 exact (h1.two 124 124 V).bl
def je.lx{e:aP}(h:je e):∀(r:List UInt8)(ps:List dK),Fin r -> cV r ps -> cV (bX e++r) (dy e++ps):=by
 have par:∀(b:Bool)(x:aP),je x -> (∀(r:List UInt8)(ps:List dK),Fin r -> cV r ps -> cV (bX x++r) (dy x++ps)) -> ∀(r:List UInt8)(ps:List dK),Fin r -> cV r ps -> cV (sT b (bX x)++r) (mZ b (dy x)++ps):=by
  intro b x hx ih r ps hf hr;cases b with
  |false=>exact ih r ps hf hr
  |true=>
   have h1:=(ih (41::r) (dd [41]::ps) (Fin.cons V) (hr.free 41 V)).free 40 V;simpa [sT,mZ] using h1
 induction h with
 |num n h=>intro r ps hf hr;rw [CO,DD];exact hr.num n h hf.nam
 |name s h=>intro r ps hf hr;rw [L9,DU];exact hr.name s h hf.nam
 |un op x h hx ih=>
  intro r ps hf hr;rw [IU h,Cd h];have h1:=par (gX op 0 x.op) x hx ih r ps hf hr;have h2:=(Hs (b:=gX op 0 x.op) hx.sta).app r;rcases h with rfl|rfl
  ·exact h1.pre 45 V h2
  ·exact h1.pre 33 V h2
 |bin op x y h hx hy ihx ihy=>
  intro r ps hf hr;rw [Lq h,Bb h];have h1:=(par (gX op 1 y.op) y hy ihy r ps hf hr).oper h;have h2:=par (gX op 0 x.op) x hx ihx _ _ (Fin.cons V) h1;simpa using h2
def Seg(l:List Tok)(k:Nat)(ps:List dK):Prop:=ps <+:(l.map Tok.pt).drop k
def Seg.app{l:List Tok}{k:Nat}{a b:List dK}(h:Seg l k (a++b)):Seg l k a /\ Seg l (k+a.length) b:=by
 obtain ⟨t,ht⟩:=h;refine ⟨⟨b++t,by rw [←ht,append_assoc]⟩,⟨t,?_⟩⟩;rw [←xu,←ht,append_assoc,List.drop_left]
def Seg.head{l:List Tok}{k:Nat}{t:dK}{ps:List dK}(h:Seg l k (t::ps)):(dM l k).pt=t /\ k<l.length /\ Seg l (k+1) ps:=by
 obtain ⟨q,ht⟩:=h;have h1:(l.map Tok.pt).drop k=t::(ps++q):=ht.symm;have hk:k<l.length:=by
  rcases iQ k l.length with h2|h2
  ·exact h2
  rw [ka mR] at h1;cases h1
 have h2:=iK (l:=l.map Tok.pt) (i:=k) nS;rw [h2] at h1;injection h1 with h3 h4
 refine ⟨by rw [lS hk];simpa using h3,hk,⟨q,h4.symm⟩⟩
def Da{l:List Tok}{k:Nat}{s:List UInt8}(h:(dM l k).pt=dd s):(dM l k).kind=4 /\ (dM l k).text=bytes s:=by
 have h1:=congrArg dK.kind h;have h2:=congrArg dK.text h;exact ⟨h1,h2⟩
def y3{l:List Tok}{k:Nat}{s:List UInt8}(h:(dM l k).pt=dd s)(u:List UInt8):ef l k u=decide (bytes s=bytes u):=by
 obtain ⟨h1,h2⟩:=Da h;unfold ef;rw [h1,h2];simp
def q_(l:List Tok)(k m:Nat):Prop:=¬((dM l k).kind=4 /\ m <= (binOp (dM l k).text).2)
def q_.mono{l:List Tok}{k m n:Nat}(h:q_ l k m)(hn:m <= n):q_ l k n:=λhh=>h ⟨hh.1,Y⟩
def Uy{l:List Tok}{k m:Nat}{s:List UInt8}(h:(dM l k).pt=dd s)(hs:(binOp (bytes s)).2<m):q_ l k m:=by
 rintro ⟨_,h2⟩;rw [(Da h).2] at h2;omega
section
variable {l:List Tok}
structure Reads (l:List Tok) (e:aP):Prop where
 single:∀d k,gS e <= d -> Seg l k (dy e) -> 5 <= cw e.op -> eO l d k=.ok e (k+(dy e).length)
 bin:∀d k j,gS e <= d -> Seg l k (dy e) -> j <= 5 -> 5 <= cw e.op+j -> q_ l (k+(dy e).length) (6-j) -> gz l (eO l d) j k=.ok e (k+(dy e).length)
 chain:∀d k j,gS e <= d -> Seg l k (dy e) -> j<5 -> 5 <= cw e.op+(j+1) -> q_ l (k+(dy e).length) (6-j) -> ∃a k0 m,gz l (eO l d) j k=.ok a k0 /\ m <= (dy e).length /\ ∀n,jF l (gz l (eO l d) j) (5-j) (m+n) a k0=jF l (gz l (eO l d) j) (5-j) n e (k+(dy e).length)
theorem Reads.par{x:aP}(h:Reads l x)(b:Bool)(d k:Nat)(hb:b=false -> 5 <= cw x.op)(hd:(gS x+if b then 1 else 0) <= d)(hs:Seg l k (mZ b (dy x))):eO l d k=.ok x (k+(mZ b (dy x)).length):=by
 cases b with
 |false=>exact h.single d k (by simpa using hd) hs (hb rfl)
 |true=>
  simp only [if_true] at hd;obtain ⟨d,rfl⟩:∃d',d=d'+1:=⟨d-1,Y⟩;have hs':Seg l k (dd [40]::(dy x++[dd [41]])):=hs;obtain ⟨h1,hk,h2⟩:=hs'.head;obtain ⟨h3,h4⟩:=h2.app;obtain ⟨h5,hk5,_⟩:=h4.head;have hkd:=(Da h1).1;unfold eO;rw [hkd,if_neg V,if_neg V,y3 h1,y3 h1,y3 h1,if_neg V,if_neg V,if_pos V];rw [h.bin d (k+1) 5 Y h3 (bW _) Y (Uy h5 V)];show (if ef l _ [41] then _ else _)=_;rw [y3 h5,if_pos V]
  congr 1
  simp [mZ];omega
theorem Reads.of{e:aP}(single:∀d k,gS e <= d -> Seg l k (dy e) -> 5 <= cw e.op -> eO l d k=.ok e (k+(dy e).length))
  (step:∀d k j,gS e <= d -> Seg l k (dy e) -> j<5 -> cw e.op+j=4 -> q_ l (k+(dy e).length) (6-j) -> ∃a k0 m,gz l (eO l d) j k=.ok a k0 /\ m <= (dy e).length /\ ∀n,jF l (gz l (eO l d) j) (5-j) (m+n) a k0=jF l (gz l (eO l d) j) (5-j) n e (k+(dy e).length)):Reads l e:=by
 have bin:∀j d k,gS e <= d -> Seg l k (dy e) -> j <= 5 -> 5 <= cw e.op+j -> q_ l (k+(dy e).length) (6-j) -> gz l (eO l d) j k=.ok e (k+(dy e).length):=by
  intro j;induction j with
  |zero=>intro d k hd hs _ h5 hf;exact single d k hd hs Y
  |succ j ih=>
   intro d k hd hs hj h5 hf;by_cases h6:5 <= cw e.op+j
   ·unfold gz;rw [ih d k hd hs Y h6 (hf.mono Y)];show jF l _ (5-j) (l.length+1) _ _=_;unfold jF;rw [if_neg];rintro ⟨h1,h2⟩;exact hf ⟨h1,Y⟩
   obtain ⟨a,k0,m,h1,h2,h3⟩:=step d k j hd hs Y Y (hf.mono Y);have hl:(dy e).length <= l.length:=by
    obtain ⟨t,ht⟩:=hs;have:=congrArg List.length ht;simp at this;omega
   unfold gz;rw [h1];show jF l _ (5-j) (l.length+1) _ _=_;have:=h3 (l.length-m+1);rw [show m+(l.length-m+1)=l.length+1 by omega] at this;rw [this];unfold jF;rw [if_neg];rintro ⟨h1,h2⟩;exact hf ⟨h1,Y⟩
 refine ⟨single,λd k j hd hs hj h5 hf=>bin j d k hd hs hj h5 hf,λd k j hd hs hj h5 hf=>?_⟩;by_cases h6:5 <= cw e.op+j
 ·exact ⟨e,_,0,bin j d k hd hs Y h6 hf,Y,λn=>by rw [e0]⟩
 exact step d k j hd hs hj Y hf
end
end
section
def gh(s:ByteArray):dK:=⟨1,s,0⟩
def rH(n:Nat):dK:=⟨2,bytes (cp n),n⟩
def oQ(e:aP):Prop:=je e /\ gS e <= 24
inductive pJ:cD -> Prop where
 |one (n:ByteArray) (h:br n=true):pJ ⟨n,[]⟩
 |el (n:ByteArray) (e:aP) (h:br n=true) (he:oQ e):pJ ⟨n,[e]⟩
inductive nh:cK -> Prop where
 |mutex (r:cD) (h:pJ r):nh ⟨true,r,.zero⟩
 |expr (e:aP) (h:oQ e):nh ⟨false,.zero,e⟩
inductive fp:Nat -> List aL -> Prop where
 |nil {d:Nat}:fp d []
 |var {d:Nat} {n:ByteArray} {e:aP} {r:List aL} (hn:br n=true) (he:oQ e) (h:fp d r):fp d (.mk 1 n e .zero [] [] []::r)
 |assign {d:Nat} {n:ByteArray} {e:aP} {r:List aL} (hn:br n=true) (he:oQ e) (h:fp d r):fp d (.mk 2 n e .zero [] [] []::r)
 |call {d:Nat} {n:ByteArray} {a:List cK} {r:List aL} (hn:br n=true) (ha:∀x,x∈a -> nh x) (h:fp d r):fp d (.mk 3 n .zero .zero a [] []::r)
 |go {d:Nat} {n:ByteArray} {a:List cK} {r:List aL} (hn:br n=true) (ha:∀x,x∈a -> nh x) (h:fp d r):fp d (.mk 4 n .zero .zero a [] []::r)
 |lock {d:Nat} {f:cD} {r:List aL} (hf:pJ f) (h:fp d r):fp d (.mk 5 ax .zero f [] [] []::r)
 |unlock {d:Nat} {f:cD} {r:List aL} (hf:pJ f) (h:fp d r):fp d (.mk 6 ax .zero f [] [] []::r)
 |cond {d:Nat} {e:aP} {t f r:List aL} (he:oQ e) (ht:fp d t) (hf:fp d f) (h:fp (d+1) r):fp (d+1) (.mk 7 ax e .zero [] t f::r)
 |loop {d:Nat} {e:aP} {t r:List aL} (he:oQ e) (ht:fp d t) (h:fp (d+1) r):fp (d+1) (.mk 8 ax e .zero [] t []::r)
 |ret {d:Nat} {r:List aL} (h:fp d r):fp d (.mk 9 ax .zero .zero [] [] []::r)
def pI(r:cD):List dK:=match r.index with|[]=>[gh r.name]|e::_=>gh r.name::dd [91]::(dy e++[dd [93]])
def rB(a:cK):List dK:=if a.mutex then ju [109,117,116,101,120]::pI a.ref else dy a.expr
def oZ{α:Type}(f:α -> List dK):List α -> List dK
 |[]=>[]
 |x::r=>f x++(r.map λy=>dd [44]::f y).flatten
def H8{α:Type}(f:α -> List dK)(x y:α)(r:List α):oZ f (x::y::r)=f x++dd [44]::oZ f (y::r):=by simp [oZ]
def P5{α:Type}(f:α -> List UInt8)(x y:α)(r:List α):ct f (x::y::r)=f x++[44,32]++ct f (y::r):=sf
def v7(l:List cK):List dK:=dd [40]::(oZ rB l++[dd [41]])
mutual
def i_:aL -> List dK
 |.mk kind name expr ref args thn els=>
  (if kind=1 then ju [118,97,114]::gh name::dd [61]::(dy expr++[dd [59]])
   else if kind=2 then gh name::dd [61]::(dy expr++[dd [59]])
   else if kind=3 then gh name::(v7 args++[dd [59]])
   else if kind=4 then ju [103,111]::gh name::(v7 args++[dd [59]])
   else if kind=5 then ju [108,111,99,107]::(pI ref++[dd [59]])
   else if kind=6 then ju [117,110,108,111,99,107]::(pI ref++[dd [59]])
   else if kind=7∨kind=8 then
    (if kind=8 then ju [119,104,105,108,101] else ju [105,102])::(dy expr++dd [123]::(fF thn++dd [125]::
     (if els.length=0 then [] else ju [101,108,115,101]::dd [123]::(fF els++[dd [125]]))))
   else [ju [114,101,116,117,114,110],dd [59]])
def fF:List aL -> List dK
 |[]=>[]
 |s::r=>i_ s++fF r
end
def Mv{l r:List UInt8}(h:l≠[])(hr:pa l):pa (l++r):=by
 obtain ⟨c,q,rfl⟩:=uJ h;intro d hd;obtain rfl:c=d:=by simpa using hd
 exact hr _ J
section
variable {r:List UInt8}{ps:List dK}
theorem oQ.lx{e:aP}(h:oQ e)(hf:Fin r)(hr:cV r ps):cV (bX e++r) (dy e++ps):=h.1.lx r ps hf hr
theorem pJ.lx{f:cD}(h:pJ f)(hf:Fin r)(hr:cV r ps):cV (ew f++r) (pI f++ps):=by
 cases h with
 |one n h=>exact hr.name n h hf.nam
 |el n e h he=>
  have h1:=((he.lx (Fin.cons (c:=93) V) (hr.free 93 V)).free 91 V).name n h (.cons V);simpa [ew,pI,gh] using h1
theorem nh.lx{a:cK}(h:nh a)(hf:Fin r)(hr:cV r ps):cV (eK a++r) (rB a++ps):=by
 cases h with
 |mutex f h=>exact (h.lx hf hr).bl.word [109,117,116,101,120] V (.cons V)
 |expr e h=>exact h.lx hf hr
theorem Eb{α:Type}{fT:α -> List UInt8}{fK:α -> List dK}:∀(l:List α),(∀x,x∈l -> ∀(r:List UInt8)(ps:List dK),Fin r -> cV r ps -> cV (fT x++r) (fK x++ps)) -> Fin r -> cV r ps -> cV (ct fT l++r) (oZ fK l++ps)
 |[],_,_,hr=>hr
 |[x],h,hf,hr=>by simpa [ct,oZ] using h x (jm ..) r ps hf hr
 |x::y::q,h,hf,hr=>by
  have h1:=((Eb (y::q) (λz hz=>h z (dT _ hz)) hf hr).bl.free 44 V);have h2:=h x (jm ..) _ _ (Fin.cons V) h1;rw [P5,H8];simpa using h2
theorem IY{l:List cK}(h:∀x,x∈l -> nh x)(hr:cV r ps):cV (f8 l++r) (v7 l++ps):=by
 have h1:=(Eb (fT:=eK) (fK:=rB) l (λx hx r ps hf hr=>(h x hx).lx hf hr) (Fin.cons (c:=41) V) (hr.free 41 V)).free 40 V;simpa [f8,v7] using h1
theorem nB{t:List UInt8}(ht:∀c∈t,isSp c=true)(hr:cV r ps):cV (t++r) ps:=by
 induction t with
 |nil=>exact hr
 |cons c q ih=>exact (ih λd hd=>ht d (dT _ hd)).sp (ht c (jm ..))
theorem cV.nl(h:cV r ps):cV (10::r) ps:=h.sp V
theorem cV.semi(h:cV r ps):cV (59::10::r) (dd [59]::ps):=h.nl.free 59 V
theorem cV.kw(h:cV r ps)(s:List UInt8)(hs:ee (bytes s)=true):cV (s++32::r) (ju s::ps):=h.bl.word s hs (.cons V)
end
def fp.lx{d:Nat}{l:List aL}(h:fp d l):∀(tabs r:List UInt8)(ps:List dK),(∀c∈tabs,isSp c=true) -> cV r ps -> cV (bH tabs l++r) (fF l++ps):=by
 have f59:∀q,Fin (59::q):=λq=>Fin.cons V;induction h with
 |nil=>intro tabs r ps _ hr;exact hr
 |@var d n e q hn he h ih=>
  intro tabs r ps ht hr;have h0:=ih tabs r ps ht hr;have h1:=((((he.lx (f59 _) h0.semi).bl.one' 61 V (Fin.cons V)).bl.name n hn (.cons V)).kw [118,97,114] V);simpa [bH,dQ,fF,i_,gh] using nB ht h1
 |@assign d n e q hn he h ih=>
  intro tabs r ps ht hr;have h0:=ih tabs r ps ht hr;have h1:=(((he.lx (f59 _) h0.semi).bl.one' 61 V (Fin.cons V)).bl.name n hn (.cons V));simpa [bH,dQ,fF,i_,gh] using nB ht h1
 |@call d n a q hn ha h ih=>
  intro tabs r ps ht hr;have h0:=ih tabs r ps ht hr;have h1:=((IY ha h0.semi).name n hn (Mv (by simp [f8]) KT));simpa [bH,dQ,fF,i_,gh] using nB ht h1
 |@go d n a q hn ha h ih=>
  intro tabs r ps ht hr;have h0:=ih tabs r ps ht hr;have h1:=(((IY ha h0.semi).name n hn (Mv (by simp [f8]) KT)).kw [103,111] V);simpa [bH,dQ,fF,i_,gh] using nB ht h1
 |@lock d f q hf h ih=>
  intro tabs r ps ht hr;have h0:=ih tabs r ps ht hr;have h1:=((hf.lx (f59 _) h0.semi).kw [108,111,99,107] V);simpa [bH,dQ,fF,i_,gh] using nB ht h1
 |@unlock d f q hf h ih=>
  intro tabs r ps ht hr;have h0:=ih tabs r ps ht hr;have h1:=((hf.lx (f59 _) h0.semi).kw [117,110,108,111,99,107] V);simpa [bH,dQ,fF,i_,gh] using nB ht h1
 |@cond d e t f q he htt hff h iht ihf ih=>
  intro tabs r ps ht hr;have h0:=(ih tabs r ps ht hr).nl;have ht2:∀c∈tabs++[9],isSp c=true:=by
   intro c hc;rcases mem_append.1 hc with hc|hc
   ·exact ht c hc
   simp at hc;subst hc;decide
  have h2:cV ((if f.length=0 then [] else [32,101,108,115,101,32,123,10]++bH (tabs++[9]) f++tabs++[125])++10::(bH tabs q++r)) ((if f.length=0 then [] else ju [101,108,115,101]::dd [123]::(fF f++[dd [125]]))++(fF q++ps)):=by
   by_cases hz:f.length=0
   ·rw [if_pos hz,if_pos hz];exact h0
   rw [if_neg hz,if_neg hz];have h3:=((ihf (tabs++[9]) _ _ ht2 (nB ht (h0.free 125 V))).nl.free 123 V).kw [101,108,115,101] V;simpa using h3.bl
  have h4:=((iht (tabs++[9]) _ _ ht2 (nB ht (h2.free 125 V))).nl.free 123 V).bl;have h5:=(he.lx (Fin.cons V) h4).kw [105,102] V;have h6:=nB ht h5;rw [bH,dQ,fF,i_];simpa using h6
 |@loop d e t q he htt h iht ih=>
  intro tabs r ps ht hr;have h0:=(ih tabs r ps ht hr).nl;have ht2:∀c∈tabs++[9],isSp c=true:=by
   intro c hc;rcases mem_append.1 hc with hc|hc
   ·exact ht c hc
   simp at hc;subst hc;decide
  have h4:=((iht (tabs++[9]) _ _ ht2 (nB ht (h0.free 125 V))).nl.free 123 V).bl;have h5:=(he.lx (Fin.cons V) h4).kw [119,104,105,108,101] V;have h6:=nB ht h5;rw [bH,dQ,fF,i_];simpa using h6
 |@ret d q h ih=>
  intro tabs r ps ht hr;have h0:=ih tabs r ps ht hr;have h1:=h0.semi.word [114,101,116,117,114,110] V (.cons V);simpa [bH,dQ,fF,i_,gh] using nB ht h1
section
variable {l:List Tok}{k:Nat}
theorem Seg.len{ps:List dK}(h:Seg l k ps)(hk:k <= l.length):k+ps.length <= l.length:=by
 obtain ⟨t,ht⟩:=h;have:=congrArg List.length ht;simp at this;omega
theorem Vg{s:List UInt8}(h:(dM l k).pt=ju s)(u:List UInt8):fu l k u=decide (bytes s=bytes u):=by
 have h1:(dM l k).kind=3:=congrArg dK.kind h;have h2:(dM l k).text=bytes s:=congrArg dK.text h;unfold fu;rw [h1,h2];simp
theorem VR{t:dK}(h:(dM l k).pt=t)(ht:t.kind≠3)(u:List UInt8):fu l k u=false:=by
 have h1:(dM l k).kind=t.kind:=congrArg dK.kind h;unfold fu;rw [h1,decide_eq_false ht];rfl
def zl(t:dK):Prop:=t.kind=1∨t.kind=2∨∃c,t=dd [c] /\ c∈([45,33,40]:List UInt8)
theorem zl.word{t:dK}(h:zl t):t.kind≠3:=by
 rcases h with h|h|⟨c,rfl,_⟩
 ·omega
 ·omega
 show (4:Nat)≠3;omega
theorem je.beg{e:aP}(h:je e):∃t q,dy e=t::q /\ zl t:=by
 induction h with
 |num n h=>exact ⟨_,_,DD n,.inr (.inl rfl)⟩
 |name s h=>exact ⟨_,_,DU s,.inl rfl⟩
 |un op x h hx ih=>
  refine ⟨_,_,Cd h x,.inr (.inr ⟨_,J,?_⟩)⟩;rcases h with rfl|rfl<;>decide
 |bin op x y h hx hy ihx ihy=>
  rw [Bb h];cases gX op 0 x.op with
  |true=>exact ⟨_,_,rfl,.inr (.inr ⟨40,rfl,V⟩)⟩
  |false=>
   obtain ⟨t,q,h1,h2⟩:=ihx;exact ⟨t,_,by show dy x++_=_;rw [h1];rfl,h2⟩
theorem nh.beg{a:cK}(h:nh a):∃t q,rB a=t::q /\ (t.kind=3∨zl t):=by
 cases h with
 |mutex f h=>exact ⟨_,_,rfl,.inl rfl⟩
 |expr e h=>
  obtain ⟨t,q,h1,h2⟩:=h.1.beg;exact ⟨t,q,h1,.inr h2⟩
end
section
variable {P:Program}{U:List Nat}{o:Oper}{st:AS}
theorem cF{t yt:bA}{x y:bc}{v w:aG}(a b:List UInt8)(ho:o.op=.binOp .add t x y yt)(hx:ay st x=some (.c (.val (.string v))))(hy:ay st y=some (.c (.val (.string w))))(hv:v=bytes a)(hw:w=bytes b)
  (hl:a.length+b.length<=9223372036854775807:=by first|omega|((try simp only [Cf,wE,List.length_nil,List.length_replicate]);omega)|grind):cf P U o st (.c (.val (.string (bytes (a++b))))):=pe a b ho hx hy hv hw hl
end
end
end Go.Proofs.YtjgeihmhppadaaaGreatDoor
