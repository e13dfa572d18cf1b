import Derived.Test.YtojinfngbbajgaaGreatDoorR11J
import Derived.Test.YtojinfngbbajgaaGreatDoorR8J
import Derived.Test.YtojinfngbbajgaaGreatDoorR1J
import Derived.Test.YtojinfngbbajgaaGreatDoorR21J
import Derived.Test.YtojinfngbbajgaaGreatDoorR12J
import Derived.Test.YtojinfngbbajgaaGreatDoorR18J
import Derived.Test.YtojinfngbbajgaaGreatDoorR22J
set_option linter.all false
set_option synthInstance.maxHeartbeats 1000000
set_option synthInstance.maxSize 1000000
namespace Go.Proofs.YtojinfngbbajgaaGreatDoor
open List (length_append length_cons length_nil mem_append mem_cons not_mem_nil append_assoc getElem_mem take_of_length_le)
section
structure GT (t:Tok):Prop where
 name:t.kind=1 -> bQ t.text=true
 num:t.num <= 9223372036854775807
def bX1(t:Nat)(x:aH):Nat:=if aM x.op<t then 1 else 0
theorem bZi{t t':Nat}(h:t' <= t)(x:aH):bX1 t' x <= bX1 t x:=by unfold bX1;split<;>split<;>omega
theorem bZg(t:Nat)(x:aH):bX1 t x <= 1:=by unfold bX1;split<;>omega
theorem bYg(x:aH):bX1 0 x=0:=by unfold bX1;rw [if_neg (by omega)]
structure Inv (t d:Nat) (x:aH) (n:Nat):Prop where
 ve:VE x
 high:dI x+bX1 t x <= d
 few:(aT x).length+2*bX1 t x <= n
theorem Inv.mono{t t' d d' n n':Nat}{x:aH}(h:Inv t d x n)(ht:t' <= t)(hd:d <= d')(hn:n <= n'):Inv t' d' x n':=by
 have:=bZi ht x
 exact ⟨h.ve,by have:=h.high;omega,by have:=h.few;omega⟩
theorem bXy(b:Bool)(l:List PT):(mF b l).length=l.length+2*(if b then 1 else 0):=by cases b<;>simp [mF]
theorem bYh{op:Int}{k s t:Nat}(x:aH)(hs:aM op=s)(ht:t=if k=1 then s+1 else s):(if cV op k x.op then 1 else 0)=bX1 t x:=by
 unfold cV bX1
 by_cases hk:k=1
 ·rw [if_pos hk] at ht
  by_cases h:aM x.op<t
  ·rw [if_pos h,decide_eq_true (by omega)];rfl
  rw [if_neg h,decide_eq_false (by omega)];rfl
 rw [if_neg hk] at ht
 by_cases h:aM x.op<t
 ·rw [if_pos h,decide_eq_true (by omega)];rfl
 rw [if_neg h,decide_eq_false (by omega)];rfl
theorem Inv.un{op:Int}{d n:Nat}{x:aH}(h:op=3∨op=4)(i:Inv 5 d x n):Inv 5 (d+1) (.mk op 0 aK [x]) (n+1):=by
 have hs:aM op=5:=by rcases h with rfl|rfl<;>rfl
 have hp:=bYh (k:=0) (t:=5) x hs rfl
 have h0:bX1 5 (.mk op 0 aK [x])=0:=by unfold bX1;rw [if_neg (by show ¬aM op<5;omega)]
 refine ⟨.un op x h i.ve,?_,?_⟩
 ·rw [aJb h,hp,h0];have:=i.high;omega
 rw [yB h,length_cons,bXy,hp,h0];have:=i.few;omega
theorem Inv.bin{op:Int}{d n m s:Nat}{x y:aH}(h:5 <= op /\ op <= 17)(hs:aM op=s)(ix:Inv s d x n)(iy:Inv (s+1) d y m):Inv s d (.mk op 0 aK [x,y]) (n+1+m):=by
 have h1:=bYh (k:=0) (t:=s) x hs rfl
 have h2:=bYh (k:=1) (t:=s+1) y hs rfl
 have h0:bX1 s (.mk op 0 aK [x,y])=0:=by unfold bX1;rw [if_neg (by show ¬aM op<s;omega)]
 refine ⟨.bin op x y h ix.ve iy.ve,?_,?_⟩
 ·rw [aGo h,h1,h2,h0];have:=ix.high;have:=iy.high;omega
 rw [uI h,length_append,length_cons,bXy,bXy,h1,h2,h0];have:=ix.few;have:=iy.few;omega
theorem bZf{α:Type}{c:Prop}[Decidable c]{a b:α}{L:List α}(ha:a∈L)(hb:b∈L):(if c then a else b)∈L:=by
 by_cases h:c
 ·rw [if_pos h];exact ha
 rw [if_neg h];exact hb
theorem bZh(s:ByteArray):(binOp s).2=0∨(5 <= (binOp s).1 /\ (binOp s).1 <= 17 /\ aM ((binOp s).1:Int)+1=(binOp s).2):=by
 have key:∀p:Nat×Nat,p∈[(17,1),(16,2),(14,3),(15,3),(10,3),(11,3),(12,3),(13,3),(8,4),(9,4),(5,5),(6,5),(7,5),(0,0)] -> p.2=0∨(5 <= p.1 /\ p.1 <= 17 /\ aM (p.1:Int)+1=p.2):=by decide
 refine key _ ?_
 unfold binOp
 iterate 13 refine bZf (by decide) ?_
 decide
section
variable {l:List Tok}
theorem bYt{sub:Nat -> bN aH}{d s:Nat}(hsub:∀k x k',sub k=.ok x k' -> k <= k' /\ Inv (s+1) d x (k'-k)):∀(n:Nat)(x:aH)(k:Nat)(x':aH)(k' m:Nat),fR l sub (s+1) n x k=.ok x' k' -> Inv s d x m -> k <= k' /\ Inv s d x' (m+(k'-k))
 |0,x,k,x',k',m,h,i=>by
  unfold fR at h;cases h;exact ⟨Nat.le_refl _,i.mono (Nat.le_refl _) (Nat.le_refl _) (by omega)⟩
 |n+1,x,k,x',k',m,h,i=>by
  unfold fR at h
  split at h
  ·rename_i hc
   cases hb:sub (k+1) with
   |err a e=>rw [hb] at h;cases h
   |ok y k1=>
    rw [hb] at h
    obtain ⟨g1,g2⟩:=hsub _ _ _ hb
    have ho:=(bZh (bU l k).text).resolve_left (by omega)
    have i2:=i.bin (op:=((binOp (bU l k).text).1:Int)) (by omega) (by have:=ho.2.2;omega) g2
    obtain ⟨g3,g4⟩:=bYt hsub n _ k1 x' k' _ h i2
    exact ⟨by omega,g4.mono (Nat.le_refl _) (Nat.le_refl _) (by omega)⟩
  cases h;exact ⟨Nat.le_refl _,i.mono (Nat.le_refl _) (Nat.le_refl _) (by omega)⟩
theorem bYc{single:Nat -> bN aH}{d:Nat}(hs:∀k x k',single k=.ok x k' -> k <= k' /\ Inv 5 d x (k'-k)):∀(j:Nat),j <= 5 -> ∀k x k',gS l single j k=.ok x k' -> k <= k' /\ Inv (5-j) d x (k'-k)
 |0,_,k,x,k',h=>hs k x k' h
 |j+1,hj,k,x,k',h=>by
  unfold gS at h
  cases hb:gS l single j k with
  |err a e=>rw [hb] at h;cases h
  |ok y k1=>
   rw [hb] at h
   obtain ⟨g1,g2⟩:=bYc hs j (by omega) _ _ _ hb
   have e:5-j=(5-(j+1))+1:=by omega
   rw [e] at h
   obtain ⟨g3,g4⟩:=bYt (s:=5-(j+1)) (fun k x k' hk=>by have:=bYc hs j (by omega) k x k' hk;rwa [e] at this) _ _ _ _ _ _ h (g2.mono (by omega) (Nat.le_refl _) (Nat.le_refl _))
   exact ⟨by omega,g4.mono (Nat.le_refl _) (Nat.le_refl _) (by omega)⟩
variable (hG:∀k,GT (bU l k))
include hG
theorem bZa(d k:Nat):Inv 5 d (.mk 1 (bU l k).num aK []) 1:=by
 refine ⟨.num _ (hG k).num,?_,?_⟩
 ·show dI _+bX1 5 _ <= d
  rw [show bX1 5 (.mk 1 ((bU l k).num:Int) aK [])=0 from rfl];simp [dI,bSm,aM]
 rw [uO,show bX1 5 (.mk 1 ((bU l k).num:Int) aK [])=0 from rfl];simp
theorem bY1(d k:Nat)(h:(bU l k).kind=1):Inv 5 d (.mk 2 0 (bU l k).text []) 1:=by
 refine ⟨.name _ ((hG k).name h),?_,?_⟩
 ·rw [show bX1 5 (.mk 2 0 (bU l k).text [])=0 from rfl];simp [dI,bSm,aM]
 rw [sC,show bX1 5 (.mk 2 0 (bU l k).text [])=0 from rfl];simp
theorem bX2:∀(d k:Nat)(x:aH)(k':Nat),bL l d k=.ok x k' -> k <= k' /\ Inv 5 d x (k'-k)
 |0,k,x,k',h=>by
  unfold bL at h
  split at h
  ·cases h;exact ⟨by omega,(bZa hG 0 k).mono (Nat.le_refl _) (Nat.le_refl _) (by omega)⟩
  ·split at h
   ·rename_i h1;cases h;exact ⟨by omega,(bY1 hG 0 k h1).mono (Nat.le_refl _) (Nat.le_refl _) (by omega)⟩
   ·split at h<;>cases h
 |d+1,k,x,k',h=>by
  have neg:∀op:Int,op=3∨op=4 -> aKc op (bL l d (k+1))=.ok x k' -> k <= k' /\ Inv 5 (d+1) x (k'-k):=fun op hop h=>by
   cases hb:bL l d (k+1) with
   |err a e=>rw [hb] at h;cases h
   |ok y k1=>
    rw [hb] at h
    obtain ⟨g1,g2⟩:=bX2 d _ _ _ hb
    unfold aKc at h;cases h
    exact ⟨by omega,(g2.un hop).mono (Nat.le_refl _) (Nat.le_refl _) (by omega)⟩
  unfold bL at h
  split at h
  ·cases h;exact ⟨by omega,(bZa hG _ k).mono (Nat.le_refl _) (Nat.le_refl _) (by omega)⟩
  split at h
  ·rename_i h1;cases h;exact ⟨by omega,(bY1 hG _ k h1).mono (Nat.le_refl _) (Nat.le_refl _) (by omega)⟩
  split at h
  ·exact neg 3 (.inl rfl) h
  split at h
  ·exact neg 4 (.inr rfl) h
  split at h
  ·cases hb:gS l (bL l d) 5 (k+1) with
   |err a e=>rw [hb] at h;cases h
   |ok y k1=>
    rw [hb] at h
    obtain ⟨g1,g2⟩:=bYc (fun k x k'=>bX2 d k x k') 5 (Nat.le_refl _) _ _ _ hb
    unfold aHo at h
    dsimp only at h
    split at h
    ·cases h
     have hp:=bZg 5 x
     refine ⟨by omega,g2.ve,?_,?_⟩
     ·have:=g2.high;rw [bYg] at this;omega
     have:=g2.few;rw [bYg] at this;omega
    cases h
  ·cases h
theorem bX0{k:Nat}{x:aH}{k':Nat}(h:lJ l k=.ok x k'):k <= k' /\ VE x /\ dI x <= 24 /\ (aT x).length <= k'-k:=by
 obtain ⟨g1,g2⟩:=bYc (fun k x k'=>bX2 hG 24 k x k') 5 (Nat.le_refl _) _ _ _ h
 have h1:=g2.high
 have h2:=g2.few
 rw [bYg] at h1 h2
 exact ⟨g1,g2.ve,by omega,by omega⟩
end
end
section
inductive eT (names:List ByteArray):Nat -> aH -> Prop
 |name {d:Nat} {x:ByteArray} (h:x∈names):eT names d (.mk 2 0 x [])
 |num {d:Nat} {n:Int} (h0:0 <= n) (h1:n<4611686018427387904):eT names d (.mk 1 n aK [])
 |un {d:Nat} {op:Int} {e:aH} (ho:op=3∨op=4) (he:eT names d e):eT names (d+1) (.mk op 0 aK [e])
 |bin {d:Nat} {op:Int} {a b:aH} (h0:5 <= op) (h1:op <= 17) (ha:eT names d a) (hb:eT names d b):eT names (d+1) (.mk op 0 aK [a,b])
theorem eT.mono{names:List ByteArray}{d d':Nat}{e:aH}(h:eT names d e)(hd:d <= d'):eT names d' e:=by
 induction h generalizing d' with
 |name h=>exact .name h
 |num h0 h1=>exact .num h0 h1
 |@un d op e ho he ih=>
  obtain ⟨k,rfl⟩:∃k,d'=k+1:=⟨d'-1,by omega⟩
  exact .un ho (ih (by omega))
 |@bin d op a b h0 h1 ha hb iha ihb=>
  obtain ⟨k,rfl⟩:∃k,d'=k+1:=⟨d'-1,by omega⟩
  exact .bin h0 h1 (iha (by omega)) (ihb (by omega))
inductive uA (ms:List cL) (ps:List aS) (vars:List ByteArray):cY -> Prop
 |arr {m:cL} {e:aH} (hm:m∈ms) (hs:0<m.size) (he:eT vars 1 e):uA ms ps vars ⟨m.name,[e]⟩
 |scalar {m:cL} (hm:m∈ms) (hs:m.size <= 0):uA ms ps vars ⟨m.name,[]⟩
 |param {x:aS} (hx:x∈ps) (hm:x.mutex=true):uA ms ps vars ⟨x.name,[]⟩
inductive nB (ms:List cL) (ps:List aS) (vars:List ByteArray):List aS -> List eN -> Prop
 |nil:nB ms ps vars [] []
 |mutex {x:aS} {l:List aS} {asl:List eN} {r:cY} (hx:x.mutex=true) (hr:uA ms ps vars r) (h:nB ms ps vars l asl):nB ms ps vars (x::l) (⟨true,r,.zero⟩::asl)
 |expr {x:aS} {l:List aS} {asl:List eN} {e:aH} (hx:x.mutex=false) (he:eT vars 2 e) (h:nB ms ps vars l asl):nB ms ps vars (x::l) (⟨false,.zero,e⟩::asl)
def cM(left:Nat):ByteArray:=bytes [118,UInt8.ofNat (97+left%26),UInt8.ofNat (97+left/26%26)]
abbrev Sig:=ByteArray×List aS
inductive dJ (ms:List cL) (fs:List Sig) (ps:List aS):List ByteArray -> Nat -> Nat -> List aJ -> Nat -> Prop
 |nil {vars:List ByteArray} {deep left:Nat}:dJ ms fs ps vars deep left [] left
 |lock {vars:List ByteArray} {deep left left':Nat} {r:cY} {rest:List aJ} (hr:uA ms ps vars r) (h:dJ ms fs ps vars deep left rest left'):
   dJ ms fs ps vars deep (left+1) (.mk 5 aK .zero r [] [] []::rest) left'
 |unlock {vars:List ByteArray} {deep left left':Nat} {r:cY} {rest:List aJ} (hr:uA ms ps vars r) (h:dJ ms fs ps vars deep left rest left'):
   dJ ms fs ps vars deep (left+1) (.mk 6 aK .zero r [] [] []::rest) left'
 |var {vars:List ByteArray} {deep left left':Nat} {e:aH} {rest:List aJ} (he:eT vars 2 e) (h:dJ ms fs ps (vars++[cM left]) deep left rest left'):
   dJ ms fs ps vars deep (left+1) (.mk 1 (cM left) e .zero [] [] []::rest) left'
 |assign {vars:List ByteArray} {deep left left':Nat} {x:ByteArray} {e:aH} {rest:List aJ} (hx:x∈vars) (he:eT vars 2 e) (h:dJ ms fs ps vars deep left rest left'):
   dJ ms fs ps vars deep (left+1) (.mk 2 x e .zero [] [] []::rest) left'
 |call {vars:List ByteArray} {deep left left':Nat} {k:Int} {g:Sig} {asl:List eN} {rest:List aJ} (hk:k=3∨k=4) (hg:g∈fs) (ha:nB ms ps vars g.2 asl) (h:dJ ms fs ps vars deep left rest left'):
   dJ ms fs ps vars deep (left+1) (.mk k g.1 .zero .zero asl [] []::rest) left'
 |cond {vars:List ByteArray} {deep left l1 l2 left':Nat} {e:aH} {thn els rest:List aJ} (he:eT vars 2 e) (ht:dJ ms fs ps vars deep left thn l1) (hel:dJ ms fs ps vars deep l1 els l2) (h:dJ ms fs ps vars (deep+1) l2 rest left'):
   dJ ms fs ps vars (deep+1) (left+1) (.mk 7 aK e .zero [] thn els::rest) left'
 |loop {vars:List ByteArray} {deep left l1 left':Nat} {e:aH} {thn rest:List aJ} (he:eT vars 2 e) (ht:dJ ms fs ps vars deep left thn l1) (h:dJ ms fs ps vars (deep+1) l1 rest left'):
   dJ ms fs ps vars (deep+1) (left+1) (.mk 8 aK e .zero [] thn []::rest) left'
 |ret {vars:List ByteArray} {deep left left':Nat} {rest:List aJ} (h:dJ ms fs ps vars deep left rest left'):
   dJ ms fs ps vars deep (left+1) (.mk 9 aK .zero .zero [] [] []::rest) left'
 |pair {vars:List ByteArray} {deep left l1 left':Nat} {r:cY} {mid rest:List aJ} (hr:uA ms ps vars r) (hm:dJ ms fs ps vars 0 left mid l1) (h:dJ ms fs ps vars deep l1 rest left'):
   dJ ms fs ps vars deep (left+1) (.mk 5 aK .zero r [] [] []::(mid++.mk 6 aK .zero r [] [] []::rest)) left'
theorem dJ.le{ms:List cL}{fs:List Sig}{ps:List aS}{vars:List ByteArray}{deep left left':Nat}{l:List aJ}(h:dJ ms fs ps vars deep left l left'):left' <= left:=by
 induction h<;>omega
def aDx(i:Nat)(m:cL):Prop:=m.name=bytes [UInt8.ofNat (97+i)] /\ ((m.reentrant=false /\ 0 <= m.size /\ m.size <= 3)∨(m.reentrant=true /\ m.size=0))
def aDa(i:Nat)(g:aI):Prop:=g.name=bytes [103,UInt8.ofNat (48+i)] /\ -2 <= g.init /\ g.init <= 2
def pM(l:List aS):Prop:=l.length <= 2 /\ ∀k (h:k<l.length),l[k].name=bytes [112,UInt8.ofNat (48+(l.length-k))]
def aMn(i:Nat)(f:bS):Prop:=(i=0 -> f.name=bytes [109,97,105,110] /\ f.params=[]) /\ (0<i -> f.name=bytes [102,UInt8.ofNat (48+i)]) /\ pM f.params
def bS.sig(f:bS):Sig:=(f.name,f.params)
def uS(gs:List aI)(ps:List aS):List ByteArray:=gs.map aI.name++(ps.filter fun x=>!x.mutex).map aS.name
inductive kZ (ms:List cL) (fs:List Sig) (gs:List aI):Nat -> List bS -> Prop
 |nil {left:Nat}:kZ ms fs gs left []
 |cons {left left':Nat} {f:bS} {l:List bS} (h:dJ ms fs f.params (uS gs f.params) 2 left f.body left') (hl:kZ ms fs gs left' l):kZ ms fs gs left (f::l)
structure sY (p:cK):Prop where
 mutexes:1 <= p.mutexes.length /\ p.mutexes.length <= 4 /\ ∀k (h:k<p.mutexes.length),aDx k p.mutexes[k]
 globals:p.globals.length <= 2 /\ ∀k (h:k<p.globals.length),aDa k p.globals[k]
 funcs:1 <= p.funcs.length /\ p.funcs.length <= 4 /\ ∀k (h:k<p.funcs.length),aMn k p.funcs[k]
 bodies:kZ p.mutexes (p.funcs.map bS.sig) p.globals 24 p.funcs
end
section
theorem dV{s:ByteArray}(h:bQ s=true):s.size <= 16:=by
 unfold bQ at h
 split at h
 ·cases h
 simp only [Bool.and_eq_true,decide_eq_true_eq] at h;exact h.1.2
theorem eT.nodes{names:List ByteArray}{d:Nat}{e:aH}(h:eT names d e):e.nodes+3 <= 4*2 ^ d:=by
 induction h with
 |@name d x h=>rw [aH.nodes,cZ];have:=Nat.one_le_two_pow (n:=d);omega
 |@num d n h0 h1=>rw [aH.nodes,cZ];have:=Nat.one_le_two_pow (n:=d);omega
 |@un d op e ho he ih=>rw [aH.nodes,cZ,cZ,Nat.pow_succ];have:=Nat.one_le_two_pow (n:=d);omega
 |@bin d op a b h0 h1 ha hb iha ihb=>rw [aH.nodes,cZ,cZ,cZ,Nat.pow_succ];have:=Nat.one_le_two_pow (n:=d);omega
theorem eT.tame{names:List ByteArray}{d:Nat}{e:aH}(hn:∀x,x∈names -> bQ x=true)(h:eT names d e):e.tame:=by
 induction h with
 |@name d x h=>rw [aH.tame];exact ⟨by decide,Nat.le_trans (dV (hn x h)) (by decide),by rw [oG];trivial⟩
 |@num d n h0 h1=>rw [aH.tame];exact ⟨by omega,by decide,by rw [oG];trivial⟩
 |@un d op e ho he ih=>rw [aH.tame];exact ⟨by decide,by decide,by rw [oG,oG];exact ⟨ih,trivial⟩⟩
 |@bin d op a b h0 h1 ha hb iha ihb=>rw [aH.tame];exact ⟨by decide,by decide,by rw [oG,oG,oG];exact ⟨iha,ihb,trivial⟩⟩
theorem sX{op:Int}(h0:5 <= op)(h1:op <= 17):aM op<5:=by
 unfold aM
 repeat' split
 all_goals omega
theorem aDj{op:Int}(h:op=3∨op=4):aM op=5:=by
 rcases h with rfl|rfl<;>rfl
theorem eT.shape{names:List ByteArray}{d:Nat}{e:aH}(hn:∀x,x∈names -> bQ x=true)(h:eT names d e):eO e=true:=by
 induction h with
 |@name d x h=>
  rw [eO,dY,show aM 2=6 from rfl,if_pos rfl,jG,arity,show aM 2=6 from rfl,if_pos rfl,hn x h];simp
 |@num d n h0 h1=>
  rw [eO,dY,show aM 1=6 from rfl,if_pos rfl,jG,arity,show aM 1=6 from rfl,if_pos rfl];simp [h0]
 |@un d op e ho he ih=>
  have hs:=aDj ho
  rw [eO,dY,dY,arity,hs,if_neg (by decide),if_neg (by decide),if_pos rfl,ih];simp
 |@bin d op a b h0 h1 ha hb iha ihb=>
  have hs:=sX h0 h1
  rw [eO,dY,dY,dY,arity,if_neg (by omega),if_neg (by omega),if_neg (by omega),iha,ihb];simp
theorem eT.height{names:List ByteArray}{d:Nat}{e:aH}(h:eT names d e):dI e <= 2*d:=by
 induction h with
 |@name d x h=>rw [dI,bSm,if_neg (by decide)];omega
 |@num d n h0 h1=>rw [dI,bSm,if_neg (by decide)];omega
 |@un d op e ho he ih=>rw [dI,bSm,bSm];split<;>split<;>omega
 |@bin d op a b h0 h1 ha hb iha ihb=>rw [dI,bSm,bSm,bSm];split<;>split<;>split<;>omega
theorem eT.valid{names:List ByteArray}{d:Nat}{e:aH}(hn:∀x,x∈names -> bQ x=true)(h:eT names d e)(hd:d <= 12):dM e=true:=by
 rw [dM,h.shape hn,Bool.true_and,decide_eq_true_eq];have:=h.height;omega
theorem eT.sane{names:List ByteArray}{d:Nat}{e:aH}(hn:∀x,x∈names -> bQ x=true)(h:eT names d e):e.sane:=by
 induction h with
 |@name d x h=>rw [aH.sane];exact ⟨by unfold fit;omega,Nat.le_trans (dV (hn x h)) (by decide),by rw [iI];trivial⟩
 |@num d n h0 h1=>rw [aH.sane];exact ⟨by unfold fit;omega,by decide,by rw [iI];trivial⟩
 |@un d op e ho he ih=>rw [aH.sane];exact ⟨by unfold fit;omega,by decide,by rw [iI,iI];exact ⟨ih,trivial⟩⟩
 |@bin d op a b h0 h1 ha hb iha ihb=>rw [aH.sane];exact ⟨by unfold fit;omega,by decide,by rw [iI,iI,iI];exact ⟨iha,ihb,trivial⟩⟩
theorem rQ{n:Int}(h0:-9223372036854775808 <= n)(h1:n <= 9223372036854775807):(eH n).length <= 21:=by
 have:=kC n.natAbs (by omega)
 unfold eH
 split<;>simp<;>omega
theorem eT.len{names:List ByteArray}{d:Nat}{e:aH}(hn:∀x,x∈names -> bQ x=true)(h:eT names d e):(aP e).length+10 <= 31*2 ^ d:=by
 induction h with
 |@name d x h=>
  have h1:=dV (hn x h)
  have h2:x.data.toList.length=x.size:=rfl
  rw [aP,iX,if_neg (by decide),if_pos rfl];have:=Nat.one_le_two_pow (n:=d);omega
 |@num d n h0 h1=>
  have:=rQ (n:=n) (by omega) (by omega)
  rw [aP,iX,if_pos rfl];have:=Nat.one_le_two_pow (n:=d);omega
 |@un d op e ho he ih=>
  rw [aP,dP,dP,Nat.pow_succ]
  have hl:∀x:List UInt8,(iX op 0 aK [x]).length=x.length+1:=by
   intro x;rcases ho with rfl|rfl<;>simp [iX]
  rw [hl]
  have:=Nat.one_le_two_pow (n:=d)
  split
  ·simp only [length_append,length_cons,length_nil];omega
  ·omega
 |@bin d op a b h0 h1 ha hb iha ihb=>
  rw [aP,dP,dP,dP,Nat.pow_succ]
  have hs:=sX h0 h1
  have ho:=aAr op
  have hl:∀x y:List UInt8,(iX op 0 aK [x,y]).length=x.length+1+(iW op).length+1+y.length:=by
   intro x y;rw [iX,if_neg (by omega),if_neg (by omega),if_neg (by omega),if_neg (by omega),if_pos hs];simp;omega
  rw [hl]
  split<;>split<;>(try simp only [length_append,length_cons,length_nil])<;>omega
end
section
theorem eT.ve{names:List ByteArray}{d:Nat}{e:aH}(hn:∀x,x∈names -> bQ x=true)(h:eT names d e):VE e:=by
 induction h with
 |@name d x h=>exact .name x (hn x h)
 |@num d n h0 h1=>
  obtain ⟨k,rfl⟩:∃k:Nat,n=k:=⟨n.toNat,by omega⟩
  exact .num k (by omega)
 |@un d op e ho he ih=>exact .un op e ho ih
 |@bin d op a b h0 h1 ha hb iha ihb=>exact .bin op a b ⟨h0,h1⟩ iha ihb
end
section
theorem aH.zero_sane:aH.zero.sane:=by unfold aH.zero;rw [aH.sane];exact ⟨by unfold fit;omega,by decide,by rw [iI];trivial⟩
theorem cY.zero_sane:cY.zero.sane:=⟨by decide,by show iI [];rw [iI];trivial⟩
theorem aH.zero_nodes:aH.zero.nodes=1:=by unfold aH.zero;rw [aH.nodes,cZ]
theorem cY.zero_wt:cY.zero.wt=1:=by unfold cY.wt cY.zero;rw [cZ]
def lC(l:List ByteArray):Prop:=∀x,x∈l -> bQ x=true
theorem mQ:bLg .zero=true:=by simp [bLg,aH.zero,aH.op,aH.num,aH.name,aH.args]
theorem jN:kM .zero=true:=by simp [kM,cY.zero]
section
variable {ms:List cL}{fs:List Sig}{ps:List aS}
theorem uA.ok{vars:List ByteArray}{r:cY}(hm:∀m,m∈ms -> bQ m.name=true)(hp:∀x,x∈ps -> bQ x.name=true)(hv:lC vars)(h:uA ms ps vars r):
  okRefB r=true /\ (r.sane /\ r.wt <= 7) /\ (dC r).length <= 70:=by
 have size:∀x:ByteArray,bQ x=true -> x.data.toList.length <= 16:=fun x h=>dV h
 cases h with
 |@arr m e h1 h2 he=>
  have hl:=he.len hv
  have:=size _ (hm m h1)
  refine ⟨by show (bQ m.name && dM e)=true;rw [hm m h1,he.valid hv (by omega)];rfl,⟨⟨Nat.le_trans (dV (hm m h1)) (by decide),by show iI [e];rw [iI,iI];exact ⟨he.sane hv,trivial⟩⟩,by have:=he.nodes;unfold cY.wt;show 1+cZ [e] <= 7;rw [cZ,cZ];omega⟩,?_⟩
  ·simp only [dC,length_append,length_cons,length_nil];omega
 |@scalar m h1 h2=>
  have:=size _ (hm m h1)
  exact ⟨by show (bQ m.name && true)=true;rw [hm m h1];rfl,⟨⟨Nat.le_trans (dV (hm m h1)) (by decide),by show iI [];rw [iI];trivial⟩,by unfold cY.wt;show 1+cZ [] <= 7;rw [cZ];omega⟩,by simp only [dC];omega⟩
 |@param x h1 h2=>
  have:=size _ (hp x h1)
  exact ⟨by show (bQ x.name && true)=true;rw [hp x h1];rfl,⟨⟨Nat.le_trans (dV (hp x h1)) (by decide),by show iI [];rw [iI];trivial⟩,by unfold cY.wt;show 1+cZ [] <= 7;rw [cZ];omega⟩,by simp only [dC];omega⟩
theorem nO{α:Type}(f:α -> List UInt8)(x:α)(l:List α):(bW f (x::l)).length <= (f x).length+2+(bW f l).length:=by
 cases l with
 |nil=>simp [bW]
 |cons y r=>simp [bW];omega
theorem nB.ok{vars:List ByteArray}{l:List aS}{al:List eN}(hm:∀m,m∈ms -> bQ m.name=true)(hp:∀x,x∈ps -> bQ x.name=true)(hv:lC vars)(h:nB ms ps vars l al):
  al.all fY=true /\ ((∀a,a∈al -> a.sane) /\ wtA al <= 15*l.length) /\ al.length=l.length /\ (bW dE al).length <= 122*l.length:=by
 induction h with
 |nil=>exact ⟨rfl,⟨(fun a h=>by simp at h),by rw [wtA];simp⟩,rfl,by simp [bW]⟩
 |@mutex x l al r hx hr h ih=>
  obtain ⟨i1,i2,i3,i4⟩:=ih
  obtain ⟨h1,h2,h3⟩:=hr.ok hm hp hv
  refine ⟨by rw [List.all_cons,i1,fY,if_pos rfl,h1,mQ];rfl,⟨?_,?_⟩,by simp [i3],?_⟩
  ·intro a ha
   rcases mem_cons.1 ha with rfl|ha
   ·exact ⟨h2.1,aH.zero_sane⟩
   exact i2.1 a ha
  ·have:=i2.2;have:=h2.2;rw [wtA];unfold eN.wt;rw [aH.zero_nodes,length_cons];show 1+r.wt+1+wtA al <= _;omega
  ·have:=nO dE ⟨true,r,.zero⟩ al
   have h4:(dE ⟨true,r,.zero⟩).length=6+(dC r).length:=by simp [dE];omega
   rw [length_cons];omega
 |@expr x l al e hx he h ih=>
  obtain ⟨i1,i2,i3,i4⟩:=ih
  have hl:=he.len hv
  refine ⟨by rw [List.all_cons,i1,fY,if_neg (by simp),jN,he.valid hv (by omega)];rfl,⟨?_,?_⟩,by simp [i3],?_⟩
  ·intro a ha
   rcases mem_cons.1 ha with rfl|ha
   ·exact ⟨cY.zero_sane,he.sane hv⟩
   exact i2.1 a ha
  ·have:=i2.2;have:=he.nodes;rw [wtA];unfold eN.wt;rw [cY.zero_wt,length_cons];show 1+1+e.nodes+wtA al <= _;omega
  have:=nO dE ⟨false,.zero,e⟩ al
  have h4:(dE ⟨false,.zero,e⟩).length=(aP e).length:=by simp [dE]
  rw [length_cons];omega
theorem aAe:∀left,left<24 -> bQ (cM left)=true:=by
 intro left h
 have:(List.range 24).all (fun k=>bQ (cM k))=true:=by kernel_rfl
 exact List.all_eq_true.1 this left (List.mem_range.2 h)
end
theorem qL(D:Nat)(hD:D<24):∀(a b:List aJ),bM D (a++b)=(bM D a && bM D b)
 |[],b=>by rw [List.nil_append,bM,decide_eq_true hD,Bool.true_and]
 |s::r,b=>by rw [List.cons_append,bM,bM,qL D hD r b,Bool.and_assoc]
theorem uJ:∀(a b:List aJ),gC (a++b)↔gC a /\ gC b
 |[],b=>by rw [List.nil_append,gC];simp
 |s::r,b=>by rw [List.cons_append,gC,gC,uJ r b,and_assoc]
theorem aAn:∀(a b:List aJ),wtS (a++b)=wtS a+wtS b
 |[],b=>by rw [List.nil_append,wtS];omega
 |s::r,b=>by rw [List.cons_append,wtS,wtS,aAn r b];omega
theorem qZ:gC []:=by rw [gC];trivial
structure SOk (D:Nat) (tabs:List UInt8) (n:Nat) (s:aJ):Prop where
 ok:bK9 D s=true
 sane:s.sane
 wt:s.wt <= 60*n
 len:(bY tabs s).length <= 700*n
structure LOk (D:Nat) (tabs:List UInt8) (n:Nat) (l:List aJ):Prop where
 ok:bM D l=true
 sane:gC l
 wt:wtS l <= 60*n
 len:(aC tabs l).length <= 700*n
theorem LOk.cons{D n m k:Nat}{tabs:List UInt8}{s:aJ}{l:List aJ}(h:SOk D tabs n s)(hl:LOk D tabs m l)(hk:n+m <= k):LOk D tabs k (s::l):=
 ⟨by rw [bM,h.ok,hl.ok];rfl,by rw [gC];exact ⟨h.sane,hl.sane⟩,by rw [wtS];have:=h.wt;have:=hl.wt;omega,by rw [aC,length_append];have:=h.len;have:=hl.len;omega⟩
theorem LOk.cons'{D n m k:Nat}{tabs:List UInt8}{s:aJ}{l:List aJ}(hl:LOk D tabs m l)(h:SOk D tabs n s)(hk:n+m <= k):LOk D tabs k (s::l):=LOk.cons h hl hk
theorem LOk.nil{D n:Nat}{tabs:List UInt8}(hD:D<24):LOk D tabs n []:=
 ⟨by rw [bM];exact decide_eq_true hD,by rw [gC];trivial,by rw [wtS];omega,by rw [aC];simp⟩
section
variable {ms:List cL}{fs:List Sig}{ps:List aS}
theorem SOk.of{D n:Nat}{tabs:List UInt8}{k:Int}{name:ByteArray}{e:aH}{r:cY}{al:List eN}{t el:List aJ}
  (h0:1 <= k /\ k <= 9) (h1:(if 1 <= k /\ k <= 4 then bQ name else decide (name=aK))=true) (h2:(if k=1∨k=2∨k=7∨k=8 then dM e else bLg e)=true)
  (h3:(if k=5∨k=6 then okRefB r else kM r)=true) (h4:(decide (k=3∨k=4)||decide (al.length=0))=true) (h5:al.all fY=true)
  (h6:(if k=7∨k=8 then bM (D+1) t else decide (t.length=0))=true) (h7:(decide (el.length=0)||(decide (k=7) && bM (D+1) el))=true)
  (hf:(aJ.mk k name e r al t el).sane) (hc:(aJ.mk k name e r al t el).wt <= 60*n) (hl:(bY tabs (.mk k name e r al t el)).length <= 700*n):SOk D tabs n (.mk k name e r al t el):=
 ⟨by rw [bK9,decide_eq_true h0,h1,h2,h3,h4,h5,h6,h7];rfl,hf,hc,hl⟩
theorem aAo{x:ByteArray}(h:bQ x=true):x.data.toList.length <= 16:=dV h
theorem yA{D:Nat}{tabs:List UInt8}{vars:List ByteArray}{k:Int}{r:cY}(hk:k=5∨k=6)(ht:tabs.length <= 4)(hm:∀m,m∈ms -> bQ m.name=true)(hp:∀x,x∈ps -> bQ x.name=true)(hv:lC vars)(h:uA ms ps vars r):
  SOk D tabs 1 (.mk k aK .zero r [] [] []) /\ (bY tabs (.mk k aK .zero r [] [] [])).length <= 90:=by
 obtain ⟨h1,h2,h3⟩:=h.ok hm hp hv
 have hl:(bY tabs (.mk k aK .zero r [] [] [])).length <= 90:=by
  rw [bY]
  rcases hk with rfl|rfl<;>simp<;>omega
 refine ⟨SOk.of (by omega) (by rw [if_neg (by omega)];exact decide_eq_true rfl) (by rw [if_neg (by omega)];exact mQ) (by rw [if_pos hk];exact h1) (by simp) rfl (by rw [if_neg (by omega)];rfl) (by simp) ?_ ?_ (by omega),hl⟩
 ·rw [aJ.sane];exact ⟨by decide,aH.zero_sane,h2.1,(fun a ha=>by cases ha),qZ,qZ⟩
 rw [gD];show 1+aH.zero.nodes+r.wt+wtA []+wtS []+wtS [] <= _;rw [aH.zero_nodes,wtA,wtS];have:=h2.2;omega
theorem dJ.ok{vars:List ByteArray}{deep left left':Nat}{l:List aJ}(hm:∀m,m∈ms -> bQ m.name=true)(hp:∀x,x∈ps -> bQ x.name=true)
  (hg:∀g,g∈fs -> bQ g.1=true /\ g.2.length <= 2) (h:dJ ms fs ps vars deep left l left'):
  lC vars -> left <= 24 -> ∀(D:Nat)(tabs:List UInt8),D+deep<24 -> tabs.length+deep <= 4 -> LOk D tabs (left-left') l:=by
 induction h with
 |nil=>intro _ _ D tabs hD _;exact .nil (by omega)
 |lock hr h ih=>
  intro hv hl D tabs hD ht
  have:=h.le
  exact (ih hv (by omega) D tabs hD ht).cons' (yA (.inl rfl) (by omega) hm hp hv hr).1 (by omega)
 |unlock hr h ih=>
  intro hv hl D tabs hD ht
  have:=h.le
  exact (ih hv (by omega) D tabs hD ht).cons' (yA (.inr rfl) (by omega) hm hp hv hr).1 (by omega)
 |@var vars deep left left' e rest he h ih=>
  intro hv hl D tabs hD ht
  have:=h.le
  have hn:=aAe left (by omega)
  have hnl:=aAo hn
  have hns:=dV hn
  have hel:=he.len hv
  refine (ih (fun x hx=>?_) (by omega) D tabs hD ht).cons' (n:=1) (SOk.of (by omega) (by rw [if_pos (by decide)];exact hn) (by rw [if_pos (by decide)];exact he.valid hv (by omega)) (by rw [if_neg (by decide)];exact jN) (by simp) rfl (by rw [if_neg (by decide)];rfl) (by simp) ?_ ?_ ?_) (by omega)
  ·rcases mem_append.1 hx with hx|hx
   ·exact hv x hx
   simp only [List.mem_singleton] at hx;subst hx;exact hn
  ·rw [aJ.sane];exact ⟨Nat.le_trans hns (by decide),he.sane hv,cY.zero_sane,(fun a ha=>by cases ha),qZ,qZ⟩
  ·rw [gD];show 1+e.nodes+cY.zero.wt+wtA []+wtS []+wtS [] <= _;rw [cY.zero_wt,wtA,wtS];have:=he.nodes;omega
  ·rw [bY];simp;omega
 |@assign vars deep left left' x e rest hx he h ih=>
  intro hv hl D tabs hD ht
  have:=h.le
  have hn:=hv x hx
  have hnl:=aAo hn
  have hns:=dV hn
  have hel:=he.len hv
  refine (ih hv (by omega) D tabs hD ht).cons' (n:=1) (SOk.of (by omega) (by rw [if_pos (by decide)];exact hn) (by rw [if_pos (by decide)];exact he.valid hv (by omega)) (by rw [if_neg (by decide)];exact jN) (by simp) rfl (by rw [if_neg (by decide)];rfl) (by simp) ?_ ?_ ?_) (by omega)
  ·rw [aJ.sane];exact ⟨Nat.le_trans hns (by decide),he.sane hv,cY.zero_sane,(fun a ha=>by cases ha),qZ,qZ⟩
  ·rw [gD];show 1+e.nodes+cY.zero.wt+wtA []+wtS []+wtS [] <= _;rw [cY.zero_wt,wtA,wtS];have:=he.nodes;omega
  ·rw [bY];simp;omega
 |@call vars deep left left' k g al rest hk hgm ha h ih=>
  intro hv hl D tabs hD ht
  have:=h.le
  obtain ⟨hn,hg2⟩:=hg g hgm
  have hnl:=aAo hn
  have hns:=dV hn
  obtain ⟨a1,a2,a3,a4⟩:=ha.ok hm hp hv
  refine (ih hv (by omega) D tabs hD ht).cons' (n:=1) (SOk.of (by omega) (by rw [if_pos (by omega)];exact hn) (by rw [if_neg (by omega)];exact mQ) (by rw [if_neg (by omega)];exact jN) (by rw [decide_eq_true hk];rfl) a1 (by rw [if_neg (by omega)];rfl) (by simp) ?_ ?_ ?_) (by omega)
  ·rw [aJ.sane];exact ⟨Nat.le_trans hns (by decide),aH.zero_sane,cY.zero_sane,a2.1,qZ,qZ⟩
  ·rw [gD];show 1+aH.zero.nodes+cY.zero.wt+wtA al+wtS []+wtS [] <= _;rw [aH.zero_nodes,cY.zero_wt,wtS];have:=a2.2;omega
  ·have hat:(dF al).length <= 250:=by simp only [dF,length_append,length_cons,length_nil];omega
   rw [bY];rcases hk with rfl|rfl<;>simp<;>omega
 |@cond vars deep left l1 l2 left' e thn els rest he h1 h2 h3 i1 i2 i3=>
  intro hv hl D tabs hD ht
  have:=h1.le
  have:=h2.le
  have:=h3.le
  have hel:=he.len hv
  have j1:=i1 hv (by omega) (D+1) (tabs++[9]) (by omega) (by simp;omega)
  have j2:=i2 hv (by omega) (D+1) (tabs++[9]) (by omega) (by simp;omega)
  refine (i3 hv (by omega) D tabs hD ht).cons' (n:=1+(left-l1)+(l1-l2)) (SOk.of (by omega) (by rw [if_neg (by decide)];exact decide_eq_true rfl) (by rw [if_pos (by decide)];exact he.valid hv (by omega)) (by rw [if_neg (by decide)];exact jN) (by simp) rfl (by rw [if_pos (by decide)];exact j1.ok) (by rw [j2.ok];simp) ?_ ?_ ?_) (by omega)
  ·rw [aJ.sane];exact ⟨by decide,he.sane hv,cY.zero_sane,(fun a ha=>by cases ha),j1.sane,j2.sane⟩
  ·rw [gD];show 1+e.nodes+cY.zero.wt+wtA []+wtS thn+wtS els <= _;rw [cY.zero_wt,wtA];have:=he.nodes;have:=j1.wt;have:=j2.wt;omega
  ·have:=j1.len;have:=j2.len;rw [bY,if_neg (by decide),if_neg (by decide),if_neg (by decide),if_neg (by decide),if_neg (by decide),if_neg (by decide),if_pos (by decide),if_neg (by decide)];simp only [length_append,length_cons,length_nil]
   split<;>(try simp only [length_append,length_cons,length_nil])<;>omega
 |@loop vars deep left l1 left' e thn rest he h1 h3 i1 i3=>
  intro hv hl D tabs hD ht
  have:=h1.le
  have:=h3.le
  have hel:=he.len hv
  have j1:=i1 hv (by omega) (D+1) (tabs++[9]) (by omega) (by simp;omega)
  refine (i3 hv (by omega) D tabs hD ht).cons' (n:=1+(left-l1)) (SOk.of (by omega) (by rw [if_neg (by decide)];exact decide_eq_true rfl) (by rw [if_pos (by decide)];exact he.valid hv (by omega)) (by rw [if_neg (by decide)];exact jN) (by simp) rfl (by rw [if_pos (by decide)];exact j1.ok) (by simp) ?_ ?_ ?_) (by omega)
  ·rw [aJ.sane];exact ⟨by decide,he.sane hv,cY.zero_sane,(fun a ha=>by cases ha),j1.sane,qZ⟩
  ·rw [gD];show 1+e.nodes+cY.zero.wt+wtA []+wtS thn+wtS [] <= _;rw [cY.zero_wt,wtA,wtS];have:=he.nodes;have:=j1.wt;omega
  ·have:=j1.len;rw [bY];simp;omega
 |@ret vars deep left left' rest h ih=>
  intro hv hl D tabs hD ht
  have:=h.le
  refine (ih hv (by omega) D tabs hD ht).cons' (n:=1) (SOk.of (by omega) (by rw [if_neg (by decide)];exact decide_eq_true rfl) (by rw [if_neg (by decide)];exact mQ) (by rw [if_neg (by decide)];exact jN) (by simp) rfl (by rw [if_neg (by decide)];rfl) (by simp) ?_ ?_ ?_) (by omega)
  ·rw [aJ.sane];exact ⟨by decide,aH.zero_sane,cY.zero_sane,(fun a ha=>by cases ha),qZ,qZ⟩
  ·rw [gD];show 1+aH.zero.nodes+cY.zero.wt+wtA []+wtS []+wtS [] <= _;rw [aH.zero_nodes,cY.zero_wt,wtA,wtS];omega
  ·rw [bY];simp;omega
 |@pair vars deep left l1 left' r mid rest hr h1 h3 i1 i3=>
  intro hv hl D tabs hD ht
  have:=h1.le
  have:=h3.le
  have j1:=i1 hv (by omega) D tabs (by omega) (by omega)
  have j3:=i3 hv (by omega) D tabs hD ht
  obtain ⟨s5,t5⟩:=yA (D:=D) (tabs:=tabs) (.inl rfl) (by omega) hm hp hv hr
  obtain ⟨s6,t6⟩:=yA (D:=D) (tabs:=tabs) (.inr rfl) (by omega) hm hp hv hr
  refine ⟨?_,?_,?_,?_⟩
  ·rw [bM,qL D (by omega),bM,s5.ok,s6.ok,j1.ok,j3.ok];rfl
  ·rw [gC,uJ,gC];exact ⟨s5.sane,j1.sane,s6.sane,j3.sane⟩
  ·have w5:∀k:Int,(aJ.mk k aK .zero r [] [] []).wt <= 20:=fun k=>by rw [gD];show 1+aH.zero.nodes+r.wt+wtA []+wtS []+wtS [] <= _;rw [aH.zero_nodes,wtA,wtS];have:=(hr.ok hm hp hv).2.1.2;omega
   rw [wtS,aAn,wtS];have:=j1.wt;have:=j3.wt;have:=w5 5;have:=w5 6;omega
  rw [aC,oX,aC];have:=j1.len;have:=j3.len;simp only [length_append];omega
end
theorem aFt:∀i,i<4 -> bQ (bytes [UInt8.ofNat (97+i)])=true:=by
 intro i h
 have:(List.range 4).all (fun k=>bQ (bytes [UInt8.ofNat (97+k)]))=true:=by kernel_rfl
 exact List.all_eq_true.1 this i (List.mem_range.2 h)
theorem vO:∀i,i<4 -> bQ (bytes [103,UInt8.ofNat (48+i)])=true:=by
 intro i h
 have:(List.range 4).all (fun k=>bQ (bytes [103,UInt8.ofNat (48+k)]))=true:=by kernel_rfl
 exact List.all_eq_true.1 this i (List.mem_range.2 h)
theorem aF0:∀i,i<4 -> bQ (bytes [112,UInt8.ofNat (48+i)])=true:=by
 intro i h
 have:(List.range 4).all (fun k=>bQ (bytes [112,UInt8.ofNat (48+k)]))=true:=by kernel_rfl
 exact List.all_eq_true.1 this i (List.mem_range.2 h)
theorem aHd:∀i,i<4 -> bQ (bytes [102,UInt8.ofNat (48+i)])=true:=by
 intro i h
 have:(List.range 4).all (fun k=>bQ (bytes [102,UInt8.ofNat (48+k)]))=true:=by kernel_rfl
 exact List.all_eq_true.1 this i (List.mem_range.2 h)
theorem aGx:bQ (bytes [109,97,105,110])=true:=by kernel_rfl
theorem pM.names{l:List aS}(h:pM l):∀x,x∈l -> bQ x.name=true:=by
 intro x hx
 obtain ⟨k,hk,rfl⟩:=List.getElem_of_mem hx
 rw [h.2 k hk];have:=h.1;exact aF0 _ (by omega)
theorem aMn.name{i:Nat}{f:bS}(h:aMn i f)(hi:i<4):bQ f.name=true:=by
 rcases Nat.eq_zero_or_pos i with h0|h0
 ·rw [(h.1 h0).1];exact aGx
 rw [h.2.1 h0];exact aHd i hi
theorem kZ.all{ms:List cL}{fs:List Sig}{gs:List aI}(hm:∀m,m∈ms -> bQ m.name=true)(hg:∀g,g∈fs -> bQ g.1=true /\ g.2.length <= 2)(hgl:∀g,g∈gs -> bQ g.name=true)
  {left:Nat} {l:List bS} (h:kZ ms fs gs left l):left <= 24 -> (∀f,f∈l -> ∀x,x∈f.params -> bQ x.name=true) -> ∀f,f∈l -> LOk 0 [9] 24 f.body:=by
 induction h with
 |nil=>intro _ _ f hf;simp at hf
 |@cons left left' f l hb hl ih=>
  intro hle hps g hgm
  have h1:=hb.le
  have hv:lC (uS gs f.params):=by
   intro x hx
   simp only [uS,mem_append,List.mem_map,List.mem_filter] at hx
   rcases hx with ⟨g,hg,rfl⟩|⟨y,⟨hy,_⟩,rfl⟩
   ·exact hgl g hg
   exact hps f (by simp) y hy
  rcases mem_cons.1 hgm with rfl|hgm
  ·have:=hb.ok hm (hps g (by simp)) hg hv hle 0 [9] (by omega) (by simp)
   exact ⟨this.ok,this.sane,by have:=this.wt;omega,by have:=this.len;omega⟩
  exact ih (by omega) (fun f hf=>hps f (by simp [hf])) g hgm
theorem yF{α:Type}(f:α -> List UInt8)(c:Nat):∀l:List α,(∀x,x∈l -> (f x).length <= c) -> ((l.map f).flatten).length <= c*l.length
 |[],_=>by simp
 |x::r,h=>by
  have h1:=yF f c r (fun y hy=>h y (by simp [hy]))
  have h2:=h x (by simp)
  simp only [List.map_cons,List.flatten_cons,length_append,length_cons,Nat.mul_add,Nat.mul_one];omega
theorem aAv{x:aS}(h:bQ x.name=true):(bX x).length <= 22:=by
 have:=dV h
 rw [bX];split<;>simp<;>omega
theorem zH{α:Type}(f:α -> List UInt8)(c:Nat):∀l:List α,(∀x,x∈l -> (f x).length <= c) -> (bW f l).length <= (c+2)*l.length
 |[],_=>by simp [bW]
 |x::r,h=>by
  have h1:=zH f c r (fun y hy=>h y (by simp [hy]))
  have h2:=h x (by simp)
  have h3:=nO f x r
  simp only [length_cons,Nat.mul_add,Nat.mul_one];omega
structure aQz (p:cK):Prop where
 form:nY p=true
 sane:p.sane
 wt:p.wt <= 100000
 len:(cR p).length <= 75000
theorem sY.facts{p:cK}(h:sY p):aQz p:=by
 obtain ⟨gs,ms,fs⟩:=p
 obtain ⟨⟨hm1,hm2,hm⟩,⟨hg1,hg⟩,⟨hf1,hf2,hf⟩,hb⟩:=h
 dsimp only at hm1 hm2 hm hg1 hg hf1 hf2 hf hb
 have nm:∀m,m∈ms -> bQ m.name=true:=by
  intro m hmm;obtain ⟨k,hk,rfl⟩:=List.getElem_of_mem hmm;rw [(hm k hk).1];exact aFt k (by omega)
 have ng:∀g,g∈gs -> bQ g.name=true:=by
  intro g hgm;obtain ⟨k,hk,rfl⟩:=List.getElem_of_mem hgm;rw [(hg k hk).1];exact vO k (by omega)
 have nf:∀f,f∈fs -> bQ f.name=true /\ pM f.params:=by
  intro f hfm;obtain ⟨k,hk,rfl⟩:=List.getElem_of_mem hfm;exact ⟨(hf k hk).name (by omega),(hf k hk).2.2⟩
 have bodies:=hb.all nm (by
  intro g hgm
  obtain ⟨f,hfm,rfl⟩:=List.mem_map.1 hgm
  exact ⟨(nf f hfm).1,(nf f hfm).2.1⟩) ng (Nat.le_refl _) (fun f hfm=>(nf f hfm).2.names)
 have lg:∀g,g∈gs -> (aU g).length <= 60 /\ g.init≠-9223372036854775808 /\ fit g.init:=by
  intro g hgm
  have h1:=dV (ng g hgm)
  obtain ⟨k,hk,rfl⟩:=List.getElem_of_mem hgm
  obtain ⟨_,h2,h3⟩:=hg k hk
  have h4:=rQ (n:=gs[k].init) (by omega) (by omega)
  refine ⟨?_,by omega,by constructor<;>omega⟩
  rw [aU];split<;>simp<;>omega
 have lm:∀m,m∈ms -> (bE m).length <= 60 /\ fS m=true /\ fit m.size:=by
  intro m hmm
  have h1:=dV (nm m hmm)
  have h0:=nm m hmm
  obtain ⟨k,hk,rfl⟩:=List.getElem_of_mem hmm
  have h2:0 <= ms[k].size /\ ms[k].size <= 3 /\ (ms[k].reentrant=true -> ms[k].size=0):=by
   rcases (hm k hk).2 with ⟨a,b,c⟩|⟨a,b⟩
   ·exact ⟨b,c,fun h=>by rw [a] at h;cases h⟩
   exact ⟨by omega,by omega,fun _=>b⟩
  have h4:=rQ (n:=ms[k].size) (by omega) (by omega)
  refine ⟨?_,?_,by constructor<;>omega⟩
  ·rw [bE];split<;>split<;>simp<;>omega
  rw [fS,h0,decide_eq_true (by omega)]
  cases hr:ms[k].reentrant with
  |false=>rfl
  |true=>rw [decide_eq_false (by have:=h2.2.2 hr;omega)];rfl
 have lf:∀f,f∈fs -> (funcText f).length <= 17000 /\ gW f=true:=by
  intro f hfm
  obtain ⟨h0,h1⟩:=nf f hfm
  have h2:=dV h0
  have h3:=bodies f hfm
  have h4:=h3.len
  have h5:=zH bX 22 f.params (fun x hx=>aAv (h1.names x hx))
  have h6:=h1.1
  refine ⟨?_,?_⟩
  ·rw [funcText];simp only [length_append,length_cons,length_nil];have:f.name.data.toList.length=f.name.size:=rfl;omega
  rw [gW,h0,decide_eq_true (by omega),h3.ok,List.all_eq_true.2 (fun x hx=>h1.names x hx)];rfl
 have len:(cR ⟨gs,ms,fs⟩).length <= 75000:=by
  have h1:=yF aU 60 gs (fun g h=>(lg g h).1)
  have h2:=yF bE 60 ms (fun g h=>(lm g h).1)
  have h3:=yF funcText 17000 fs (fun g h=>(lf g h).1)
  rw [cR];simp only [length_append];omega
 refine ⟨?_,⟨fun g h=>⟨(lg g h).2.2,Nat.le_trans (dV (ng g h)) (by decide)⟩,fun m h=>⟨(lm m h).2.2,Nat.le_trans (dV (nm m h)) (by decide)⟩,fun f h=>⟨Nat.le_trans (dV (nf f h).1) (by decide),fun x hx=>Nat.le_trans (dV ((nf f h).2.names x hx)) (by decide),(bodies f h).sane⟩⟩,?_,len⟩
 ·unfold nY
  rw [decide_eq_true (by dsimp only;omega),List.all_eq_true.2 (fun g h=>by rw [gH,ng g h,decide_eq_true (lg g h).2.1];rfl),List.all_eq_true.2 (fun m h=>(lm m h).2.1),List.all_eq_true.2 (fun f h=>(lf f h).2)];rfl
 unfold cK.wt
 have h1:(fs.map bS.wt).sum <= 2000*fs.length:=by
  have:∀l:List bS,(∀f,f∈l -> f.wt <= 2000) -> (l.map bS.wt).sum <= 2000*l.length:=by
   intro l
   induction l with
   |nil=>intro _;simp
   |cons f l ih=>intro hx;have:=ih (fun g hg=>hx g (by simp [hg]));have:=hx f (by simp);simp only [List.map_cons,List.sum_cons,length_cons];omega
  exact this fs (fun f hfm=>by unfold bS.wt;have:=(bodies f hfm).wt;have:=(nf f hfm).2.1;omega)
 show gs.length+ms.length+(fs.map bS.wt).sum <= _
 omega
end
section
theorem aDo:∀(e:aH),VE e -> (aT e).length <= 3*e.nodes-2:=by
 intro e h
 induction h with
 |num n h=>rw [uO,aH.nodes,cZ];simp
 |name s h=>rw [sC,aH.nodes,cZ];simp
 |un op x h hx ih=>
  have h1:∀b t,(mF b t).length <= t.length+2:=fun b t=>by unfold mF;split<;>simp
  rw [yB h,aH.nodes,cZ,cZ,length_cons]
  have:=h1 (cV op 0 x.op) (aT x);omega
 |bin op x y h hx hy ihx ihy=>
  have h1:∀b t,(mF b t).length <= t.length+2:=fun b t=>by unfold mF;split<;>simp
  rw [uI h,aH.nodes,cZ,cZ,cZ,length_append,length_cons]
  have:=h1 (cV op 0 x.op) (aT x);have:=h1 (cV op 1 y.op) (aT y);omega
theorem eT.toks{names:List ByteArray}{d:Nat}{e:aH}(hn:∀x,x∈names -> bQ x=true)(h:eT names d e)(hd:d <= 2):(aT e).length <= 37:=by
 have h1:=aDo e (h.ve hn)
 have h2:=(h.mono hd).nodes
 omega
section
variable {ms:List cL}{fs:List Sig}{ps:List aS}
theorem uA.toks{vars:List ByteArray}{r:cY}(hv:lC vars)(h:uA ms ps vars r):(hY r).length <= 40:=by
 cases h with
 |arr hm hs he=>have:=he.toks hv (by omega);simp only [hY,length_cons,length_append,length_nil];omega
 |scalar hm hs=>simp [hY]
 |param hx hm=>simp [hY]
theorem tS{α:Type}(f:α -> List PT)(c:Nat):∀l:List α,(∀x,x∈l -> (f x).length <= c) -> (fZ f l).length <= (c+1)*l.length
 |[],_=>by simp [fZ]
 |[x],h=>by have:=h x (by simp);simp [fZ];omega
 |x::y::r,h=>by
  have h1:=tS f c (y::r) (fun z hz=>h z (by simp [hz]))
  have h2:=h x (by simp)
  rw [nW,length_append,length_cons]
  simp only [length_cons,Nat.mul_add,Nat.mul_one] at h1⊢;omega
theorem nB.toks{vars:List ByteArray}{l:List aS}{al:List eN}(hv:lC vars)(h:nB ms ps vars l al):al.length=l.length /\ ∀x,x∈al -> (wH x).length <= 41:=by
 induction h with
 |nil=>exact ⟨rfl,fun x hx=>by cases hx⟩
 |mutex hx hr h ih=>
  refine ⟨by simp [ih.1],fun x hx=>?_⟩
  rcases mem_cons.1 hx with rfl|hx
  ·have:=hr.toks hv;simp only [wH,if_true,length_cons];omega
  ·exact ih.2 x hx
 |expr hx he h ih=>
  refine ⟨by simp [ih.1],fun x hx=>?_⟩
  rcases mem_cons.1 hx with rfl|hx
  ·have:=he.toks hv (by omega);simp only [wH,Bool.false_eq_true,if_false];omega
  exact ih.2 x hx
theorem wL(a b:List aJ):aQ (a++b)=aQ a++aQ b:=by
 induction a with
 |nil=>rw [List.nil_append,aQ,List.nil_append]
 |cons s r ih=>rw [List.cons_append,aQ,aQ,ih,append_assoc]
theorem dJ.toks{vars:List ByteArray}{deep left left':Nat}{l:List aJ}(hg:∀g,g∈fs -> bQ g.1=true /\ g.2.length <= 2)(h:dJ ms fs ps vars deep left l left'):
  lC vars -> left <= 24 -> (aQ l).length <= 100*(left-left'):=by
 induction h with
 |nil=>intro _ _;rw [aQ];simp
 |lock hr h ih=>
  intro hv hl
  have:=h.le;have:=ih hv (by omega);have:=hr.toks hv
  rw [aQ,cE];simp;omega
 |unlock hr h ih=>
  intro hv hl
  have:=h.le;have:=ih hv (by omega);have:=hr.toks hv
  rw [aQ,cE];simp;omega
 |@var vars deep left left' e rest he h ih=>
  intro hv hl
  have:=h.le
  have:=ih (fun x hx=>by
   rcases mem_append.1 hx with hx|hx
   ·exact hv x hx
   simp only [List.mem_singleton] at hx;subst hx;exact aAe left (by omega)) (by omega)
  have:=he.toks hv (by omega)
  rw [aQ,cE];simp;omega
 |assign hx he h ih=>
  intro hv hl
  have:=h.le;have:=ih hv (by omega);have:=he.toks hv (by omega)
  rw [aQ,cE];simp;omega
 |@call vars deep left left' k g al rest hk hgm ha h ih=>
  intro hv hl
  have:=h.le;have:=ih hv (by omega)
  obtain ⟨h1,h2⟩:=ha.toks hv
  have h3:=tS wH 41 al h2
  have h4:=(hg g hgm).2
  rw [aQ,cE]
  rcases hk with rfl|rfl<;>simp [iG]<;>omega
 |cond he h1 h2 h3 i1 i2 i3=>
  intro hv hl
  have:=h1.le;have:=h2.le;have:=h3.le
  have:=i1 hv (by omega);have:=i2 hv (by omega);have:=i3 hv (by omega);have:=he.toks hv (by omega)
  rw [aQ,cE]
  simp only [length_append]
  rw [if_neg (by decide),if_neg (by decide),if_neg (by decide),if_neg (by decide),if_neg (by decide),if_neg (by decide),if_pos (by decide)]
  simp only [length_append,length_cons,length_nil]
  split<;>(try simp only [length_append,length_cons,length_nil])<;>omega
 |loop he h1 h3 i1 i3=>
  intro hv hl
  have:=h1.le;have:=h3.le
  have:=i1 hv (by omega);have:=i3 hv (by omega);have:=he.toks hv (by omega)
  rw [aQ,cE];simp;omega
 |ret h ih=>
  intro hv hl
  have:=h.le;have:=ih hv (by omega)
  rw [aQ,cE];simp;omega
 |pair hr h1 h3 i1 i3=>
  intro hv hl
  have:=h1.le;have:=h3.le
  have:=i1 hv (by omega);have:=i3 hv (by omega);have:=hr.toks hv
  rw [aQ,wL,aQ,cE,cE];simp;omega
theorem kZ.toks{gs:List aI}{left:Nat}{l:List bS}(hg:∀g,g∈fs -> bQ g.1=true /\ g.2.length <= 2)(hgl:∀g,g∈gs -> bQ g.name=true)(h:kZ ms fs gs left l):left <= 24 -> (∀f,f∈l -> ∀x,x∈f.params -> bQ x.name=true) ->
  (l.map fun f=>(aQ f.body).length).sum <= 100*left:=by
 induction h with
 |nil=>intro _ _;simp
 |@cons left left' f l hb hl ih=>
  intro hle hps
  have h1:=hb.le
  have hv:lC (uS gs f.params):=by
   intro x hx
   simp only [uS,mem_append,List.mem_map,List.mem_filter] at hx
   rcases hx with ⟨g,hg,rfl⟩|⟨y,⟨hy,_⟩,rfl⟩
   ·exact hgl g hg
   exact hps f (by simp) y hy
  have h2:=hb.toks hg hv hle
  have h3:=ih (by omega) (fun f hf=>hps f (by simp [hf]))
  simp only [List.map_cons,List.sum_cons];omega
end
theorem yG{α:Type}(f:α -> List PT)(c:Nat):∀l:List α,(∀x,x∈l -> (f x).length <= c) -> ((l.map f).flatten).length <= c*l.length
 |[],_=>by simp
 |x::r,h=>by
  have h1:=yG f c r (fun y hy=>h y (by simp [hy]))
  have h2:=h x (by simp)
  simp only [List.map_cons,List.flatten_cons,length_append,length_cons,Nat.mul_add,Nat.mul_one];omega
theorem aBd:∀l:List bS,(∀f,f∈l -> f.params.length <= 2) -> ((l.map kA).flatten).length <= 20*l.length+(l.map fun f=>(aQ f.body).length).sum
 |[],_=>by simp
 |f::r,h=>by
  have h1:=aBd r (fun y hy=>h y (by simp [hy]))
  have h2:=h f (by simp)
  have h3:=tS lQ 2 f.params (fun x _=>by unfold lQ;split<;>simp)
  simp only [List.map_cons,List.flatten_cons,length_append,length_cons,List.sum_cons,Nat.mul_add,Nat.mul_one,kA,length_nil];omega
theorem aGw{p:cK}(h:sY p):(∀g,g∈p.globals -> bQ g.name=true) /\ (∀g,g∈p.funcs.map bS.sig -> bQ g.1=true /\ g.2.length <= 2) /\ ∀f,f∈p.funcs -> ∀x,x∈f.params -> bQ x.name=true:=by
 obtain ⟨gs,ms,fs⟩:=p
 obtain ⟨⟨hm1,hm2,hm⟩,⟨hg1,hg⟩,⟨hf1,hf2,hf⟩,hb⟩:=h
 have nf:∀f,f∈fs -> bQ f.name=true /\ pM f.params:=by
  intro f hfm;obtain ⟨k,hk,rfl⟩:=List.getElem_of_mem hfm;exact ⟨(hf k hk).name (by dsimp only at hf2 hk;omega),(hf k hk).2.2⟩
 refine ⟨fun g hgm=>?_,fun g hgm=>?_,fun f hfm=>(nf f hfm).2.names⟩
 ·obtain ⟨k,hk,rfl⟩:=List.getElem_of_mem hgm;rw [(hg k hk).1];exact vO k (by dsimp only at hg1 hk;omega)
 obtain ⟨f,hfm,rfl⟩:=List.mem_map.1 hgm
 exact ⟨(nf f hfm).1,(nf f hfm).2.1⟩
theorem aJd{p:cK}(h:sY p):((iA p).map fF.toks).flatten.length <= 4000:=by
 obtain ⟨h1,h2,h3⟩:=aGw h
 have h4:=h.bodies.toks h2 h1 (Nat.le_refl _) h3
 have h5:=yG bEr 7 p.globals (fun g _=>by unfold bEr;split<;>(try split)<;>simp)
 have h6:=yG gT 6 p.mutexes (fun g _=>by unfold gT;split<;>split<;>simp)
 have h7:=aBd p.funcs (fun f hf=>(h2 f.sig (List.mem_map.2 ⟨f,hf,rfl⟩)).2)
 have a1:=h.globals.1;have a2:=h.mutexes.2.1;have a3:=h.funcs.2.1
 simp only [iA,List.map_append,List.map_map,List.flatten_append,length_append]
 have e1:fF.toks ∘ fF.glob=bEr:=rfl
 have e2:fF.toks ∘ fF.mtx=gT:=rfl
 have e3:fF.toks ∘ fF.fn=kA:=rfl
 rw [e1,e2,e3];omega
theorem aHh{p:cK}(hs:p.sane)(h:nY p=true):(∀d,d∈iA p -> d.ok) /\ p.globals.length <= 16 /\ p.mutexes.length <= 12 /\ p.funcs.length <= 16:=by
 unfold nY at h
 simp only [Bool.and_eq_true,decide_eq_true_eq] at h
 obtain ⟨⟨⟨h1,hg⟩,hm⟩,hf⟩:=h
 refine ⟨fun d hd=>?_,h1.1,h1.2.1,h1.2.2⟩
 simp only [iA,mem_append,List.mem_map] at hd
 rcases hd with ⟨g,hgm,rfl⟩|⟨m,hmm,rfl⟩|⟨f,hfm,rfl⟩
 ·have h2:=List.all_eq_true.1 hg g hgm
  have h3:=(hs.globals g hgm).1
  unfold gH at h2
  simp only [Bool.and_eq_true,decide_eq_true_eq] at h2
  unfold fit at h3
  exact ⟨h2.1,by have:=h2.2;omega⟩
 ·have h2:=List.all_eq_true.1 hm m hmm
  unfold fS at h2
  simp only [Bool.and_eq_true,decide_eq_true_eq,Bool.not_eq_true',Bool.and_eq_false_iff,decide_eq_false_iff_not] at h2
  refine ⟨h2.1.1,h2.1.2.1,h2.1.2.2,fun hr=>?_⟩
  rcases h2.2 with h3|h3
  ·rw [hr] at h3;cases h3
  have:=h2.1.2.1;omega
 have h2:=List.all_eq_true.1 hf f hfm
 unfold gW at h2
 simp only [Bool.and_eq_true,decide_eq_true_eq] at h2
 exact ⟨h2.1.1.1,h2.1.1.2,List.all_eq_true.1 h2.2,lS f.body 23 0 rfl (hs.funcs f hfm).2.2 h2.1.2⟩
theorem aPf{p:cK}(hs:p.sane)(h:nY p=true)(hl:(cR p).length <= 262144)(ht:((iA p).map fF.toks).flatten.length <= 4000):jI p=true:=by
 have h6:=uR (iA p) (aHh hs h).1 Lx.end
 rw [List.append_nil,List.append_nil,←wC] at h6
 obtain ⟨L,h7,-⟩:=aIz h6 hl ht
 rw [nX,h,h7];rfl
theorem yO{p:cK}(h:sY p):jI p=true:=aPf h.facts.sane h.facts.form (by have:=h.facts.len;omega) (aJd h)
end
end Go.Proofs.YtojinfngbbajgaaGreatDoor
