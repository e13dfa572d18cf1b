import Derived.Test.YtkfdfhcdmmlfmaaGreatDoorG14J
set_option linter.all false
set_option synthInstance.maxHeartbeats 1000000
set_option synthInstance.maxSize 1000000
set_option maxHeartbeats 1600000
set_option maxRecDepth 100000
namespace Go.Proofs.YtkfdfhcdmmlfmaaGreatDoor
open Go.Proofs.Tryz
open List (length_append length_cons length_nil mem_append mem_cons not_mem_nil append_assoc getElem_mem take_of_length_le)
section
open Go.RowKit
theorem bOx(w:World)(g n:Nat):cW [g] w (w.freeze ⟨g,0,none⟩ n):=by
 unfold World.freeze
 split
 ·exact cW.refl _ _
 exact ⟨Y,Y,Y,G0,λi hi hn=>by
  simp only [Array.getElem?_modify]
  rw [if_neg (by intro h;subst h;exact hn G0)]⟩
section
variable {P:Program}{U T:List Nat}{o:Oper}{n d:Nat}{ts:List (Nat×AT)}{K:AS -> Prop}{st:AS}{bx:List Box}{rw:List bA}
theorem bRy{x:Operand}{t:TypeId}{k c:Nat}(ho:o.op=.call {callee:=.builtin .unsafeSliceData,args:=#[x],argTypes:=#[t]})(hx:evA st x=some (Cv (.slice none k c))):AY P U o st (Cv (.pointer none)):=
 fW rfl λa w hs w'=>by
  simp only [execOp,ho,resolve,List.map_toArray,List.map_cons,List.map_nil,hs.val hx]
  simp [go_sem,invoke,builtin,Lib.run_unsafeSliceData_nil]
theorem bRn{x:Operand}{t:TypeId}{q:Addr}{k c:Nat}(ho:o.op=.call {callee:=.builtin .unsafeSliceData,args:=#[x],argTypes:=#[t]})(hx:evA st x=some (Cv (.slice (some q) k c)))(hc:c≠0):AY P U o st (Cv (.pointer (some q))):=
 fW rfl λa w hs w'=>by
  simp only [execOp,ho,resolve,List.map_toArray,List.map_cons,List.map_nil,hs.val hx]
  simp [go_sem,invoke,builtin,Lib.run_unsafeSliceData_row _ _ _ _ _ _ hc]
theorem bQq{x y:Operand}{pt it:TypeId}{q:Option Addr}(ho:o.op=.call {callee:=.builtin .unsafeString,args:=#[x,y],argTypes:=#[pt,it]})(hx:evA st x=some (Cv (.pointer q)))(hy:evA st y=some (Ci 0)):AY P U o st (Cs .empty):=
 fW rfl λa w hs w'=>by
  simp only [execOp,ho,resolve,List.map_toArray,List.map_cons,List.map_nil,hs.val hx,hs.val hy]
  simp [go_sem,invoke,builtin,Lib.run_unsafeString_none]
theorem bRt{x y:Operand}{pt it E:TypeId}{g cap:Nat}{l:List UInt8}(ho:o.op=.call {callee:=.builtin .unsafeString,args:=#[x,y],argTypes:=#[pt,it]})(hd:o.dst=some d)(hn:d<n)
  (hx:evA ⟨n,T,⟨bx,⟨.slice (some ⟨g,0,none⟩) l.length cap,E,1,l.length,iF l⟩::rw⟩,ts⟩ x=some (pP g)) (hy:evA ⟨n,T,⟨bx,⟨.slice (some ⟨g,0,none⟩) l.length cap,E,1,l.length,iF l⟩::rw⟩,ts⟩ y=some (nI l.length))
  (hp:P.underlying pt=some (.pointer E)) (hc:P.cellsOf E=1) (h0:l≠[]) (h63:l.length <= 9223372036854775807) (hT:g∈T) (hU:(⟨bx,⟨.slice (some ⟨g,0,none⟩) l.length cap,E,1,l.length,iF l⟩::rw⟩:Sto).bl.Nodup -> g∈U)
  (h:K ⟨n,T,⟨bx,rw⟩,(d,Cs (bytes l))::ts⟩):AO P U o ⟨n,T,⟨bx,⟨.slice (some ⟨g,0,none⟩) l.length cap,E,1,l.length,iF l⟩::rw⟩,ts⟩ K:=by
 intro a w hs KK QQ hK
 obtain ⟨us,hownR,hrep⟩:=hs.mem.row ⟨.slice (some ⟨g,0,none⟩) l.length cap,E,1,l.length,iF l⟩ G0
 obtain ⟨-,hown⟩:=hownR.row0 rfl
 rcases hown with ⟨h1,-⟩|⟨g',cap',cur,hv,-,hh,hkc,hcm,hcs,htk⟩
 ·cases h1
 cases hv
 dsimp only at hh hkc hcs htk hrep
 obtain rfl:us=cC l:=yC (vs:=cC l) (by rw [show (cC l).map AC.val=iF l by simp [cC,iF]];exact hrep)
 simp only [Nat.mul_one] at hcs htk
 have hsh:w.shape? g=some (E,cap):=by unfold World.shape?;rw [hh];simp [hcs]
 have hcell:∀j x,l[j]?=some x -> w.cell? ((⟨g,0,none⟩:Addr).add j)=some (.int .u8 x.toNat):=λj x hj=>by
  have hjl:j<l.length:=(List.getElem?_eq_some_iff.1 hj).1
  have e1:(⟨g,0,none⟩:Addr).add j=⟨g,j,none⟩:=Cl
  rw [e1]
  have e2:cur[j]?=some (.int .u8 x.toNat):=by
   have h9:=congrArg (λq:List Value=>q[j]?) htk
   simp only [List.getElem?_take,if_pos hjl,cC,List.getElem?_map,hj,Option.map_some,Array.getElem?_toList] at h9
   exact h9
  unfold World.cell?
  simp only [hh,Nat.zero_add]
  exact e2
 have hkF:=bOx w g l.length
 have hnd:=hs.mem.nodup
 have hg:g∉(⟨bx,rw⟩:Sto).bl:=λhm=>by
  unfold Sto.bl at hnd hm
  simp only [List.flatMap_cons] at hnd
  have hnd2:=List.nodup_append.1 hnd
  rcases mem_append.1 hm with hm|hm
  ·exact hnd2.2.2 g hm g Cq Y
  exact (List.nodup_append.1 hnd2.2.1).2.2 g Cq g hm Y
 have hsub:∀b,b∈(⟨bx,rw⟩:Sto).bl -> b∈(⟨bx,⟨.slice (some ⟨g,0,none⟩) l.length cap,E,1,l.length,iF l⟩::rw⟩:Sto).bl:=λb hb=>by
  unfold Sto.bl at hb⊢
  rcases mem_append.1 hb with hb|hb
  ·exact List.mem_append_left _ hb
  exact List.mem_append_right _ (by simp only [List.flatMap_cons];exact List.mem_append_right _ hb)
 have hgf:g∈(⟨bx,⟨.slice (some ⟨g,0,none⟩) l.length cap,E,1,l.length,iF l⟩::rw⟩:Sto).bl:=CZ
 have hu:Up2 (bI (⟨bx,⟨.slice (some ⟨g,0,none⟩) l.length cap,E,1,l.length,iF l⟩::rw⟩:Sto).bl w) (bI (⟨bx,rw⟩:Sto).bl (w.freeze ⟨g,0,none⟩ l.length)):=jA hkF (λx hx=>by simp at hx;subst hx;exact hgf) (λb hb=>.inl (hsub b hb))
 have hne:∀b,b∈(⟨bx,rw⟩:Sto).bl -> (w.freeze ⟨g,0,none⟩ l.length).heap[b]?=w.heap[b]?:=λb hb=>hkF.block b (hs.mem.lt b (hsub b hb)) (by simp;intro he;subst he;exact hg hb)
 have hsl:(⟨bx,rw⟩:Sto).bl.Sublist (⟨bx,⟨.slice (some ⟨g,0,none⟩) l.length cap,E,1,l.length,iF l⟩::rw⟩:Sto).bl:=List.Sublist.append (List.Sublist.refl _) (aE3 _ (List.Sublist.cons _ (List.Sublist.refl _)))
 have hm1:Mem ⟨bx,rw⟩ (w.freeze ⟨g,0,none⟩ l.length):=by
  refine ⟨hsl.nodup hs.mem.nodup,λb hb=>Nat.lt_of_lt_of_le (hs.mem.lt b (hsub b hb)) hkF.size,λx hx=>?_,λr hr=>?_⟩
  ·obtain ⟨us,e1,e2⟩:=hs.mem.box x hx
   exact ⟨us,by rw [hne _ (List.mem_append_left _ (List.mem_map.2 ⟨x,hx,rfl⟩))];exact e1,e2.mono hu⟩
  obtain ⟨us,e1,e2⟩:=hs.mem.row r (List.mem_cons_of_mem _ hr)
  exact ⟨us,e1.keep λq hq=>hne q (List.mem_append_right _ (List.mem_flatMap.2 ⟨r,hr,hq⟩)),e2.mono hu⟩
 unfold Oper.wp
 have hrun2:(execOp a.eval o).run P w=.ok (.value (.string (bytes l))) (w.freeze ⟨g,0,none⟩ l.length):=by
  simp only [execOp,ho,resolve,List.map_toArray,List.map_cons,List.map_nil,hs.val hx,hs.val hy]
  simp [go_sem,invoke,builtin,Lib.run_unsafeString_row w pt it _ E hp hc g cap hsh l h0 hkc h63 hcell]
  rfl
 rw [hrun2,Oper.upon_value,hd]
 exact hK _ _ _ h ((hs.step T (hkF.mono (by simp;exact hgf)) hm1 (λb hb=>.inl (hsub b hb))).put hn (dO.c _ _ (.val _ Y))) ⟨hkF.mono (by simp;exact hgf),hkF.mono DN,λb hb=>.inl (hsub b hb),λb hb=>.inl hb⟩ (hkF.mono Cp)
end
theorem bRx(p:cK)(B:List Box)(W:Nat)(rw:List bA)(hv:nY p=true)(hs:p.sane)(hw:p.wt <= 9000000)(hb:(cR p).length <= 100000000000000):aL prog 126 [bK5 (pP W),.agg (jV p)] (W::aY (.slice none 0 0)) (WS [] W 0 none (.slice none 0 0) [] B rw) (λt s'=>t=.tup [] /\ ∃a' v',(okA W a' /\ nz (cR p) v') /\ s'=WS [] W 0 a' v' (cR p) B rw):=
 bRp p [] B W 0 none (.slice none 0 0) [] rw (.inl rfl) (λ_=>rfl) rfl hv hs hw GJ
theorem bQo(A B:List Box)(W m:Nat)(a:Option Addr)(rw:List bA):aL prog 64 [pP W] [] (WS A W m a (.slice none 0 0) [] B rw) λt s'=>t=Cs (bytes []) /\ s'=⟨A++⟨W,224,[.val (.pointer a),Nl,nC m]⟩::B,rw⟩:=by
 refine acX 14 func64 ?_
 refine go 6 ?_
 refine dx [W] (tz [(0,true),(1,true),(2,true),(3,true)] 8 (go 5 ?_))
 refine tx 4 Y (bRy Y Y) (tz [(5,true),(6,true),(7,true),(8,true),(9,true)] 2 (go 6 ?_))
 refine tx 10 Y (bQq Y Y Y) (tz [(11,true)] 0 (go 2 ?_))
 refine ax (go 2 ?_)
 exact ⟨.inr Y,_,⟨A++⟨W,224,[.val (.pointer a),Nl,nC m]⟩::B,rw⟩,aR Y (aF Y),aA (.refl _) (.cons _ (.refl _)),Y,Y⟩
theorem bQ1(A B:List Box)(W m:Nat)(a:Option Addr)(bs:List UInt8)(rw:List bA)(g cap:Nat)(hc:cap≠0)(h0:bs≠[])(h63:bs.length <= 9223372036854775807):aL prog 64 [pP W] [g] (WS A W m a (.slice (some ⟨g,0,none⟩) bs.length cap) bs B rw) λt s'=>t=Cs (bytes bs) /\ s'=⟨A++⟨W,224,[.val (.pointer a),.val (.slice (some ⟨g,0,none⟩) bs.length cap),nC m]⟩::B,rw⟩:=by
 refine acX 14 func64 ?_
 refine go 6 ?_
 refine dx [W] (tz [(0,true),(1,true),(2,true),(3,true)] 8 (go 5 ?_))
 refine tx 4 Y (bRn Y Y hc) (tz [(5,true),(6,true),(7,true),(8,true),(9,true)] 2 (go 6 ?_))
 refine ox 10 Y Y (bRt Y Y V Y Y underlying207 B6 h0 h63 Cq (λhn=>qW hn Cq) ?_)
 refine tz [(11,true)] 0 (go 2 ?_)
 refine ax (go 2 ?_)
 exact ⟨.inr Y,_,⟨A++⟨W,224,[.val (.pointer a),.val (.slice (some ⟨g,0,none⟩) bs.length cap),nC m]⟩::B,rw⟩,aR Y (aF Y),aA (.refl _) (.refl _),Y,Y⟩
theorem bQs(A B:List Box)(W m:Nat)(a:Option Addr)(v:Value)(bs:List UInt8)(rw:List bA)(hz:nz bs v)(hb:bs.length <= 9223372036854775807):aL prog 64 [pP W] (aY v) (WS A W m a v bs B rw) λt s'=>t=Cs (bytes bs) /\ s'=⟨A++⟨W,224,[.val (.pointer a),.val v,nC m]⟩::B,rw⟩:=by
 intro vs w hm hT hl hr
 obtain ⟨us,hownR,hrep⟩:=hm.row ⟨v,5,1,bs.length,iF bs⟩ G0
 obtain ⟨hlen,hown⟩:=hownR.row Nat.zero_lt_one
 dsimp only at hlen hown hrep
 rcases hown with ⟨rfl,h0⟩|⟨g,cap,cur,rfl,-,hh,hkc,hcm,hcs,htk⟩
 ·obtain rfl:bs=[]:=List.length_eq_zero_iff.1 h0
  exact bQo A B W m a rw vs w hm hT hl hr
 by_cases h0:bs=[]
 ·have:=hz h0;cases this
 exact bQ1 A B W m a bs rw g cap (by have:bs.length≠0:=(by simpa using h0);omega) h0 hb vs w hm hT hl hr
theorem bSa{p:cK}(h1:bL1 p=true)(h2:(p.funcs.any λf=>!gW f)=false):nY p=true:=by
 rw [show nY p=(bL1 p && p.funcs.all gW) from rfl,h1,bMb h2];rfl
theorem bPo{p:cK}(h1:bL1 p=false):nY p=false:=by rw [show nY p=(bL1 p && p.funcs.all gW) from rfl,h1];rfl
theorem bPz{p:cK}(h2:(p.funcs.any λf=>!gW f)=true):nY p=false:=by rw [show nY p=(bL1 p && p.funcs.all gW) from rfl,bO1 h2,Bool.and_false]
abbrev bM6(p:cK):List UInt8:=if nY p=true then cR p else []
abbrev bRg(p:cK):AT:=.tup [Cs (bytes (bM6 p)),Cb (jI p)]
theorem bMv{p:cK}{x:ByteArray}{b:Bool}(h1:bytes (bM6 p)=x)(h2:jI p=b):(AT.tup [Cs x,Cb b])=bRg p:=by unfold bRg;rw [h1,h2]
theorem bM7(p:cK)(hs:p.sane)(hw:p.wt <= 9000000)(s:Sto):aL prog 76 [bK5 (.agg (jV p))] [] s λt s'=>t=bRg p /\ s'=s:=by
 obtain ⟨bx,rw⟩:=s
 refine acX 36 func76 ?_
 refine go 11 λb1=>?_
 rcases Bool.eq_false_or_eq_true (bL1 p) with h1|h1
 ·refine bK8 0 Y call122 Y (bP0 p hs J _) h1 (go 4 ?_)
  rcases Bool.eq_false_or_eq_true (p.funcs.any λf=>!gW f) with h2|h2
  ·refine bK8 0 Y call123 Y (bNy (λf=>!gW f) p.funcs 124 #[] _ G9 call124 BJ) h2 (go 12 ?_)
   exact ⟨.inr Y,_,⟨bx,rw⟩,uM Y (aF Y) (aF Y),aA (.cons _ (.refl _)) (.refl _),bMv (by unfold bM6;rw [if_neg (by rw [bPz h2];decide)];rfl) (by rw [nX,bPz h2];rfl),Y⟩
  refine bK8 0 Y call123 Y (bNy (λf=>!gW f) p.funcs 124 #[] _ G9 call124 BJ) h2 (go 8 ?_)
  have hv:nY p=true:=bSa h1 h2
  refine go 7 λb2=>?_
  refine bR3 5 1 ?_
  refine go 2 ?_
  refine wo Y (bO5 0 Y call126 Y (bRx p _ b2 rw hv hs hw (by have:=aAd hs hv;omega)) G0 Bc (λ_=>⟨G0,λb hb=>DF⟩) λa2 v2 hC2=>?_)
  refine go 7 ?_
  refine wo Y (bD (aY v2) Y Y V call64 Y (bQs [] _ b2 0 a2 v2 (cR p) rw hC2.2 (by have:=aAd hs hv;omega)) Bq (λb hb=>by simp [Sto.bl,hb]) Bo ?_)
  rintro _ _ ⟨rfl,rfl⟩
  refine go 6 ?_
  refine wo Y (aDc Y Y V Y underlying9 underlying99 underlying5 (by rw [kT];have:=aAd hs hv;omega) (N:=(cR p).length) Y (cs:=iF (cR p)) Y ?_)
  refine wo Y (bN9 0 [] Y Y V call127 Y Y (λm=>aP8 (cR p) m _) bDl bDl (λ_=>bDl) ?_)
  rintro _ _ ⟨(⟨tl5,hlx5,rfl,htl5⟩|⟨p5,e5,hlx5,rfl,he5⟩),rfl⟩
  focus
   refine go 13 ?_
   refine wcp true Y B7 (go 5 ?_)
  rotate_left
  refine go 13 ?_
  refine wcp false Y (eD J) (go 5 ?_)
  all_goals
   exact ⟨.inr Y,_,⟨bx,rw⟩,uM Y (aF Y) (aF Y),aA (.cons _ (.cons _ (.refl _))) (.refl _),bMv (by unfold bM6;rw [if_pos hv]) (by rw [nX,hv,hlx5];rfl),Y⟩
 refine bK8 0 Y call122 Y (bP0 p hs J _) h1 (go 17 ?_)
 exact ⟨.inr Y,_,⟨bx,rw⟩,uM Y (aF Y) (aF Y),aA (.cons _ (.refl _)) (.refl _),bMv (by unfold bM6;rw [if_neg (by rw [bPo h1];decide)];rfl) (by rw [nX,bPo h1];rfl),Y⟩
theorem bOk(p:cK)(hs:p.sane)(hw:p.wt <= 9000000)(s:Sto):aL prog 45 [bK5 (.agg (jV p))] [] s λt s'=>t=Cb (jI p) /\ s'=s:=by
 obtain ⟨bx,rw⟩:=s
 refine acX 11 func45 ?_
 refine go 9 λb1=>?_
 refine wcR 0 Y call76 Y (bM7 p hs hw _) (go 14 ?_)
 exact bHe (s':=⟨bx,rw⟩) Y sb1 ⟨cX Y,Y⟩
end
section
open Go.RowKit
mutual
def aJ.cnt:aJ -> Nat|.mk _ _ _ _ _ t e=>1+bLh t+bLh e
def bLh:List aJ -> Nat
 |[]=>0
 |s::r=>s.cnt+bLh r
end
def bMl(l:List aJ):Nat:=(l.map λs=>bLh s.thn+bLh s.els).sum
theorem bQa(s:aJ):s.cnt=1+bLh s.thn+bLh s.els:=by cases s;rw [aJ.cnt];rfl
theorem bLo:∀l:List aJ,bLh l=l.length+bMl l
 |[]=>by rw [bLh];rfl
 |s::l=>by have:=bLo l;rw [bLh,bQa];unfold bMl at this⊢;simp only [List.map_cons,List.sum_cons,length_cons];omega
theorem bMr(l:List aJ)(k:Nat)(h:k<l.length):bMl (l.take (k+1))=bMl (l.take k)+(bLh l[k].thn+bLh l[k].els):=by
 unfold bMl;rw [List.take_succ_eq_append_getElem h,List.map_append,List.sum_append];simp
theorem bMe:∀(l:List aJ)(k:Nat),bMl (l.take k) <= bMl l
 |[],k=>G0
 |x::l,0=>by simp [bMl]
 |x::l,k+1=>by have:=bMe l k;unfold bMl at this⊢;simp only [List.take_succ_cons,List.map_cons,List.sum_cons];omega
mutual
theorem bR8:∀s:aJ,s.cnt <= s.wt
 |.mk k n e r a t el=>by
  have h1:=bNe t
  have h2:=bNe el
  rw [aJ.cnt,aJ.wt];omega
theorem bNe:∀l:List aJ,bLh l <= wtS l
 |[]=>by rw [bLh];omega
 |s::l=>by
  have h1:=bR8 s
  have h2:=bNe l
  rw [bLh,wtS];omega
end
theorem bNw(l:List aJ)(hl:bLh l <= 1000000000)(hst:∀k (h:k<l.length) (s:Sto),aL prog 29 [.c (Sq encS l[k].thn)] [] s (λt s'=>t=Ci ((bLh l[k].thn:Nat):Int) /\ s'=s) /\ aL prog 29 [.c (Sq encS l[k].els)] [] s (λt s'=>t=Ci ((bLh l[k].els:Nat):Int) /\ s'=s))(s:Sto):aL prog 29 [.c (Sq encS l)] [] s λt s'=>t=Ci ((bLh l:Nat):Int) /\ s'=s:=by
 obtain ⟨bx,rw⟩:=s
 have hkid:=bLo l
 refine acX 29 func29 ?_
 refine go 19 ?_
 refine oC (l.length) 4 (λk=>[(3,Ci ((l.length+bMl (l.take k):Nat):Int)),(0,.c (Sq encS l))]) (aG Y (.refl _) (aG Y (gQ (by simp [bMl])) (sA Y))) λk hk=>?_
 show AWp prog _ ⟨29,_,_,(4,nI k)::[(3,Ci ((l.length+bMl (l.take k):Nat):Int)),(0,.c (Sq encS l))]⟩ _
 refine go 6 ?_
 by_cases h1:((k:Nat):Int)<((l.length:Nat):Int)
 ·refine wcp true Y (jZ h1) (go 7 ?_)
  refine dx [] ?_
  have hkt:=bMr l k J
  have hkm:=bMe l (k+1)
  refine tz [(0,true),(1,true),(2,true)] 13 (go 4 ?_)
  refine tx 3 Y (bH encS dG l mE cJ k Y Y Y Y J V runUnderlying54 sizeOf145) (tz [(4,true),(5,true),(8,true),(9,true)] 8 (go 5 ?_))
  refine tx 10 Y (bH encS dG l mE cJ k Y Y Y Y J V runUnderlying54 sizeOf145) (tz [(11,true),(12,true)] 5 (go 3 ?_))
  refine ox 6 Y Y (bV Y Y V call29 Y ((hst k J _).1) ?_)
  rintro _ _ ⟨rfl,rfl⟩
  refine tx 7 Y (bB Y Y Y J J) ?_
  refine ox 13 Y Y (bV Y Y V call29 Y ((hst k J _).2) ?_)
  rintro _ _ ⟨rfl,rfl⟩
  refine tx 14 Y (bB Y Y Y J J) (tz [(15,true)] 0 (go 2 ?_))
  refine ax (go 4 ?_)
  refine wad Y (go 2 ?_)
  exact ⟨J,(aG Y (gQ J) (aG Y (gQ J) (sA Y)))⟩
 refine wcp false Y (jQ h1) (go 15 ?_)
 exact bHe (s':=⟨bx,rw⟩) Y sb0 ⟨aPy (by rw [bLo];have hkl:k=l.length:=J;subst hkl;rw [List.take_length]),Y⟩
theorem bPd:∀(N:Nat)(l:List aJ),bLh l <= N -> N <= 1000000000 -> ∀s:Sto,aL prog 29 [.c (Sq encS l)] [] s λt s'=>t=Ci ((bLh l:Nat):Int) /\ s'=s
 |0,l,h,hN,s=>bNw l J (λk hk=>absurd (bLo l) J) s
 |N+1,l,h,hN,s=>bNw l J (λk hk s=>by
   have h1:=bLo l
   have h2:=bMr l k hk
   have h3:=bMe l (k+1)
   exact ⟨bPd N _ J J s,bPd N _ J J s⟩) s
def bSy(ops:Array Oper)(m:Nat):Array Oper:=(ops.toList.take m).toArray
def bT0(ops:Array Oper)(j:Nat):List Nat:=match ops.toList[j]? with
 |none=>[]
 |some o=>o.after.toList.filterMap λe=>if Region.binds .any e then some e.on else none
def bUu(ops:Array Oper):Nat -> List Nat -> List Nat
 |0,c=>c
 |n+1,c=>bUu ops n (c++c.flatMap (bT0 ops))
theorem bUe{ops:Array Oper}{L:Nat -> Prop}(h:∀i o,ops[i]?=some o -> L i -> ∀e∈o.after,Region.binds .any e=true -> L e.on):∀(n:Nat)(c:List Nat),(∀x,x∈c -> L x) -> ∀x,x∈bUu ops n c -> L x
 |0,_,hc=>hc
 |n+1,c,hc=>bUe h n _ λx hx=>by
  rcases mem_append.1 hx with hx|hx
  ·exact hc x hx
  obtain ⟨y,hy,hxy⟩:=List.mem_flatMap.1 hx
  unfold bT0 at hxy
  rw [Array.getElem?_toList] at hxy
  cases ho:ops[y]? with
  |none=>rw [ho] at hxy;cases hxy
  |some o=>
   rw [ho] at hxy
   obtain ⟨e,he,h2⟩:=List.mem_filterMap.1 hxy
   split at h2
   ·rename_i hb
    cases h2
    exact h y o ho (hc y hy) e C3 hb
   cases h2
def bUz(ops:Array Oper)(m:Nat):Bool:=(List.range ops.size).all λi=>match ops.toList[i]? with
 |none=>true
 |some o=>if i<m then o.guard.isNone && o.after.toList.all (λe=>!Region.binds .any e||decide (e.on<i)) else (List.range m).all λj=>(bUu ops 2 (bT0 ops i)).contains j
theorem bT1{P:Program}{md:Region.Mode}{ops:Array Oper}{Q:Exit -> Act -> World -> Prop}:∀(f:Nat)(l:Array Bool)(a:Act)(w:World),wpAny P md ops Q f l a w -> wpAny P md ops Q (f+1) l a w
 |0,_,_,_,h=>⟨λ_=>h.2,λi hi=>by rw [h.1] at hi;cases hi⟩
 |f+1,_,_,_,h=>⟨h.1,λi hi=>wpOp_mono (λa' w' h'=>bT1 f _ a' w' h') (h.2 i hi)⟩
theorem bTs{P:Program}{md:Region.Mode}{ops:Array Oper}{Q:Exit -> Act -> World -> Prop}(f:Nat)(l:Array Bool)(a:Act)(w:World)(h:wpAny P md ops Q f l a w):∀n,wpAny P md ops Q (n+f) l a w
 |0=>by rw [Nat.zero_add];exact h
 |n+1=>by rw [show n+1+f=(n+f)+1 by omega];exact bT1 _ _ _ _ (bTs f l a w h n)
theorem bS4{ops:Array Oper}{m i:Nat}:(bSy ops m)[i]?=if i<m then ops[i]? else none:=by
 unfold bSy
 rw [List.getElem?_toArray,List.getElem?_take,Array.getElem?_toList]
theorem bUp{P:Program}{ops:Array Oper}{Q Q1:Exit -> Act -> World -> Prop}{m f2:Nat}{D:Array Bool}(hc:bUz ops m=true)(hm:m <= ops.size)(hDt:∀j,j<m -> D[j]?=some true)
  (hn:∀a w,Q1 .normal a w -> wpAny P .any ops Q f2 D a w) (hq:∀e a w,e≠.normal -> Q1 e a w -> Q e a w):∀(f:Nat)(l1 l:Array Bool)(a:Act)(w:World),l1.size=m -> l.size=D.size -> m <= D.size -> (∀j,j<m -> l[j]?=l1[j]?) -> (∀j,m <= j -> l[j]?=D[j]?) -> (∀i o,ops[i]?=some o -> l.getD i false=true -> ∀e∈o.after,Region.binds .any e=true -> l.getD e.on false=true) ->
   wpAny P .any (bSy ops m) Q1 f l1 a w -> wpAny P .any ops Q (f+f2) l a w:=by
 have hcs:∀i o,ops[i]?=some o -> if i<m then o.guard=none /\ (∀e∈o.after,Region.binds .any e=true -> e.on<i) else ∀j,j<m -> j∈bUu ops 2 (bT0 ops i):=by
  intro i o ho
  have hi:i<ops.size:=(Array.getElem?_eq_some_iff.1 ho).1
  have h9:=List.all_eq_true.1 hc i (List.mem_range.2 hi)
  rw [Array.getElem?_toList,ho] at h9
  dsimp only at h9
  by_cases him:i<m
  ·rw [if_pos him] at h9⊢
   simp only [Bool.and_eq_true,List.all_eq_true,Bool.or_eq_true,Bool.not_eq_true',decide_eq_true_eq,Option.isNone_iff_eq_none] at h9
   exact ⟨h9.1,λe he hb=>(h9.2 e C3).resolve_left (by rw [hb];decide)⟩
  rw [if_neg him] at h9⊢
  intro j hj
  have h8:=List.all_eq_true.1 h9 j (List.mem_range.2 hj)
  simpa using h8
 have over:∀(l1 l:Array Bool),l1.size=m -> m <= ops.size -> (∀j,j<m -> l[j]?=l1[j]?) -> Region.ready .any (bSy ops m) l1=[] -> ∀j,j<m -> l1[j]?=some true:=by
  intro l1 l hs hm hl hr j
  induction j using Nat.strongRecOn with
  |_ j ih=>
   intro hj
   by_cases h:l1.getD j true=false
   ·exfalso
    have hop:(bSy ops m)[j]?=some (ops[j]'(by omega)):=EL
    have hin:j∈Region.ready .any (bSy ops m) l1:=by
     refine mem_ready.2 ⟨h,_,hop,λe he hb=>?_⟩
     have h2:=hcs j _ (Array.getElem?_eq_getElem (J:j<ops.size))
     rw [if_pos hj] at h2
     have h3:=h2.2 e he hb
     have h4:=ih e.on h3 J
     simp [Array.getD_eq_getD_getElem?,h4]
    rw [hr] at hin;cases hin
   have hj2:j<l1.size:=J
   rw [Array.getElem?_eq_getElem hj2]
   simp only [Array.getD_eq_getD_getElem?,Array.getElem?_eq_getElem hj2,Option.getD_some] at h
   simpa using h
 have same:∀(l1 l:Array Bool),l1.size=m -> l.size=D.size -> (∀j,j<m -> l[j]?=l1[j]?) -> (∀j,m <= j -> l[j]?=D[j]?) -> Region.ready .any (bSy ops m) l1=[] -> l=D:=by
  intro l1 l hs1 hs2 he1 he2 hr
  refine Array.ext_getElem? λj=>?_
  by_cases hj:j<m
  ·rw [he1 j hj,over l1 l hs1 hm he1 hr j hj,hDt j hj]
  exact he2 j J
 have getD_eq:∀(l1 l:Array Bool)(j:Nat)(d:Bool),l[j]?=l1[j]? -> l.getD j d=l1.getD j d:=λl1 l j d h=>by
  rw [Array.getD_eq_getD_getElem?,Array.getD_eq_getD_getElem?,h]
 intro f
 induction f with
 |zero=>
  intro l1 l a w hs1 hs2 hmD he1 he2 hcl H
  rw [Nat.zero_add,same l1 l hs1 hs2 he1 he2 H.1]
  exact hn a w H.2
 |succ f ih=>
  intro l1 l a w hs1 hs2 hmD he1 he2 hcl H
  by_cases hr:Region.ready .any (bSy ops m) l1=[]
  ·rw [same l1 l hs1 hs2 he1 he2 hr]
   exact bTs f2 _ _ _ (hn a w (H.1 hr)) (f+1)
  obtain ⟨k,hk⟩:=List.exists_mem_of_ne_nil _ hr
  obtain ⟨hku,ok,hok,hkall⟩:=mem_ready.1 hk
  have hkm:k<m:=by
   by_cases h:k<m
   ·exact h
   rw [bS4,if_neg h] at hok;cases hok
  rw [bS4,if_pos hkm] at hok
  have hk1:l1[k]?=some false:=by
   have hks:k<l1.size:=J
   rw [Array.getD_eq_getD_getElem?,Array.getElem?_eq_getElem hks] at hku
   rw [Array.getElem?_eq_getElem hks];simpa using hku
  rw [show f+1+f2=(f+f2)+1 by omega]
  refine ⟨λh0=>?_,λi hi=>?_⟩
  ·exfalso
   have hin:k∈Region.ready .any ops l:=by
    refine mem_ready.2 ⟨Ex,ok,hok,λe he hb=>?_⟩
    have h2:=hcs k ok hok
    rw [if_pos hkm] at h2
    have h3:=h2.2 e he hb
    rw [getD_eq l1 l e.on false (he1 _ J)]
    exact hkall e he hb
   rw [h0] at hin;cases hin
  obtain ⟨hiu,o,ho,hall⟩:=mem_ready.1 hi
  have h2:=hcs i o ho
  by_cases him:i<m
  ·rw [if_pos him] at h2
   have ho1:(bSy ops m)[i]?=some o:=by rw [bS4,if_pos him];exact ho
   have hi1:i∈Region.ready .any (bSy ops m) l1:=by
    refine mem_ready.2 ⟨Eu,o,ho1,λe he hb=>?_⟩
    have h3:=h2.2 e he hb
    rw [←getD_eq l1 l e.on false (he1 _ J)]
    exact hall e he hb
   have h4:=H.2 i hi1
   have hw:∀y,Region.wanted o y=true:=λy=>by unfold Region.wanted;rw [h2.1]
   unfold wpOp at h4⊢
   rw [ho1] at h4
   rw [ho]
   dsimp only at h4⊢
   rw [if_pos (hw _)] at h4⊢
   have hL:LetsOut Q1 -> LetsOut Q:=λ⟨a,w,h⟩=>⟨a,w,hq _ a w G0 h⟩
   rcases h4 with h4|⟨h5,h6⟩
   ·refine .inl (Oper.wp_mono2 (λa' w' h'=>ih (l1.setIfInBounds i true) (l.setIfInBounds i true) a' w' (by simpa using hs1) (by simpa using hs2) hmD (λj hj=>?_) (λj hj=>?_) (λq oq hoq hlq e he hb=>?_) h') hq hL h4)
    ·rw [Array.getElem?_setIfInBounds,Array.getElem?_setIfInBounds]
     by_cases hij:i=j
     ·rw [if_pos hij,if_pos hij,if_pos J,if_pos J]
     rw [if_neg hij,if_neg hij];exact he1 j hj
    ·rw [Array.getElem?_setIfInBounds,if_neg J];exact he2 j hj
    have hup:∀z,l.getD z false=true -> (l.setIfInBounds i true).getD z false=true:=λz hz=>by
     rw [Array.getD_eq_getD_getElem?] at hz⊢
     rw [Array.getElem?_setIfInBounds]
     split
     ·split
      ·rfl
      rw [Array.getElem?_eq_none J] at hz;cases hz
     exact hz
    by_cases hqi:i=q
    ·subst hqi
     obtain rfl:=Option.some.inj (ho.symm.trans hoq)
     exact hup _ (hall e he hb)
    refine hup _ (hcl q oq hoq ?_ e he hb)
    rw [Array.getD_eq_getD_getElem?,Array.getElem?_setIfInBounds,if_neg hqi] at hlq
    rw [Array.getD_eq_getD_getElem?];exact hlq
   exact .inr ⟨h5,hL h6⟩
  exfalso
  rw [if_neg him] at h2
  have h3:l.getD k false=true:=bUe (L:=λz=>l.getD z false=true) hcl 2 _ (λx hx=>by
   unfold bT0 at hx
   rw [Array.getElem?_toList,ho] at hx
   obtain ⟨e,he,h2⟩:=List.mem_filterMap.1 hx
   split at h2
   ·rename_i hb
    cases h2
    exact hall e C3 hb
   cases h2) k (h2 k hkm)
  rw [getD_eq l1 l k false (he1 k hkm),Array.getD_eq_getD_getElem?,hk1] at h3
  cases h3
theorem bT3{P:Program}{id:Nat}{ops:Array Oper}{st:AS}{Q:Exit -> AS -> Prop}(m:Nat)(Z1 Z2:List Nat)(D:Array Bool)(hm:P.follows .mixedOrders=true)(hc:(bUz ops m,decide (m <= ops.size),decide (D.size=ops.size),(List.range m).all (λj=>D[j]? == some true),(List.range ops.size).all (λj=>decide (j<m)||D[j]? == some false))=(true,true,true,true,true))
  (h:lD P (bSy ops m) Z1 m (Array.replicate m false) st (λst'=>lD P ops Z2 (ops.size-m) D st' (Q .normal))):AWp P (.region id ops true) st Q:=by
 simp only [Prod.mk.injEq,decide_eq_true_eq,List.all_eq_true,List.mem_range,beq_iff_eq,Bool.or_eq_true] at hc
 obtain ⟨hc1,hc2,hc3,hc4,hc5⟩:=hc
 intro a w hs QQ hQ
 refine Code.wp_mono (Q:=λe a' w'=>match e with|.normal=>QQ .normal a' w'|_=>False) EB ?_
 refine wp_region_any hm ?_
 show wpAny P .any ops _ ops.size (Array.replicate ops.size false) a w.drew
 rw [show ops.size=m+(ops.size-m) by omega]
 refine bUp (Q1:=λe a' w'=>match e with|.normal=>∃st',lD P ops Z2 (ops.size-m) D st' (Q .normal) /\ Sim st' a' w' /\ Ext st w.drew st' w'|_=>False) (D:=D) hc1 hc2 hc4 ?_ ?_ m (Array.replicate m false) _ a w.drew G0 DR J (λj hj=>?_) (λj hj=>?_) (λi o _ h=>?_) ?_
 ·rintro a' w' ⟨st',h1,h2,h3⟩
  exact wpAny_of_held _ _ _ _ (h1 a' w' h2 _ (λ_ _ _ q=>q) λa2 w2 st2 q2 s2 k2=>hQ _ a2 w2 st2 q2 s2 (by
   have k:=h3.trans k2
   exact ⟨⟨k.keep.os,k.keep.tape,k.keep.output,k.keep.size,k.keep.block⟩,⟨k.keepT.os,k.keepT.tape,k.keepT.output,k.keepT.size,k.keepT.block⟩,k.bl,k.T⟩))
 ·intro e a' w' he q
  cases e with
  |normal=>exact absurd rfl he
  |_=>exact q.elim
 ·rw [Array.getElem?_replicate,Array.getElem?_replicate,if_pos J,if_pos hj]
 ·rw [Array.getElem?_replicate]
  by_cases hjn:j<ops.size
  ·rw [if_pos J,(hc5 j hjn).resolve_left J]
  rw [if_neg J,Array.getElem?_eq_none J]
 ·exfalso
  rw [Array.getD_eq_getD_getElem?,Array.getElem?_replicate] at h
  split at h<;>cases h
 exact wpAny_of_held _ _ _ _ (h a w.drew hs.drew _ (λ_ _ _ q=>q) λa' w' st' q s' k=>⟨st',q,s',k⟩)
theorem bTy{P:Program}{id:Nat}{l l1 l2:List Oper}{st:AS}{Q:Exit -> AS -> Prop}(m:Nat)(Z1 Z2:List Nat)(D:Array Bool)[hs:vT m l l1 l2](hm:P.follows .mixedOrders=true)(hc:(bUz l.toArray m,decide (m <= l.toArray.size),decide (D.size=l.toArray.size),(List.range m).all (λj=>D[j]? == some true),(List.range l.toArray.size).all (λj=>decide (j<m)||D[j]? == some false))=(true,true,true,true,true))(h1:l1.length=m)
  (h:lD P l1.toArray Z1 m (Array.replicate m false) st (λst'=>lD P l.toArray Z2 (l.toArray.size-m) D st' (Q .normal))):AWp P (.region id l.toArray true) st Q:=by
 refine bT3 m Z1 Z2 D hm hc ?_
 rw [show bSy l.toArray m=l1.toArray by unfold bSy;rw [hs.h];simp only;rw [List.take_left' h1]]
 exact h
class cFh (v:Value) (T:List Nat):Prop where h:∀b,b∈aY v -> b∈T
instance (priority:=1200) rbIn_hit{v:Value}{T:List Nat}:cFh v (aY v++T):=⟨λ_ hb=>List.mem_append_left _ hb⟩
instance (priority:=1200) rbIn_self{v:Value}:cFh v (aY v):=⟨λ_ hb=>hb⟩
instance (priority:=1300) rbIn_none{T:List Nat}:cFh (.slice none 0 0) T:=⟨λb hb=>DF⟩
instance (priority:=1300) rbIn_lit{g n c:Nat}{T:List Nat}[h:InL g T]:cFh (.slice (some ⟨g,0,none⟩) n c) T:=⟨λb hb=>by
 simp only [aY,Value.ownBlock,Option.toList,mem_cons,not_mem_nil,or_false] at hb
 rw [hb];exact h.h⟩
instance cL6{v:Value}{X T:List Nat}[h:cFh v T]:cFh v (X++T):=⟨λb hb=>List.mem_append_right _ (h.h b hb)⟩
instance cLx{v:Value}{X T:List Nat}[h:cFh v X]:cFh v (X++T):=⟨λb hb=>List.mem_append_left _ (h.h b hb)⟩
instance cLw{v:Value}{x:Nat}{T:List Nat}[h:cFh v T]:cFh v (x::T):=⟨λb hb=>List.mem_cons_of_mem _ (h.h b hb)⟩
instance cNf{x:cFc}:mR (cE9 x) 3:=⟨rfl⟩
instance cM8{x:cG5}:mR (cF7 x) 3:=⟨rfl⟩
instance cN8{x:cFw}:mR (encI x) 12:=⟨rfl⟩
instance cL2{x:cFc}:iY (cE9 x) [Vs x.name,Vi x.kind,nC x.n]:=⟨rfl⟩
instance cMf{x:cG5}:iY (cF7 x) [Vb x.param,nC x.index,Sq fO x.at_]:=⟨rfl⟩
instance cMw{x:cFw}:iY (encI x) [Vi x.op,nC x.target,Vb x.global,Vi x.expr.op,Vi x.expr.num,Vs x.expr.name,Sq fO x.expr.args,Vb x.place.param,nC x.place.index,Sq fO x.place.at_,Sq fO x.ints,Sq cF7 x.places]:=⟨rfl⟩
theorem cG2{P:Program}{α:Type}{x y:Code}{st:AS}{Q:Exit -> AS -> Prop}(F:α -> AS)(h1:AWp P x st (sU (λs=>∃a,Sub s (F a)) Q))(h2:∀a,AWp P y (F a) Q):AWp P (.seq x y) st Q:=
 aHp (sE h1 λe s h=>by
  cases e with
  |normal=>obtain ⟨a,ha⟩:=h;exact zU ha (h2 a)
  |_=>exact h)
theorem cHm{α β:Type}(f:α -> β)(enc:β -> List AC)(l:List α)(k:Nat)(h:k<l.length):((l.take k).map f).flatMap enc++[f l[k]].flatMap enc=((l.take (k+1)).map f).flatMap enc:=by
 rw [List.take_succ_eq_append_getElem h,List.map_append,List.flatMap_append];rfl
end
end Go.Proofs.YtkfdfhcdmmlfmaaGreatDoor
