import Derived.Test.YtjgeihmhppadaaaGreatDoorRG15J
import Derived.Test.YtjgeihmhppadaaaGreatDoorCards
import Derived.Test.YtjgeihmhppadaaaGreatDoorTie
import Derived.Deep.DeepHandedRow
import Derived.LaidMore
set_option linter.all false
set_option synthInstance.maxHeartbeats 1000000
set_option synthInstance.maxSize 1000000
set_option maxHeartbeats 1600000
set_option maxRecDepth 100000
namespace Go.Proofs.YtjgeihmhppadaaaGreatDoor
open Go.Proofs.Tryz
open List (length_append length_cons length_nil mem_append mem_cons not_mem_nil append_assoc getElem_mem take_of_length_le)
section
open Go.RowKit
theorem bOx(w:World)(g n:Nat):cW [g] w (w.freeze ⟨g,0,none⟩ n):=by
 unfold World.freeze
 split
 ·exact cW.refl _ _
 exact ⟨Y,Y,Y,G0,λi hi hn=>by
  simp only [Array.getElem?_modify]
  rw [if_neg (by intro h;subst h;exact hn G0)]⟩
section
variable {P:Program}{U T:List Nat}{o:Oper}{n d:Nat}{ts:List (Nat×AT)}{K:AS -> Prop}{st:AS}{bx:List Box}{rw:List bA}
theorem bRy{x:Operand}{t:TypeId}{k c:Nat}(ho:o.op=.call {callee:=.builtin .unsafeSliceData,args:=#[x],argTypes:=#[t]})(hx:evA st x=some (Cv (.slice none k c))):AY P U o st (Cv (.pointer none)):=
 fW rfl λa w hs w'=>by
  simp only [execOp,ho,resolve,List.map_toArray,List.map_cons,List.map_nil,hs.val hx]
  simp [go_sem,invoke,builtin,Lib.run_unsafeSliceData_nil]
theorem bRn{x:Operand}{t:TypeId}{q:Addr}{k c:Nat}(ho:o.op=.call {callee:=.builtin .unsafeSliceData,args:=#[x],argTypes:=#[t]})(hx:evA st x=some (Cv (.slice (some q) k c)))(hc:c≠0):AY P U o st (Cv (.pointer (some q))):=
 fW rfl λa w hs w'=>by
  simp only [execOp,ho,resolve,List.map_toArray,List.map_cons,List.map_nil,hs.val hx]
  simp [go_sem,invoke,builtin,Lib.run_unsafeSliceData_row _ _ _ _ _ _ hc]
theorem bQq{x y:Operand}{pt it:TypeId}{q:Option Addr}(ho:o.op=.call {callee:=.builtin .unsafeString,args:=#[x,y],argTypes:=#[pt,it]})(hx:evA st x=some (Cv (.pointer q)))(hy:evA st y=some (Ci 0)):AY P U o st (Cs .empty):=
 fW rfl λa w hs w'=>by
  simp only [execOp,ho,resolve,List.map_toArray,List.map_cons,List.map_nil,hs.val hx,hs.val hy]
  simp [go_sem,invoke,builtin,Lib.run_unsafeString_none]
theorem bRt{x y:Operand}{pt it E:TypeId}{g cap:Nat}{l:List UInt8}(ho:o.op=.call {callee:=.builtin .unsafeString,args:=#[x,y],argTypes:=#[pt,it]})(hd:o.dst=some d)(hn:d<n)
  (hx:evA ⟨n,T,⟨bx,⟨.slice (some ⟨g,0,none⟩) l.length cap,E,1,l.length,iF l⟩::rw⟩,ts⟩ x=some (pP g)) (hy:evA ⟨n,T,⟨bx,⟨.slice (some ⟨g,0,none⟩) l.length cap,E,1,l.length,iF l⟩::rw⟩,ts⟩ y=some (nI l.length))
  (hp:P.underlying pt=some (.pointer E)) (hc:P.cellsOf E=1) (h0:l≠[]) (h63:l.length <= 9223372036854775807) (hT:g∈T) (hU:(⟨bx,⟨.slice (some ⟨g,0,none⟩) l.length cap,E,1,l.length,iF l⟩::rw⟩:Sto).bl.Nodup -> g∈U)
  (h:K ⟨n,T,⟨bx,rw⟩,(d,Cs (bytes l))::ts⟩):AO P U o ⟨n,T,⟨bx,⟨.slice (some ⟨g,0,none⟩) l.length cap,E,1,l.length,iF l⟩::rw⟩,ts⟩ K:=by
 intro a w hs KK QQ hK
 obtain ⟨us,hownR,hrep⟩:=hs.mem.row ⟨.slice (some ⟨g,0,none⟩) l.length cap,E,1,l.length,iF l⟩ G0
 obtain ⟨-,hown⟩:=hownR.row0 rfl
 rcases hown with ⟨h1,-⟩|⟨g',cap',cur,hv,-,hh,hkc,hcm,hcs,htk⟩
 ·cases h1
 cases hv
 dsimp only at hh hkc hcs htk hrep
 obtain rfl:us=cC l:=yC (vs:=cC l) (by rw [show (cC l).map AC.val=iF l by simp [cC,iF]];exact hrep)
 simp only [Nat.mul_one] at hcs htk
 have hsh:w.shape? g=some (E,cap):=by unfold World.shape?;rw [hh];simp [hcs]
 have hcell:∀j x,l[j]?=some x -> w.cell? ((⟨g,0,none⟩:Addr).add j)=some (.int .u8 x.toNat):=λj x hj=>by
  have hjl:j<l.length:=(List.getElem?_eq_some_iff.1 hj).1
  have e1:(⟨g,0,none⟩:Addr).add j=⟨g,j,none⟩:=Cl
  rw [e1]
  have e2:cur[j]?=some (.int .u8 x.toNat):=by
   have h9:=congrArg (λq:List Value=>q[j]?) htk
   simp only [List.getElem?_take,if_pos hjl,cC,List.getElem?_map,hj,Option.map_some,Array.getElem?_toList] at h9
   exact h9
  unfold World.cell?
  simp only [hh,Nat.zero_add]
  exact e2
 have hkF:=bOx w g l.length
 have hnd:=hs.mem.nodup
 have hg:g∉(⟨bx,rw⟩:Sto).bl:=λhm=>by
  unfold Sto.bl at hnd hm
  simp only [List.flatMap_cons] at hnd
  have hnd2:=List.nodup_append.1 hnd
  rcases mem_append.1 hm with hm|hm
  ·exact hnd2.2.2 g hm g Cq Y
  exact (List.nodup_append.1 hnd2.2.1).2.2 g Cq g hm Y
 have hsub:∀b,b∈(⟨bx,rw⟩:Sto).bl -> b∈(⟨bx,⟨.slice (some ⟨g,0,none⟩) l.length cap,E,1,l.length,iF l⟩::rw⟩:Sto).bl:=λb hb=>by
  unfold Sto.bl at hb⊢
  rcases mem_append.1 hb with hb|hb
  ·exact List.mem_append_left _ hb
  exact List.mem_append_right _ (by simp only [List.flatMap_cons];exact List.mem_append_right _ hb)
 have hgf:g∈(⟨bx,⟨.slice (some ⟨g,0,none⟩) l.length cap,E,1,l.length,iF l⟩::rw⟩:Sto).bl:=CZ
 have hu:Up2 (bI (⟨bx,⟨.slice (some ⟨g,0,none⟩) l.length cap,E,1,l.length,iF l⟩::rw⟩:Sto).bl w) (bI (⟨bx,rw⟩:Sto).bl (w.freeze ⟨g,0,none⟩ l.length)):=jA hkF (λx hx=>by simp at hx;subst hx;exact hgf) (λb hb=>.inl (hsub b hb))
 have hne:∀b,b∈(⟨bx,rw⟩:Sto).bl -> (w.freeze ⟨g,0,none⟩ l.length).heap[b]?=w.heap[b]?:=λb hb=>hkF.block b (hs.mem.lt b (hsub b hb)) (by simp;intro he;subst he;exact hg hb)
 have hsl:(⟨bx,rw⟩:Sto).bl.Sublist (⟨bx,⟨.slice (some ⟨g,0,none⟩) l.length cap,E,1,l.length,iF l⟩::rw⟩:Sto).bl:=List.Sublist.append (List.Sublist.refl _) (aE3 _ (List.Sublist.cons _ (List.Sublist.refl _)))
 have hm1:Mem ⟨bx,rw⟩ (w.freeze ⟨g,0,none⟩ l.length):=by
  refine ⟨hsl.nodup hs.mem.nodup,λb hb=>Nat.lt_of_lt_of_le (hs.mem.lt b (hsub b hb)) hkF.size,λx hx=>?_,λr hr=>?_⟩
  ·obtain ⟨us,e1,e2⟩:=hs.mem.box x hx
   exact ⟨us,by rw [hne _ (List.mem_append_left _ (List.mem_map.2 ⟨x,hx,rfl⟩))];exact e1,e2.mono hu⟩
  obtain ⟨us,e1,e2⟩:=hs.mem.row r (List.mem_cons_of_mem _ hr)
  exact ⟨us,e1.keep λq hq=>hne q (List.mem_append_right _ (List.mem_flatMap.2 ⟨r,hr,hq⟩)),e2.mono hu⟩
 unfold Oper.wp
 have hrun2:(execOp a.eval o).run P w=.ok (.value (.string (bytes l))) (w.freeze ⟨g,0,none⟩ l.length):=by
  simp only [execOp,ho,resolve,List.map_toArray,List.map_cons,List.map_nil,hs.val hx,hs.val hy]
  simp [go_sem,invoke,builtin,Lib.run_unsafeString_row w pt it _ E hp hc g cap hsh l h0 hkc h63 hcell]
  rfl
 rw [hrun2,Oper.upon_value,hd]
 exact hK _ _ _ h ((hs.step T (hkF.mono (by simp;exact hgf)) hm1 (λb hb=>.inl (hsub b hb))).put hn (dO.c _ _ (.val _ Y))) ⟨hkF.mono (by simp;exact hgf),hkF.mono DN,λb hb=>.inl (hsub b hb),λb hb=>.inl hb⟩ (hkF.mono Cp)
end
theorem bRx(p:cK)(B:List Box)(W:Nat)(rw:List bA)(hv:nY p=true)(hs:p.sane)(hw:p.wt <= 9000000)(hb:(cR p).length <= 100000000000000):aL prog 92 [bK5 (pP W),.agg (jV p)] (W::aY (.slice none 0 0)) (WS [] W 0 none (.slice none 0 0) [] B rw) (λt s'=>t=.tup [] /\ ∃a' v',(okA W a' /\ nz (cR p) v') /\ s'=WS [] W 0 a' v' (cR p) B rw):=
 bRp p [] B W 0 none (.slice none 0 0) [] rw (.inl rfl) (λ_=>rfl) rfl hv hs hw (by simpa using hb)
theorem bQo(A B:List Box)(W m:Nat)(a:Option Addr)(rw:List bA):aL prog 93 [pP W] [] (WS A W m a (.slice none 0 0) [] B rw) λt s'=>t=Cs (bytes []) /\ s'=⟨A++⟨W,181,[.val (.pointer a),Nl,nC m]⟩::B,rw⟩:=by
 refine acX 14 func93 ?_
 refine go 6 ?_
 refine dx [W] (tz [(0,true),(1,true),(2,true),(3,true)] 8 (go 5 ?_))
 refine tx 4 Y (bRy Y Y) (tz [(5,true),(6,true),(7,true),(8,true),(9,true)] 2 (go 6 ?_))
 refine tx 10 Y (bQq Y Y Y) (tz [(11,true)] 0 (go 2 ?_))
 refine ax (go 2 ?_)
 exact ⟨.inr Y,_,⟨A++⟨W,181,[.val (.pointer a),Nl,nC m]⟩::B,rw⟩,aR Y (aF Y),aA (.refl _) (.cons _ (.refl _)),Y,Y⟩
theorem bQ1(A B:List Box)(W m:Nat)(a:Option Addr)(bs:List UInt8)(rw:List bA)(g cap:Nat)(hc:cap≠0)(h0:bs≠[])(h63:bs.length <= 9223372036854775807):aL prog 93 [pP W] [g] (WS A W m a (.slice (some ⟨g,0,none⟩) bs.length cap) bs B rw) λt s'=>t=Cs (bytes bs) /\ s'=⟨A++⟨W,181,[.val (.pointer a),.val (.slice (some ⟨g,0,none⟩) bs.length cap),nC m]⟩::B,rw⟩:=by
 refine acX 14 func93 ?_
 refine go 6 ?_
 refine dx [W] (tz [(0,true),(1,true),(2,true),(3,true)] 8 (go 5 ?_))
 refine tx 4 Y (bRn Y Y hc) (tz [(5,true),(6,true),(7,true),(8,true),(9,true)] 2 (go 6 ?_))
 refine ox 10 Y Y (bRt Y Y V Y Y underlying206 B6 h0 h63 Cq (λhn=>qW hn Cq) ?_)
 refine tz [(11,true)] 0 (go 2 ?_)
 refine ax (go 2 ?_)
 exact ⟨.inr Y,_,⟨A++⟨W,181,[.val (.pointer a),.val (.slice (some ⟨g,0,none⟩) bs.length cap),nC m]⟩::B,rw⟩,aR Y (aF Y),aA (.refl _) (.refl _),Y,Y⟩
theorem bQs(A B:List Box)(W m:Nat)(a:Option Addr)(v:Value)(bs:List UInt8)(rw:List bA)(hz:nz bs v)(hb:bs.length <= 9223372036854775807):aL prog 93 [pP W] (aY v) (WS A W m a v bs B rw) λt s'=>t=Cs (bytes bs) /\ s'=⟨A++⟨W,181,[.val (.pointer a),.val v,nC m]⟩::B,rw⟩:=by
 intro vs w hm hT hl hr
 obtain ⟨us,hownR,hrep⟩:=hm.row ⟨v,5,1,bs.length,iF bs⟩ G0
 obtain ⟨hlen,hown⟩:=hownR.row Nat.zero_lt_one
 dsimp only at hlen hown hrep
 rcases hown with ⟨rfl,h0⟩|⟨g,cap,cur,rfl,-,hh,hkc,hcm,hcs,htk⟩
 ·obtain rfl:bs=[]:=List.length_eq_zero_iff.1 h0
  exact bQo A B W m a rw vs w hm hT hl hr
 by_cases h0:bs=[]
 ·have:=hz h0;cases this
 exact bQ1 A B W m a bs rw g cap (by have:bs.length≠0:=(by simpa using h0);omega) h0 hb vs w hm hT hl hr
theorem bSa{p:cK}(h1:bL1 p=true)(h2:(p.funcs.any λf=>!gW f)=false):nY p=true:=by
 rw [show nY p=(bL1 p && p.funcs.all gW) from rfl,h1,bMb h2];rfl
theorem bPo{p:cK}(h1:bL1 p=false):nY p=false:=by rw [show nY p=(bL1 p && p.funcs.all gW) from rfl,h1];rfl
theorem bPz{p:cK}(h2:(p.funcs.any λf=>!gW f)=true):nY p=false:=by rw [show nY p=(bL1 p && p.funcs.all gW) from rfl,bO1 h2,Bool.and_false]
abbrev bM6(p:cK):List UInt8:=if nY p=true then cR p else []
abbrev bRg(p:cK):AT:=.tup [Cs (bytes (bM6 p)),Cb (jI p)]
theorem bMv{p:cK}{x:ByteArray}{b:Bool}(h1:bytes (bM6 p)=x)(h2:jI p=b):(AT.tup [Cs x,Cb b])=bRg p:=by unfold bRg;rw [h1,h2]
theorem bM7(p:cK)(hs:p.sane)(hw:p.wt <= 9000000)(s:Sto):aL prog 68 [bK5 (.agg (jV p))] [] s λt s'=>t=bRg p /\ s'=s:=by
 obtain ⟨bx,rw⟩:=s
 refine acX 36 func68 ?_
 refine go 11 λb1=>?_
 rcases Bool.eq_false_or_eq_true (bL1 p) with h1|h1
 ·refine bK8 0 Y call88 Y (bP0 p hs J _) h1 (go 4 ?_)
  rcases Bool.eq_false_or_eq_true (p.funcs.any λf=>!gW f) with h2|h2
  ·refine bK8 0 Y call89 Y (bNy (λf=>!gW f) p.funcs 90 #[] _ Ea call90 BJ) h2 (go 12 ?_)
   exact ⟨.inr Y,_,⟨bx,rw⟩,uM Y (aF Y) (aF Y),aA (.cons _ (.refl _)) (.refl _),bMv (by unfold bM6;rw [if_neg (by rw [bPz h2];decide)];rfl) (by rw [nX,bPz h2];rfl),Y⟩
  refine bK8 0 Y call89 Y (bNy (λf=>!gW f) p.funcs 90 #[] _ Ea call90 BJ) h2 (go 8 ?_)
  have hv:nY p=true:=bSa h1 h2
  refine go 7 λb2=>?_
  refine bR3 5 1 ?_
  refine go 2 ?_
  refine wo Y (bO5 0 Y call92 Y (bRx p _ b2 rw hv hs hw (by have:=aAd hs hv;omega)) G0 (λb hb=>DF) (λ_=>⟨G0,λb hb=>DF⟩) λa2 v2 hC2=>?_)
  refine go 7 ?_
  refine wo Y (bD (aY v2) Y Y V call93 Y (bQs [] _ b2 0 a2 v2 (cR p) rw hC2.2 (by have:=aAd hs hv;omega)) Bq (λb hb=>by simp [Sto.bl,hb]) Bo ?_)
  rintro _ _ ⟨rfl,rfl⟩
  refine go 6 ?_
  refine wo Y (aDc Y Y V Y underlying9 underlying58 underlying5 (by rw [kT];have:=aAd hs hv;omega) (N:=(cR p).length) Y (cs:=iF (cR p)) Y ?_)
  refine wo Y (bN9 0 [] Y Y V call94 Y Y (λm=>aP8 (cR p) m _) bDl bDl (λ_=>bDl) ?_)
  rintro _ _ ⟨(⟨tl5,hlx5,rfl,htl5⟩|⟨p5,e5,hlx5,rfl,he5⟩),rfl⟩
  focus
   refine go 13 ?_
   refine wcp true Y B7 (go 5 ?_)
  rotate_left
  refine go 13 ?_
  refine wcp false Y (eD J) (go 5 ?_)
  all_goals
   exact ⟨.inr Y,_,⟨bx,rw⟩,uM Y (aF Y) (aF Y),aA (.cons _ (.cons _ (.refl _))) (.refl _),bMv (by unfold bM6;rw [if_pos hv]) (by rw [nX,hv,hlx5];rfl),Y⟩
 refine bK8 0 Y call88 Y (bP0 p hs J _) h1 (go 17 ?_)
 exact ⟨.inr Y,_,⟨bx,rw⟩,uM Y (aF Y) (aF Y),aA (.cons _ (.refl _)) (.refl _),bMv (by unfold bM6;rw [if_neg (by rw [bPo h1];decide)];rfl) (by rw [nX,bPo h1];rfl),Y⟩
theorem bOk(p:cK)(hs:p.sane)(hw:p.wt <= 9000000)(s:Sto):aL prog 31 [bK5 (.agg (jV p))] [] s λt s'=>t=Cb (jI p) /\ s'=s:=by
 obtain ⟨bx,rw⟩:=s
 refine acX 11 func31 ?_
 refine go 9 λb1=>?_
 refine wcR 0 Y call68 Y (bM7 p hs hw _) (go 14 ?_)
 exact bHe (s':=⟨bx,rw⟩) Y sb1 ⟨cX Y,Y⟩
end
section
open Go.RowKit
instance cEl:eM prog 77 [.val (.map none),.val (.map none),.val (.map none),.val (.map none),.val (.map none),Vi 0,Nl,Nl,Vi 0]:=⟨_,zeroValue77,rfl⟩
instance cEk:Plc prog 77 [(0,1),(1,1),(2,1),(3,1),(4,1),(5,1),(6,1),(7,1),(8,1)] [.val (.map none),.val (.map none),.val (.map none),.val (.map none),.val (.map none),Vi 0,Nl,Nl,Vi 0]:=⟨_,Tryz.t77,_,underlying77,B6,rfl,B6,rfl⟩
instance cOm:eM prog 98 [Nl,Nl,Nl,.val (.map none),.val (.map none),Vi 0,Vi 0]:=⟨_,zeroValue98,rfl⟩
instance cOh:Plc prog 98 [(0,3),(3,1),(4,1),(5,1),(6,1)] [Nl,Nl,Nl,.val (.map none),.val (.map none),Vi 0,Vi 0]:=⟨_,Tryz.t98,_,underlying98,B6,rfl,B6,rfl⟩
theorem cDc{p:cK}(h:jI p=false):cAb p=(-1,-1,10):=by unfold cAb;rw [if_pos h]
theorem cDf{p:cK}{i:Nat}{v:Vis}(h:jI p=true)(hd:bZz (bZs p) [] 0=(some i,v)):cAb p=(-1,(i:Int),5):=by unfold cAb;rw [if_neg B5,hd]
theorem cCj{p:cK}{v:Vis}(h:jI p=true)(hd:bZz (bZs p) [] 0=(none,v))(hm:cA9 p=false):cAb p=(-1,-1,9):=by unfold cAb;rw [if_neg B5,hd];dsimp only;rw [if_neg (by rw [hm];decide)]
theorem cCk{p:cK}{v:Vis}(h:jI p=true)(hd:bZz (bZs p) [] 0=(none,v))(hm:cA9 p=true):cAb p=cAg (bZ7 p.funcs) p.funcs 0 v:=by unfold cAb;rw [if_neg B5,hd];dsimp only;rw [if_pos hm]
theorem cDg{p:cK}(h:bZu (bZ7 p.funcs) cCg=none):cA9 p=false:=by unfold cA9;rw [h]
theorem cB6{p:cK}{f:bS}(h:bZu (bZ7 p.funcs) cCg=some f):cA9 p=decide (f.params.length=0):=by unfold cA9;rw [h]
theorem cBq{fs:Fns}{l:List bS}{v v0:Vis}{k:Nat}(hk:k<l.length)(h:cAg fs (l.drop k) k v=cAg fs l 0 v0):
  ((cAe fs l[k] v).1=0 -> cAg fs (l.drop (k+1)) (k+1) (cAe fs l[k] v).2.vis=cAg fs l 0 v0) /\ ((cAe fs l[k] v).1≠0 -> cAg fs l 0 v0=((k:Int),(cAe fs l[k] v).2.at_,(cAe fs l[k] v).1)):=by
 rw [List.drop_eq_getElem_cons hk,cAg] at h
 refine ⟨λh0=>?_,λh0=>?_⟩
 ·rw [if_pos h0] at h;exact h
 rw [if_neg h0] at h;exact h.symm
theorem cCm(p:cK)(hs:p.sane)(hw:p.wt <= 9000000)(s:Sto):aL prog 14 [bK5 (.agg (jV p))] [] s λt s'=>∃(f s0:Int) (e:Nat),cAb p=(f,s0,e) /\ t=.tup [Ci f,Ci s0,nI e] /\ s'=s:=by
 obtain ⟨bx,rw⟩:=s
 have hwq:=hw
 unfold cK.wt at hwq
 have hfl:=aDr bS.wt (λf=>by unfold bS.wt;omega) p.funcs
 refine acX 61 func14 ?_
 refine go 12 λb1=>?_
 rcases Bool.eq_false_or_eq_true (jI p) with h1|h1
 ·refine bK8 0 Y call31 Y (bOk p hs hw _) h1 (go 9 ?_)
  refine wo Y (cB3 0 (evI) Y Y V λgv=>?_)
  refine wo Y (cB3 3 (fV) Y Y V λgf=>?_)
  refine go 9 λC=>?_
  refine wo Y (bD [C,gv,gf] Y Y V call32 Y (cD4 [] _ C gv gf p rw J J J) (by intro b hb;simp at hb⊢;rcases hb with rfl|rfl|rfl<;>simp) (by intro b hb;simp at hb;rcases hb with rfl|rfl|rfl<;>simp [Sto.bl,bZw]) (by intro _ b hb;simp at hb⊢;rcases hb with rfl|rfl|rfl<;>simp) ?_)
  rintro _ _ ⟨r,v0,fsx,hd,rfl,rfl,hok⟩
  rcases r with _|ix
  ·obtain ⟨rfl,hf0⟩:=hok rfl
   clear hok
   show eQ prog _ _ ⟨_,_,_,(_,Ci (-1))::_⟩ _
   refine go 6 ?_
   refine wcp false Y Y (go 12 ?_)
   rcases hmn:bZu (bZ7 p.funcs) cCg with _|fm
   ·refine wyz Y (cDh (m:=3) (ev:=fV) (bZ7 p.funcs) Y Y Y G0 V (λ_=>Y) underlying96 underlying9 zeroValue67 Bu hmn (.agg [Vs ⟨#[]⟩,Nl,Nl]) Y) (go 30 λb4=>?_)
    exact ⟨.inr Y,_,⟨bx,rw⟩,pC Y (aF Y) (aF Y) (aF Y),aA (.cons _ (.cons _ (.cons _ (.refl _)))) (.cons _ (.cons _ (.refl _))),-1,-1,9,cCj h1 hd (cDg hmn),Y,Y⟩
   refine wyz Y (cDa (m:=3) (ev:=fV) (bZ7 p.funcs) Y Y Y G0 V (λ_=>Y) underlying96 underlying9 zeroValue67 Bu hmn) (go 16 λb5=>?_)
   by_cases h5:(0:Int)<((fm.params.length:Nat):Int)
   ·refine wcp true Y (mH h5) (go 13 ?_)
    exact ⟨.inr Y,_,⟨bx,rw⟩,pC Y (aF Y) (aF Y) (aF Y),aA (.cons _ (.cons _ (.cons _ (.refl _)))) (.cons _ (.cons _ (.refl _))),-1,-1,9,cCj h1 hd (by rw [cB6 hmn];exact decide_eq_false J),Y,Y⟩
   refine wcp false Y (mI h5) (go 16 ?_)
   have hmz:cA9 p=true:=by rw [cB6 hmn];exact decide_eq_true J
   refine fM (λg:Nat×Vis×Int×Int=>(⟨61,[b5,C,gf,gv,b1],⟨⟨b5,67,fV fm⟩::⟨C,98,[Sq dB p.globals,Sq bT p.mutexes,Sq fV p.funcs,Vm gv,Vm gf,Vi g.2.2.1,Vi g.2.2.2]⟩::⟨b1,27,jV p⟩::bx,cR3 gf 3 fV (bZ7 p.funcs)::cR3 gv 0 evI g.2.1::rw⟩,[(44,nI g.1),(1,pP b1),(2,Ci 0),(3,Ci 0),(4,Ci 0),(5,pP C),(7,pP b5),(42,.c (Sq fV p.funcs)),(43,nI p.funcs.length)]⟩:AS)) (λg=>g.1 <= p.funcs.length /\ cAg (bZ7 p.funcs) (p.funcs.drop g.1) g.1 g.2.1=cAg (bZ7 p.funcs) p.funcs 0 v0 /\ bZt g.2.1 (bZ7 p.funcs)) (λg=>p.funcs.length-g.1) (0,v0,0,0) (cQf AP) ⟨Nat.zero_le _,Y,hf0⟩ ?_
   rintro ⟨k,vis,n0,a0⟩ ⟨hk,hst,hfk⟩
   dsimp only at hk hst hfk
   try dsimp only
   refine go 2 ?_
   by_cases h8:((k:Nat):Int)<((p.funcs.length:Nat):Int)
   ·refine wcp true Y (jZ h8) (go 11 ?_)
    refine wyz Y (bH fV fV p.funcs vC (λ_=>Y) k Y Y Y Y J V runUnderlying25 sizeOf67) (go 10 λb6=>?_)
    refine wo Y (bD [C,gv] Y Y V call33 Y (cD6 [_,_] _ C gv gf p (bZ7 p.funcs) [_] rw G0 _ _ vis p.funcs[k] hfk (by have:=aDi bS.wt p.funcs k J;unfold cK.wt at hw;omega)) Ba AQ AX ?_)
    rintro _ _ ⟨e,y,hy,rfl,rfl⟩
    refine go 6 ?_
    by_cases h10:((e:Nat):Int)=0
    ·refine wcp false Y (xG h10) (go 7 ?_)
     refine wad Y (go 2 ?_)
     have hnx:=(cBq J hst).1 (by rw [hy];show e=0;omega)
     rw [hy] at hnx
     have hf1:=cDt p.funcs[k] hfk
     rw [hy] at hf1
     exact ⟨(k+1,y.vis,((y.n:Nat):Int),y.at_),⟨by show k+1 <= p.funcs.length;omega,hnx,hf1⟩,Et,cQf (h1:=(.cons _ (.refl _))) (h:=aG Y (gQ J) (sA Y)) AP⟩
    refine wcp true Y (xL h10) (go 4 ?_)
    refine dx [b6,b5,C,b1] (tz [(0,true),(1,true),(2,true),(3,true),(4,true),(5,true),(6,true),(7,true),(8,true)] 0 (go 10 ?_))
    refine ax (go 7 ?_)
    exact ⟨.inr Y,_,⟨bx,rw⟩,pC Y (aF Y) (aF Y) (aF Y),aA (.cons _ (.cons _ (.cons _ (.cons _ (.refl _))))) (.cons _ (.cons _ (.refl _))),((k:Nat):Int),y.at_,e,(by rw [cCk h1 hd hmz,(cBq J hst).2 (by rw [hy];show e≠0;omega),hy]),Y,Y⟩
   refine wcp false Y (jQ h8) (go 17 ?_)
   exact ⟨.inr Y,_,⟨bx,rw⟩,pC Y (aF Y) (aF Y) (aF Y),aA (.cons _ (.cons _ (.cons _ (.refl _)))) (.cons _ (.cons _ (.refl _))),0,0,0,(by rw [cCk h1 hd hmz,←hst,List.drop_eq_nil_of_le J];rfl),Y,Y⟩
  show eQ prog _ _ ⟨_,_,_,(_,nI ix)::_⟩ _
  refine go 6 ?_
  refine wcp true Y (aMq J) (go 13 ?_)
  exact ⟨.inr Y,_,⟨bx,rw⟩,pC Y (aF Y) (aF Y) (aF Y),aA (.cons _ (.cons _ (.refl _))) (.cons _ (.cons _ (.refl _))),-1,((ix:Nat):Int),5,cDf h1 hd,Y,Y⟩
 refine bK8 0 Y call31 Y (bOk p hs hw _) h1 (go 13 ?_)
 exact ⟨.inr Y,_,⟨bx,rw⟩,pC Y (aF Y) (aF Y) (aF Y),aA (.cons _ (.refl _)) (.refl _),-1,-1,10,cDc h1,Y,Y⟩
end
section
open Go.ChangeShapes Go.WideShapes Go.ChangeAt Go.RowKit
theorem own:ownKnob prog.godebug=none:=B6
theorem laidOut:laidOutB prog=true:=B6
theorem aRc : prog.globalNamed "lockorder/token.words" = some 0 := by kernel_rfl
theorem aA1{H:Type}{enc:TypeId×Value -> H}{P:Program}{w:World}{base:Nat}{sp:Nat -> Bool}{held:Bool}{fuel:Nat}{t e:TypeId}{n:Nat}{cs:List Value}{zs:List (List UInt8)}{p:List MemPlace}
  (ht:P.underlying t=some (.array n e)) (he:P.underlying e=some .string) (hce:P.cellsOf e=1) (hct:P.cellsOf t=n)
  (h:DataW.trod enc P w base sp held fuel t cs=some (.agg (zs.map λz=>.lit (.string z)),p)):cs=zs.map λz=>Value.string (bytes z):=by
 cases fuel with
 |zero=>simp [DataW.trod] at h
 |succ fuel=>
  simp only [DataW.trod,ht,hce,hct,Nat.mul_one] at h
  split at h
  ·rename_i hl
   obtain ⟨xs,hm,hx⟩:=Option.map_eq_some_iff.1 h
   have hxs:xs.map (·.1)=zs.map λz=>(DataW.lit (.string z):DataW H):=by
    have:=congrArg Prod.fst hx
    simpa using this
   have hxl:xs.length=n:=by simpa using Lib.mapM_length hm
   have hzl:zs.length=n:=by
    have:=congrArg List.length hxs
    simp at this
    omega
   apply List.ext_getElem?
   intro i
   by_cases hi:i<n
   ·obtain ⟨b,hb,hf⟩:=Lib.mapM_at hm i i (by simp [hi])
    obtain ⟨z,hc,rfl,_⟩:=DataW.trod_string he hf
    have h1:cs[i]?=some (.string z):=by
     have:=congrArg (·[0]?) hc
     simpa [List.getElem?_take,List.getElem?_drop] using this
    have h2:(xs.map (·.1))[i]?=some (DataW.lit (.string z.data.toList):DataW H):=by simp [hb]
    rw [hxs] at h2
    simp only [List.getElem?_map,Option.map_eq_some_iff,DataW.lit.injEq,Lit.string.injEq] at h2
    obtain ⟨z',hz',he'⟩:=h2
    simp [h1,hz',bytes,he']
   rw [List.getElem?_eq_none J,List.getElem?_eq_none DR]
  cases h
def aGj:List (List UInt8):=words.map λb=>b.data.toList
theorem sV{H:Type}{enc:TypeId×Value -> H}{W W':World}(hb:Below W.heap.size W W'):
  ∀{ts:List TypeId} {vs:List Value} {ds:List (DataW H)} {ps:List MemPlace},(∀t∈ts,prog.readableRec t=true /\ t<prog.types.size) -> DataW.TrodAll enc prog W 0 (λ_=>true) true ts vs ds ps -> (∀x∈ps,x.block<W.heap.size) ->
   DataW.TrodAll enc prog W' 0 (λb=>decide (b<W.heap.size)) true ts vs ds ps
 |[],_,_,_,_,h,_=>by
  obtain ⟨rfl,rfl,rfl⟩:=trodAll_nil h
  exact trodAll_mk0
 |t::ts,_,_,_,hr,h,hlt=>by
  obtain ⟨v,vs1,d,ds1,a,b,rfl,rfl,rfl,h1,h2⟩:=trodAll_cons h
  have ht:=hr t (List.mem_cons_self ..)
  exact ⟨a,b,Below.trod laidOut ht.1 ht.2 h1 hb (λx hx=>hlt x (List.mem_append_left _ hx)),
   sV hb (λu hu=>hr u (List.mem_cons_of_mem _ hu)) h2 (λx hx=>hlt x (List.mem_append_right _ hx)),rfl⟩
theorem aMc{H:Type}{enc:TypeId×Value -> H}{F:Func}{s:ChangeSpec}{W W':World}{args:Array Value}{ds gs:List (DataW H)}{before:List MemPlace}
  (hW:DataW.Whole enc prog F.params.toList s.vars false W args.toList ds gs before) (hv:s.vars=[]) (hfn:s.fn H ds={results:=[.lit (.bool true)],args:=ds})
  (hread:∀t∈F.params.toList,prog.readableRec t=true /\ t<prog.types.size) (hres:F.resultTypes=#[4]) (hb:Below W.heap.size W W'):
  ∃v,Ending.returned (.bool true)=.returned v /\ s.post enc prog F false true false false W args v W':=by
 refine ⟨_,Y,?_⟩
 have hlt:∀p∈before,p.block<W.heap.size:=λp hp=>by simpa using hW.lt p hp
 have hW':=hW
 obtain ⟨p,q,hA,hV,rfl,hfz,hnd⟩:=hW
 rw [hv] at hV
 obtain ⟨rfl,rfl⟩:=trodVars_none hV
 simp only [List.append_nil] at hlt hW'
 refine ⟨ds,[],p,[],p,[],hW',?_,?_,?_,?_,λh=>DV⟩
 ·rw [hres,List.append_nil,hfn]
  exact trodAll_cons_mk (shut_bool underlying4 true) trodAll_mk0
 ·rw [List.append_nil,hfn]
  exact sV hb hread hA hlt
 ·rw [List.append_nil,hfn,hv];rfl
 exact hb.frame _
theorem aFm{W:World}{a:Addr}{u:Value}(h:W.cell? (a.add 0)=some u):∃b off,a=⟨b,off,none⟩:=by
 obtain ⟨b,off,sp⟩:=a
 cases sp with
 |none=>exact ⟨b,off,rfl⟩
 |some k=>
  exfalso
  simp only [Addr.add,if_true] at h
  unfold World.cell? at h
  split at h
  ·simp at h
  cases h
end
section
open Go.ChangeShapes Go.WideShapes Go.ChangeAt Go.RowKit
theorem aHn{H:Type}{enc:TypeId×Value -> H}{W:World}{base:Nat}{v:Value}{d:DataW H}{p:List MemPlace}(hval:Value.okWide prog W .any base 22 v)(hd:DataW.Trod enc prog W 0 (λ_=>true) true 22 v d p):
  ∃(s:List Int) (a:Option Addr) (cap:Nat),v=.slice a s.length cap /\ s.length <= cap /\ cap <= maxLen /\ dD W v s.length (s.map (.int .i64)):=by
 obtain ⟨a,len,cap,rfl⟩:=okWide_slice underlying22 hval
 obtain ⟨fuel,hf⟩:=hd
 rcases open_ints underlying22 underlying3 B6 hf with ⟨hcs,hx⟩|⟨a',len',cap',zs,hcs,_,hl,hm,hz,hx,hcell,hwz⟩
 ·simp [Value.cells] at hcs
  obtain ⟨rfl,rfl,rfl⟩:=hcs
  exact ⟨[],none,0,Y,Nat.le_refl _,B1,dD.nil _⟩
 simp [Value.cells] at hcs
 obtain ⟨rfl,rfl,rfl⟩:=hcs
 simp only [if_true] at hz
 have hlen:(zs.take len).length=len:=Gl
 refine ⟨zs.take len,some a',cap,by rw [hlen],by rw [hlen];exact hl,hm,some a',cap,by rw [hlen],by rw [hlen];exact hl,?_⟩
 by_cases h0:len=0
 ·left;subst h0;rfl
 right
 obtain ⟨b,off,rfl⟩:=aFm (hcell 0 J)
 refine ⟨b,off,Y,λj u hu=>?_⟩
 have hj:j<len:=by
  rcases Nat.lt_or_ge j len with h|h
  ·exact h
  rw [List.getElem?_eq_none (by rw [List.length_map,hlen];exact h)] at hu;cases hu
 have hc:=hcell j J
 rw [add_plain] at hc
 rw [hc]
 simp only [List.getElem?_map,List.getElem?_take,if_pos hj,List.getElem?_eq_getElem (show j<zs.length by omega),Option.map_some] at hu
 rw [←hu]
 simp [List.getD,show j<zs.length by omega]
end
section
open Go.ChangeShapes Go.WideShapes Go.ChangeAt Go.RowKit
theorem bR6 : prog.globalNamed "lockorder/expr.signs" = some 3 := by kernel_rfl
theorem bSj : prog.globalNamed "internal/strconv.uint64pow10" = some 1 := by kernel_rfl
def bRe:List (List UInt8):=bLb.map λb=>b.data.toList
abbrev bQr : List (String × DataW Unit) := [("math/bits.deBruijn32tab", Rows.laid_math_bits_deBruijn32tab), ("math/bits.deBruijn64tab", Rows.laid_math_bits_deBruijn64tab), ("internal/strconv.uint64pow10", Rows.laid_internal_strconv_uint64pow10), ("lockorder/token.words", Rows.laid_lockorder_token_words), ("lockorder/expr.signs", Rows.laid_lockorder_expr_signs)]
theorem bRl{W:World}(h:laidMetH prog bQr W)(hs:W.ShapedOpen prog):bM9 W:=by
 obtain ⟨ps,hL,_⟩:=(show laidMet prog bQr W from h)
 obtain ⟨_,_,_,_,_,_,_,_,_,_,hL,_⟩:=hL
 obtain ⟨_,_,_,_,_,_,_,_,_,_,hL,_⟩:=hL
 obtain ⟨g3,t3,cs3,fuel3,p3,q3,hg3,ht3,hvar3,hd3,hL,_⟩:=hL
 obtain ⟨g',t',cs,fuel,p,q,hg',ht',hvar,hd,hL,_⟩:=hL
 obtain ⟨g2,t2,cs2,fuel2,p2,q2,hg2,ht2,hvar2,hd2,_,_⟩:=hL
 refine ⟨λj hj=>?_,?_,⟨λj hj=>?_⟩,?_⟩
 ·obtain rfl:=Option.some.inj (aRc.symm.trans hg')
  obtain rfl:t'=257:=Option.some.inj (ht'.symm.trans (show (prog.globals[0]?).map (·.type)=some 257 by kernel_rfl))
  have hc:=aA1 (zs:=aGj) (n:=11) (e:=9) underlying257 underlying9 B6 B6 hd
  have:=World.var?_cell hg' hvar j
  rw [←Array.getElem?_toList,hc] at this
  rw [this]
  simp only [aGj,List.map_map]
  rw [List.getElem?_map,List.getElem?_eq_getElem hj]
  simp [bytes]
 ·exact cell_of_shapedOpen_int (zero:=#[.int .i64 0]) (t:=3) hs (of_decide_eq_true B6) B6 Y B6 B6 underlying3
 ·obtain rfl:=Option.some.inj (bR6.symm.trans hg2)
  obtain rfl:t2=266:=Option.some.inj (ht2.symm.trans (show (prog.globals[3]?).map (·.type)=some 266 by kernel_rfl))
  have hc:=aA1 (zs:=bRe) (n:=18) (e:=9) underlying266 underlying9 B6 B6 hd2
  have:=World.var?_cell hg2 hvar2 j
  rw [←Array.getElem?_toList,hc] at this
  rw [this]
  simp only [bRe,List.map_map]
  rw [List.getElem?_map,List.getElem?_eq_getElem hj]
  simp [bytes]
 obtain rfl:=Option.some.inj (bSj.symm.trans hg3)
 obtain rfl:t3=261:=Option.some.inj (ht3.symm.trans (show (prog.globals[1]?).map (·.type)=some 261 by kernel_rfl))
 unfold Lib.TabIs
 rw [hvar3,←Lib.cells_of_tab (zs:=Lib.pow10Tab) (k:=.u64) underlying261 underlying215 B6 B6 hd3]
theorem bQj(os:Os)(args:Array Value):laidMet prog bQr ((World.doorLaid prog 60 os).forCall (λ_ _=>0) ⟨#[],args,[]⟩).memory:=
 laidMet_of_run' 8 B6 B6
theorem bO6(w:World):Up2 w (bI [] w):=
 ⟨λa u h=>by rw [eW _ _ _ G0];exact h,λg cs t fz h _=>by rw [aFp _ _ _ G0];exact h⟩
theorem bOi{w:World}{t:AT}{v:Value}(he:bM9 w)(h:dO (bI [] w) t v):dO (bI [] w) (bK5 t) v:=bOr h (he.up (bO6 w))
theorem bRj{P:Program}{U:List Nat}{o:Oper}{n d:Nat}{T:List Nat}{s:Sto}{ts:List (Nat×AT)}{K:AS -> Prop}{F:FuncId}{t0:AT}(i0:Nat)(ho:o.op=.call {callee:=.value (.func F),args:=#[],argTypes:=#[]})(hd:o.dst=some d)(hn:d<n)
  (hcf:∀args w,(callFunc F args).run P w=.ok (.enter F args) w) (hl:look ts i0=some (bK5 t0)) (hc:∀w,bM9 w -> Calls P F #[] w λe w'=>e=.returned (.bool true) /\ Below w.heap.size w w')
  (h:K ⟨n,T,s,(d,Cb true)::ts⟩):AO P U o ⟨n,T,s,ts⟩ K:=by
 intro a w hs KK QQ' hK
 obtain ⟨v0,-,hv0⟩:=hs.tm i0 _ hl
 unfold Oper.wp
 rw [show (execOp a.eval o).run P w=.ok (.enter F #[]) w from by
  simp only [execOp,ho,resolve,Deferred.ofValue,Act.eval,Sem.run_bind,Sem.run_pure,Result.andThen_ok,invoke]
  rw [hcf];simp,Oper.upon_enter]
 refine (hc w (bMx hv0)).mono ?_
 rintro en w' ⟨rfl,hb⟩
 dsimp only
 rw [hd]
 obtain ⟨hk,hm⟩:=aBl hs.mem hb
 have s1:=hs.step (st:=⟨n,T,s,ts⟩) T (hk.mono G0) hm (λb hb=>.inl hb)
 exact hK _ _ _ h (s1.put hn (dO.c _ _ (.val _ Y))) ⟨hk.mono G0,hk.mono G0,λb hb=>.inl hb,λb hb=>.inl hb⟩ (hk.mono G0)
theorem bPa{P:Program}{F:FuncId}{fn:Func}{c:Code}(hf:P.funcs[F]?=some fn)(hb:fn.body=some c)(i:Nat)(hi:i<fn.ntmps){w:World}(he:bM9 w)
  (h:AWp P c ⟨fn.ntmps,[],⟨[],[]⟩,[(i,bK5 (.raw undef))]⟩ λe st=>(e=.normal∨e=.ret) /\ ∃r s',aEt P fn st r /\ aAz st.s s' /\ r=Cb true /\ s'=⟨[],[]⟩):Calls P F #[] w λe w'=>e=.returned (.bool true) /\ Below w.heap.size w w':=by
 have hm:Mem ⟨[],[]⟩ w:=⟨List.nodup_nil,(λb hb=>absurd hb (by simp [Sto.bl])),Db,Db⟩
 refine calls_of_wp hf hb ?_
 refine h _ w ⟨Y,?_,λj t ht=>?_,hm⟩ _ ?_
 ·simp
 ·simp only [look] at ht
  split at ht
  ·rename_i hj;subst hj;cases ht
   exact ⟨undef,by simp [hi],bOr (.raw _) (he.up (bO6 w))⟩
  cases ht
 intro e a' w' st' q s' k
 obtain ⟨he,r,s2,hres,hsub,rfl,rfl⟩:=q
 obtain ⟨v,h1,h2⟩:=hres a' w' s'
 have hv:v=.bool true:=by cases h1 with|c _ _ h4=>cases h4;rfl
 subst hv
 have hk:=k.keepT
 rcases he with rfl|rfl
 rotate_left
 all_goals
  exact ⟨s'.df,_,h2,Y,⟨hk.os,hk.tape,hk.output,hk.size,λj hj=>hk.block j hj G0⟩⟩
end
section
open Go.RowKit
structure TOk (l:List Tok):Prop where
 last:rP l
 reg:∀t,t∈l -> aPn t
 len:l.length <= 1000000
def cAf(l:List Tok)(k:Nat)(s:ByteArray):Bool:=(decide ((bU l k).kind=4)||decide ((bU l k).kind=3)) && decide ((bU l k).text=s)
theorem lA{e:Nat}(h:e≠0):bC .eql (e:Int) 0=some false:=Do
theorem jS{m n:Nat}:bC .eql (m:Int) (n:Int)=some (decide (m=n)):=by
 by_cases h:m=n
 ·subst h;simp [bC]
 have h2:¬(m:Int)=(n:Int):=J
 simp [bC,h,h2]
theorem bEp{l:List Tok}(h:TOk l){k:Nat}(hk:k<l.length){s:List UInt8}(hr:dA (bytes s)=false):cAf l k (bytes s)=cS l k s:=by
 unfold cAf cS
 rw [bG hk]
 have h1:=h.reg _ (getElem_mem hk)
 by_cases ht:l[k].text=bytes s
 ·by_cases h3:l[k].kind=3
  ·have:=h1.1 h3;rw [ht,hr] at this;cases this
  simp [ht,h3]
 simp [ht]
theorem bE6{l:List Tok}(h:TOk l){k:Nat}(hk:k<l.length){s:List UInt8}(hr:dA (bytes s)=true):cAf l k (bytes s)=dN l k s:=by
 unfold cAf dN
 rw [bG hk]
 have h1:=h.reg _ (getElem_mem hk)
 by_cases ht:l[k].text=bytes s
 ·by_cases h4:l[k].kind=4
  ·have:=h1.2.1 h4;rw [ht,hr] at this;cases this
  simp [ht,h4]
 simp [ht]
theorem bE8{l:List Tok}(h:TOk l){k:Nat}(hk:k<l.length){s:ByteArray}(ha:cAf l k s=true):k+1<l.length:=by
 refine h.last.more hk λh5=>?_
 unfold cAf at ha
 rw [h5] at ha;simp at ha
def aC7(e b k x b1 e1:Nat):Prop:=(e=0 -> k=b1 /\ x=e1) /\ (e≠0 -> b=b1 /\ e=e1)
theorem aC7.run{α:Type}{e b k x b1 e1:Nat}{r:bN α}(h:aC7 e b k x b1 e1)(hx:x≠0)(hr:e=0 -> r=.err k x)(y:α)(k1:Nat):kX e b r y k1 b1 e1:=by
 by_cases he:e=0
 ·obtain ⟨rfl,rfl⟩:=h.1 he
  subst he
  exact .err _ _ _ _ _ (hr Y) hx
 obtain ⟨rfl,rfl⟩:=h.2 he
 exact .skip he _ _ _
theorem aC7.small{e b k x b1 e1:Nat}(h:aC7 e b k x b1 e1)(he:e<16)(hx:x<16):e1<16:=by
 by_cases h0:e=0
 ·rw [←(h.1 h0).2];exact hx
 rw [←(h.2 h0).2];exact he
abbrev RSt(A B:List Box)(rw:List bA)(P:Nat)(l:List Tok)(k b e ns dp:Nat):Sto:=⟨A++⟨P,144,[Sq aW l,Vi (k:Int),Vi (b:Int),Vi (e:Int),Vi (ns:Int),Vi (dp:Int)]⟩::B,rw⟩
def RAn{α:Type}(A B:List Box)(rw:List bA)(P:Nat)(l:List Tok)(ns dp:Nat)(enc:α -> AT)(e b:Nat)(r:bN α)(t:AT)(s:Sto):Prop:=
 ∃x k1 b1 e1,t=enc x /\ kX e b r x k1 b1 e1 /\ k1<l.length /\ e1<16 /\ s=RSt A B rw P l k1 b1 e1 ns dp
theorem bFr(A B:List Box)(rw:List bA)(P:Nat)(l:List Tok)(k b ns dp x:Nat):aL prog 61 [pP P,Ci (x:Int)] [P] (RSt A B rw P l k b 0 ns dp) λt s=>t=.tup [] /\ s=RSt A B rw P l k k x ns dp:=by
 refine acX 20 func61 ?_
 refine go 6 ?_
 refine wcp true Y Fs (go 18 ?_)
 exact ⟨.inl Y,_,(RSt A B rw P l (k) (k) (x) (ns) (dp)),cH Y,aA (.refl _) (.refl _),Y,Y⟩
theorem bFo(A B:List Box)(rw:List bA)(P:Nat)(l:List Tok)(k b ns dp x e:Nat)(he0:e≠0):aL prog 61 [pP P,Ci (x:Int)] [P] (RSt A B rw P l k b e ns dp) λt s=>t=.tup [] /\ s=RSt A B rw P l k b e ns dp:=by
 refine acX 20 func61 ?_
 refine go 6 ?_
 refine wcp false Y (lA he0) (go 4 ?_)
 exact ⟨.inl Y,_,(RSt A B rw P l (k) (b) (e) (ns) (dp)),cH Y,aA (.refl _) (.refl _),Y,Y⟩
theorem bFx(A B:List Box)(rw:List bA)(P:Nat)(l:List Tok)(k b ns dp e:Nat)(sg:ByteArray)(hk:k<l.length)(he0:e≠0):aL prog 60 [pP P,Cs sg] [P] (RSt A B rw P l k b e ns dp) λt s=>t=Cb false /\ s=RSt A B rw P l k b e ns dp:=by
 refine acX 37 func60 ?_
 refine go 6 ?_
 refine dx [P] (tz [(0,true),(1,true),(2,true),(3,true),(4,true),(5,true),(6,true),(7,true)] 4 (go 9 ?_))
 refine tx 8 Y (bH aW aW l bJ (λ_=>Y) (k) Y Y Y Y hk V runUnderlying139 sizeOf154) (tz [(9,true),(10,false),(11,false)] 0 (go 4 λb1=>?_))
 refine ax (go 7 ?_)
 refine wcp false Y (lA he0) (go 20 ?_)
 exact bHe (s':=(RSt A B rw P l (k) (b) (e) (ns) (dp))) Y sb1 ⟨Y,Y⟩
theorem bFs(A B:List Box)(rw:List bA)(P:Nat)(l:List Tok)(k b ns dp:Nat)(sg:ByteArray)(hk:k<l.length)(h4:l[k].kind=4)(ht:l[k].text=sg):aL prog 60 [pP P,Cs sg] [P] (RSt A B rw P l k b 0 ns dp) λt s=>t=Cb true /\ s=RSt A B rw P l k b 0 ns dp:=by
 refine acX 37 func60 ?_
 refine go 6 ?_
 refine dx [P] (tz [(0,true),(1,true),(2,true),(3,true),(4,true),(5,true),(6,true),(7,true)] 4 (go 9 ?_))
 refine tx 8 Y (bH aW aW l bJ (λ_=>Y) (k) Y Y Y Y hk V runUnderlying139 sizeOf154) (tz [(9,true),(10,false),(11,false)] 0 (go 4 λb1=>?_))
 refine ax (go 7 ?_)
 refine wcp true Y Fs (go 3 ?_)
 refine wcp true Y (by rw [h4];rfl) (go 10 ?_)
 refine wyz Y (aZ true Y Y Y (by rw [ht];simp [oM])) (go 5 ?_)
 exact bHe (s':=(RSt A B rw P l (k) (b) (0) (ns) (dp))) Y sb1 ⟨Y,Y⟩
theorem bFu(A B:List Box)(rw:List bA)(P:Nat)(l:List Tok)(k b ns dp:Nat)(sg:ByteArray)(hk:k<l.length)(h4:l[k].kind=4)(ht:¬l[k].text=sg):aL prog 60 [pP P,Cs sg] [P] (RSt A B rw P l k b 0 ns dp) λt s=>t=Cb false /\ s=RSt A B rw P l k b 0 ns dp:=by
 refine acX 37 func60 ?_
 refine go 6 ?_
 refine dx [P] (tz [(0,true),(1,true),(2,true),(3,true),(4,true),(5,true),(6,true),(7,true)] 4 (go 9 ?_))
 refine tx 8 Y (bH aW aW l bJ (λ_=>Y) (k) Y Y Y Y hk V runUnderlying139 sizeOf154) (tz [(9,true),(10,false),(11,false)] 0 (go 4 λb1=>?_))
 refine ax (go 7 ?_)
 refine wcp true Y Fs (go 3 ?_)
 refine wcp true Y (by rw [h4];rfl) (go 10 ?_)
 refine wyz Y (aZ false Y Y Y (by simp [oM,ht])) (go 5 ?_)
 exact bHe (s':=(RSt A B rw P l (k) (b) (0) (ns) (dp))) Y sb1 ⟨Y,Y⟩
theorem bFt(A B:List Box)(rw:List bA)(P:Nat)(l:List Tok)(k b ns dp:Nat)(sg:ByteArray)(hk:k<l.length)(h4:¬l[k].kind=4)(h3:l[k].kind=3)(ht:l[k].text=sg):aL prog 60 [pP P,Cs sg] [P] (RSt A B rw P l k b 0 ns dp) λt s=>t=Cb true /\ s=RSt A B rw P l k b 0 ns dp:=by
 refine acX 37 func60 ?_
 refine go 6 ?_
 refine dx [P] (tz [(0,true),(1,true),(2,true),(3,true),(4,true),(5,true),(6,true),(7,true)] 4 (go 9 ?_))
 refine tx 8 Y (bH aW aW l bJ (λ_=>Y) (k) Y Y Y Y hk V runUnderlying139 sizeOf154) (tz [(9,true),(10,false),(11,false)] 0 (go 4 λb1=>?_))
 refine ax (go 7 ?_)
 refine wcp true Y Fs (go 3 ?_)
 refine wcp false Y A4 (go 3 ?_)
 refine wcp true Y (by rw [h3];rfl) (go 6 ?_)
 refine wyz Y (aZ true Y Y Y (by rw [ht];simp [oM])) (go 5 ?_)
 exact bHe (s':=(RSt A B rw P l (k) (b) (0) (ns) (dp))) Y sb1 ⟨Y,Y⟩
theorem bFw(A B:List Box)(rw:List bA)(P:Nat)(l:List Tok)(k b ns dp:Nat)(sg:ByteArray)(hk:k<l.length)(h4:¬l[k].kind=4)(h3:l[k].kind=3)(ht:¬l[k].text=sg):aL prog 60 [pP P,Cs sg] [P] (RSt A B rw P l k b 0 ns dp) λt s=>t=Cb false /\ s=RSt A B rw P l k b 0 ns dp:=by
 refine acX 37 func60 ?_
 refine go 6 ?_
 refine dx [P] (tz [(0,true),(1,true),(2,true),(3,true),(4,true),(5,true),(6,true),(7,true)] 4 (go 9 ?_))
 refine tx 8 Y (bH aW aW l bJ (λ_=>Y) (k) Y Y Y Y hk V runUnderlying139 sizeOf154) (tz [(9,true),(10,false),(11,false)] 0 (go 4 λb1=>?_))
 refine ax (go 7 ?_)
 refine wcp true Y Fs (go 3 ?_)
 refine wcp false Y A4 (go 3 ?_)
 refine wcp true Y (by rw [h3];rfl) (go 6 ?_)
 refine wyz Y (aZ false Y Y Y (by simp [oM,ht])) (go 5 ?_)
 exact bHe (s':=(RSt A B rw P l (k) (b) (0) (ns) (dp))) Y sb1 ⟨Y,Y⟩
theorem bFy(A B:List Box)(rw:List bA)(P:Nat)(l:List Tok)(k b ns dp:Nat)(sg:ByteArray)(hk:k<l.length)(h4:¬l[k].kind=4)(h3:¬l[k].kind=3):aL prog 60 [pP P,Cs sg] [P] (RSt A B rw P l k b 0 ns dp) λt s=>t=Cb false /\ s=RSt A B rw P l k b 0 ns dp:=by
 refine acX 37 func60 ?_
 refine go 6 ?_
 refine dx [P] (tz [(0,true),(1,true),(2,true),(3,true),(4,true),(5,true),(6,true),(7,true)] 4 (go 9 ?_))
 refine tx 8 Y (bH aW aW l bJ (λ_=>Y) (k) Y Y Y Y hk V runUnderlying139 sizeOf154) (tz [(9,true),(10,false),(11,false)] 0 (go 4 λb1=>?_))
 refine ax (go 7 ?_)
 refine wcp true Y Fs (go 3 ?_)
 refine wcp false Y A4 (go 3 ?_)
 refine wcp false Y (by rw [show bC .eql ((l[k].kind:Nat):Int) 3=some (decide (l[k].kind=3)) from jS (n:=3),decide_eq_false h3]) (go 12 ?_)
 exact bHe (s':=(RSt A B rw P l (k) (b) (0) (ns) (dp))) Y sb1 ⟨Y,Y⟩
theorem bFv(A B:List Box)(rw:List bA)(P:Nat)(l:List Tok)(k b e ns dp:Nat)(sg:ByteArray)(hk:k<l.length):aL prog 60 [pP P,Cs sg] [P] (RSt A B rw P l k b e ns dp) λt s=>t=Cb (decide (e=0) && cAf l k sg) /\ s=RSt A B rw P l k b e ns dp:=by
 unfold cAf
 rw [bG hk]
 by_cases he:e=0
 ·subst he
  by_cases h4:l[k].kind=4
  ·by_cases ht:l[k].text=sg
   ·simpa [h4,ht] using bFs A B rw P l k b ns dp sg hk h4 ht
   simpa [h4,ht] using bFu A B rw P l k b ns dp sg hk h4 ht
  by_cases h3:l[k].kind=3
  ·by_cases ht:l[k].text=sg
   ·simpa [h3,ht] using bFt A B rw P l k b ns dp sg hk h4 h3 ht
   simpa [h3,ht] using bFw A B rw P l k b ns dp sg hk h4 h3 ht
  simpa [h4,h3] using bFy A B rw P l k b ns dp sg hk h4 h3
 simpa [he] using bFx A B rw P l k b ns dp e sg hk he
theorem bEu(A B:List Box)(rw:List bA)(P:Nat)(l:List Tok)(k b e ns dp:Nat)(sg:ByteArray)(hok:TOk l)(hk:k<l.length):aL prog 62 [pP P,Cs sg] [P] (RSt A B rw P l k b e ns dp) λt s=>(e=0 /\ cAf l k sg=true /\ k+1<l.length /\ t=Cb true /\ s=RSt A B rw P l (k+1) b 0 ns dp)∨(¬(e=0 /\ cAf l k sg=true) /\ t=Cb false /\ s=RSt A B rw P l k b e ns dp):=by
 have hlen:=hok.len
 refine acX 16 func62 ?_
 refine go 10 ?_
 refine wcQ Y call60 Y (bFv (A) _ _ _ l k b e ns dp _ hk) ?_
 rintro t1 s1 ⟨rfl,rfl⟩
 refine wyz Y (lF  Y Y) (go 2 ?_)
 refine gY Y (λhc2=>?_) (λhc2=>?_)
 ·refine go 7 ?_
  exact bHe (s':=(RSt A B rw P l (k) (b) (e) (ns) (dp))) Y sb0 (.inr ⟨λh=>by simp [h.1,h.2] at hc2,Y,Y⟩)
 obtain ⟨rfl,ha⟩:e=0 /\ cAf l k sg=true:=by simpa using hc2
 have hm:=bE8 hok hk ha
 refine go 8 ?_
 refine wad Y (go 11 ?_)
 exact bHe (s':=(RSt A B rw P l (k+1) (b) (0) (ns) (dp))) Y sb0 (.inl ⟨Y,ha,hm,Y,Y⟩)
theorem bD5(A B:List Box)(rw:List bA)(P:Nat)(l:List Tok)(k b e ns dp:Nat)(sg:List UInt8)(hr:dA (bytes sg)=false)(hok:TOk l)(hk:k<l.length):aL prog 62 [pP P,Cs (bytes sg)] [P] (RSt A B rw P l k b e ns dp) λt s=>(e=0 /\ cS l k sg=true /\ k+1<l.length /\ t=Cb true /\ s=RSt A B rw P l (k+1) b 0 ns dp)∨((e=0 -> cS l k sg=false) /\ t=Cb false /\ s=RSt A B rw P l k b e ns dp):=by
 refine (bEu A B rw P l k b e ns dp (bytes sg) hok hk).mono λt s h=>?_
 rw [bEp hok hk hr] at h
 refine h.imp id λ⟨h1,h2⟩=>⟨λh0=>?_,h2⟩
 cases hs:cS l k sg with
 |false=>rfl
 |true=>exact absurd ⟨h0,hs⟩ h1
theorem bD2(A B:List Box)(rw:List bA)(P:Nat)(l:List Tok)(k b e ns dp:Nat)(sg:List UInt8)(hr:dA (bytes sg)=true)(hok:TOk l)(hk:k<l.length):aL prog 62 [pP P,Cs (bytes sg)] [P] (RSt A B rw P l k b e ns dp) λt s=>(e=0 /\ dN l k sg=true /\ k+1<l.length /\ t=Cb true /\ s=RSt A B rw P l (k+1) b 0 ns dp)∨((e=0 -> dN l k sg=false) /\ t=Cb false /\ s=RSt A B rw P l k b e ns dp):=by
 refine (bEu A B rw P l k b e ns dp (bytes sg) hok hk).mono λt s h=>?_
 rw [bE6 hok hk hr] at h
 refine h.imp id λ⟨h1,h2⟩=>⟨λh0=>?_,h2⟩
 cases hs:dN l k sg with
 |false=>rfl
 |true=>exact absurd ⟨h0,hs⟩ h1
theorem bEa(A B:List Box)(rw:List bA)(P:Nat)(l:List Tok)(k b e ns dp:Nat)(x:Nat):aL prog 61 [pP P,Ci (x:Int)] [P] (RSt A B rw P l k b e ns dp) λt s=>∃b1 e1,aC7 e b k x b1 e1 /\ t=.tup [] /\ s=RSt A B rw P l k b1 e1 ns dp:=by
 by_cases he:e=0
 ·subst he
  exact (bFr A B rw P l k b ns dp x).mono λt s h=>⟨k,x,⟨λ_=>⟨Y,Y⟩,λh=>absurd Y h⟩,h⟩
 exact (bFo A B rw P l k b ns dp x e he).mono λt s h=>⟨b,e,⟨λh=>absurd h he,λ_=>⟨Y,Y⟩⟩,h⟩
theorem bZx(A B:List Box)(rw:List bA)(P:Nat)(l:List Tok)(k b e ns dp:Nat)(sg:List UInt8)(hr:dA (bytes sg)=false)(hok:TOk l)(hk:k<l.length)(he:e<16):aL prog 86 [pP P,Cs (bytes sg)] [P] (RSt A B rw P l k b e ns dp) λt s=>RAn A B rw P l ns dp (λ_=>.tup []) e b (fD l sg k) t s:=by
 refine acX 10 func86 ?_
 refine go 4 ?_
 refine wcQ Y call62 Y (bD5 (A) _ _ _ l k b e ns dp sg hr hok hk) ?_
 rintro t1 s1 (⟨rfl,ha1,hm1,rfl,rfl⟩|⟨ha1,rfl,rfl⟩)
 ·refine go 5 ?_
  exact ⟨.inl Y,_,(RSt A B rw P l (k+1) (b) (0) (ns) (dp)),cH Y,aA (.refl _) (.refl _),⟨(),k+1,b,0,Y,.ok _ _ _ (by unfold fD;rw [if_pos ha1]),hm1,V,Y⟩⟩
 refine go 6 ?_
 refine wcQ Y call61 Y (bEa (A) _ _ _ l k b e ns dp 4) ?_
 rintro t4 s4 ⟨b4x,e4x,hf4,rfl,rfl⟩
 refine go 1 ?_
 exact ⟨.inl Y,_,(RSt A B rw P l (k) (b4x) (e4x) (ns) (dp)),cH Y,aA (.refl _) (.refl _),⟨(),k,b4x,e4x,Y,hf4.run V (λh=>by unfold fD;rw [if_neg (by rw [ha1 h];decide)]) _ _,hk,(hf4.small he V),Y⟩⟩
theorem bFp(A B:List Box)(rw:List bA)(P:Nat)(l:List Tok)(k b ns dp kk e:Nat)(hk:k<l.length)(he0:e≠0):aL prog 59 [pP P,Ci (kk:Int)] [P] (RSt A B rw P l k b e ns dp) λt s=>t=Cb false /\ s=RSt A B rw P l k b e ns dp:=by
 refine acX 25 func59 ?_
 refine go 6 ?_
 refine dx [P] (tz [(0,true),(1,true),(2,true),(3,true)] 17 (go 5 ?_))
 refine tx 4 Y (bO false Y Y Y (lA he0)) (tz [(5,true),(6,true),(7,true),(8,true),(9,true),(10,true),(11,true),(12,true),(13,true),(14,true),(15,true),(16,true),(17,true),(18,true),(19,true),(20,true)] 0 (go 17 ?_))
 refine ax (go 2 ?_)
 exact bHe (s':=(RSt A B rw P l (k) (b) (e) (ns) (dp))) Y sb0 ⟨Y,Y⟩
theorem bFq(A B:List Box)(rw:List bA)(P:Nat)(l:List Tok)(k b ns dp kk:Nat)(hk:k<l.length):aL prog 59 [pP P,Ci (kk:Int)] [P] (RSt A B rw P l k b 0 ns dp) λt s=>t=Cb (decide (l[k].kind=kk)) /\ s=RSt A B rw P l k b 0 ns dp:=by
 refine acX 25 func59 ?_
 refine go 6 ?_
 refine dx [P] (tz [(0,true),(1,true),(2,true),(3,true)] 17 (go 5 ?_))
 refine tx 4 Y (bO true Y Y Y Fs) (tz [(5,true),(6,true),(7,true),(8,true),(9,true),(10,true),(11,true),(12,true),(13,true)] 7 (go 10 ?_))
 refine tx 14 Y (bH aW aW l bJ (λ_=>Y) (k) Y Y Y Y hk V runUnderlying139 sizeOf154) (tz [(15,true),(16,true),(17,true)] 3 (go 4 ?_))
 refine tx 18 Y (bO (decide (l[k].kind=kk)) Y Y Y jS) (tz [(19,true),(20,true)] 0 (go 3 ?_))
 refine ax (go 2 ?_)
 exact bHe (s':=(RSt A B rw P l (k) (b) (0) (ns) (dp))) Y sb0 ⟨Y,Y⟩
theorem bFb(A B:List Box)(rw:List bA)(P:Nat)(l:List Tok)(k b e ns dp:Nat)(kk:Nat)(hk:k<l.length):aL prog 59 [pP P,Ci (kk:Int)] [P] (RSt A B rw P l k b e ns dp) λt s=>t=Cb (decide (e=0) && decide ((bU l k).kind=kk)) /\ s=RSt A B rw P l k b e ns dp:=by
 rw [bG hk]
 by_cases he:e=0
 ·subst he;simpa using bFq A B rw P l k b ns dp kk hk
 simpa [he] using bFp A B rw P l k b ns dp kk e hk he
theorem bEb(A B:List Box)(rw:List bA)(P:Nat)(l:List Tok)(k b e ns dp:Nat)(hok:TOk l)(hk:k<l.length)(he:e<16):aL prog 65 [pP P] [P] (RSt A B rw P l k b e ns dp) λt s=>RAn A B rw P l ns dp (λx=>Cs x) e b (jW l k) t s:=by
 have hlen:=hok.len
 refine acX 27 func65 ?_
 refine go 9 ?_
 refine wcQ Y call59 Y (bFb (A) _ _ _ l k b e ns dp 1 hk) ?_
 rintro t1 s1 ⟨rfl,rfl⟩
 refine wyz Y (lF  Y Y) (go 2 ?_)
 refine gY Y (λhc2=>?_) (λhc2=>?_)
 ·refine go 3 ?_
  refine wcQ Y call61 Y (bEa (A) _ _ _ l k b e ns dp 4) ?_
  rintro t3 s3 ⟨b3x,e3x,hf3,rfl,rfl⟩
  refine go 9 ?_
  exact bHe (s':=(RSt A B rw P l (k) (b3x) (e3x) (ns) (dp))) Y sb0 ⟨aK,k,b3x,e3x,Y,hf3.run V (λh=>by unfold jW;rw [if_neg (λh2=>by simp [h,h2] at hc2)]) _ _,hk,(hf3.small he V),Y⟩
 obtain ⟨rfl,ha⟩:e=0 /\ (bU l k).kind=1:=by simpa using hc2
 have hm:=hok.last.more hk J
 refine go 8 ?_
 refine wad Y (go 6 ?_)
 refine dx [P] (tz [(0,true),(1,true),(2,true),(3,true),(4,true),(5,true),(6,true),(7,true)] 5 (go 9 ?_))
 refine tx 8 Y (qC) ?_
 refine tx 9 Y (bH aW aW l bJ (λ_=>Y) k Y Y Y J hk V runUnderlying139 sizeOf154) (tz [(10,true),(11,true),(12,true)] 0 (go 4 ?_))
 refine ax (go 2 ?_)
 exact bHe (s':=(RSt A B rw P l (k+1) (b) (0) (ns) (dp))) Y sb0 ⟨_,k+1,b,0,Y,.ok _ _ _ (by unfold jW;rw [if_pos ha,bG hk]),hm,V,Y⟩
end
end Go.Proofs.YtjgeihmhppadaaaGreatDoor
