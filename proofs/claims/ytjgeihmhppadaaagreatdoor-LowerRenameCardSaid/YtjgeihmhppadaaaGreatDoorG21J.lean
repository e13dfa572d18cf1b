import Derived.Test.YtjgeihmhppadaaaGreatDoorG20J
set_option linter.all false
set_option synthInstance.maxHeartbeats 1000000
set_option synthInstance.maxSize 1000000
set_option maxHeartbeats 1600000
set_option maxRecDepth 100000
namespace Go.Proofs.YtjgeihmhppadaaaGreatDoor
open Go.Proofs.Tryz
open List (length_append length_cons length_nil mem_append mem_cons not_mem_nil append_assoc getElem_mem take_of_length_le)
section
open Go.RowKit
theorem bOx(w:World)(g n:Nat):cW [g] w (w.freeze ⟨g,0,none⟩ n):=by
 unfold World.freeze
 split
 ·exact cW.refl _ _
 exact ⟨Y,Y,Y,G0,λi hi hn=>by
  simp only [Array.getElem?_modify]
  rw [if_neg (by intro h;subst h;exact hn G0)]⟩
section
variable {P:Program}{U T:List Nat}{o:Oper}{n d:Nat}{ts:List (Nat×AT)}{K:AS -> Prop}{st:AS}{bx:List Box}{rw:List bA}
theorem bRy{x:Operand}{t:TypeId}{k c:Nat}(ho:o.op=.call {callee:=.builtin .unsafeSliceData,args:=#[x],argTypes:=#[t]})(hx:evA st x=some (Cv (.slice none k c))):AY P U o st (Cv (.pointer none)):=
 fW rfl λa w hs w'=>by
  simp only [execOp,ho,resolve,List.map_toArray,List.map_cons,List.map_nil,hs.val hx]
  simp [go_sem,invoke,builtin,Lib.run_unsafeSliceData_nil]
theorem bRn{x:Operand}{t:TypeId}{q:Addr}{k c:Nat}(ho:o.op=.call {callee:=.builtin .unsafeSliceData,args:=#[x],argTypes:=#[t]})(hx:evA st x=some (Cv (.slice (some q) k c)))(hc:c≠0):AY P U o st (Cv (.pointer (some q))):=
 fW rfl λa w hs w'=>by
  simp only [execOp,ho,resolve,List.map_toArray,List.map_cons,List.map_nil,hs.val hx]
  simp [go_sem,invoke,builtin,Lib.run_unsafeSliceData_row _ _ _ _ _ _ hc]
theorem bQq{x y:Operand}{pt it:TypeId}{q:Option Addr}(ho:o.op=.call {callee:=.builtin .unsafeString,args:=#[x,y],argTypes:=#[pt,it]})(hx:evA st x=some (Cv (.pointer q)))(hy:evA st y=some (Ci 0)):AY P U o st (Cs .empty):=
 fW rfl λa w hs w'=>by
  simp only [execOp,ho,resolve,List.map_toArray,List.map_cons,List.map_nil,hs.val hx,hs.val hy]
  simp [go_sem,invoke,builtin,Lib.run_unsafeString_none]
theorem bRt{x y:Operand}{pt it E:TypeId}{g cap:Nat}{l:List UInt8}(ho:o.op=.call {callee:=.builtin .unsafeString,args:=#[x,y],argTypes:=#[pt,it]})(hd:o.dst=some d)(hn:d<n)
  (hx:evA ⟨n,T,⟨bx,⟨.slice (some ⟨g,0,none⟩) l.length cap,E,1,l.length,iF l⟩::rw⟩,ts⟩ x=some (pP g)) (hy:evA ⟨n,T,⟨bx,⟨.slice (some ⟨g,0,none⟩) l.length cap,E,1,l.length,iF l⟩::rw⟩,ts⟩ y=some (nI l.length))
  (hp:P.underlying pt=some (.pointer E)) (hc:P.cellsOf E=1) (h0:l≠[]) (h63:l.length <= 9223372036854775807) (hT:g∈T) (hU:(⟨bx,⟨.slice (some ⟨g,0,none⟩) l.length cap,E,1,l.length,iF l⟩::rw⟩:Sto).bl.Nodup -> g∈U)
  (h:K ⟨n,T,⟨bx,rw⟩,(d,Cs (bytes l))::ts⟩):AO P U o ⟨n,T,⟨bx,⟨.slice (some ⟨g,0,none⟩) l.length cap,E,1,l.length,iF l⟩::rw⟩,ts⟩ K:=by
 intro a w hs KK QQ hK
 obtain ⟨us,hownR,hrep⟩:=hs.mem.row ⟨.slice (some ⟨g,0,none⟩) l.length cap,E,1,l.length,iF l⟩ G0
 obtain ⟨-,hown⟩:=hownR.row0 rfl
 rcases hown with ⟨h1,-⟩|⟨g',cap',cur,hv,-,hh,hkc,hcm,hcs,htk⟩
 ·cases h1
 cases hv
 dsimp only at hh hkc hcs htk hrep
 obtain rfl:us=cC l:=yC (vs:=cC l) (by rw [show (cC l).map AC.val=iF l by simp [cC,iF]];exact hrep)
 simp only [Nat.mul_one] at hcs htk
 have hsh:w.shape? g=some (E,cap):=by unfold World.shape?;rw [hh];simp [hcs]
 have hcell:∀j x,l[j]?=some x -> w.cell? ((⟨g,0,none⟩:Addr).add j)=some (.int .u8 x.toNat):=λj x hj=>by
  have hjl:j<l.length:=(List.getElem?_eq_some_iff.1 hj).1
  have e1:(⟨g,0,none⟩:Addr).add j=⟨g,j,none⟩:=Cl
  rw [e1]
  have e2:cur[j]?=some (.int .u8 x.toNat):=by
   have h9:=congrArg (λq:List Value=>q[j]?) htk
   simp only [List.getElem?_take,if_pos hjl,cC,List.getElem?_map,hj,Option.map_some,Array.getElem?_toList] at h9
   exact h9
  unfold World.cell?
  simp only [hh,Nat.zero_add]
  exact e2
 have hkF:=bOx w g l.length
 have hnd:=hs.mem.nodup
 have hg:g∉(⟨bx,rw⟩:Sto).bl:=λhm=>by
  unfold Sto.bl at hnd hm
  simp only [List.flatMap_cons] at hnd
  have hnd2:=List.nodup_append.1 hnd
  rcases mem_append.1 hm with hm|hm
  ·exact hnd2.2.2 g hm g Cq Y
  exact (List.nodup_append.1 hnd2.2.1).2.2 g Cq g hm Y
 have hsub:∀b,b∈(⟨bx,rw⟩:Sto).bl -> b∈(⟨bx,⟨.slice (some ⟨g,0,none⟩) l.length cap,E,1,l.length,iF l⟩::rw⟩:Sto).bl:=λb hb=>by
  unfold Sto.bl at hb⊢
  rcases mem_append.1 hb with hb|hb
  ·exact List.mem_append_left _ hb
  exact List.mem_append_right _ (by simp only [List.flatMap_cons];exact List.mem_append_right _ hb)
 have hgf:g∈(⟨bx,⟨.slice (some ⟨g,0,none⟩) l.length cap,E,1,l.length,iF l⟩::rw⟩:Sto).bl:=CZ
 have hu:Up2 (bI (⟨bx,⟨.slice (some ⟨g,0,none⟩) l.length cap,E,1,l.length,iF l⟩::rw⟩:Sto).bl w) (bI (⟨bx,rw⟩:Sto).bl (w.freeze ⟨g,0,none⟩ l.length)):=jA hkF (λx hx=>by simp at hx;subst hx;exact hgf) (λb hb=>.inl (hsub b hb))
 have hne:∀b,b∈(⟨bx,rw⟩:Sto).bl -> (w.freeze ⟨g,0,none⟩ l.length).heap[b]?=w.heap[b]?:=λb hb=>hkF.block b (hs.mem.lt b (hsub b hb)) (by simp;intro he;subst he;exact hg hb)
 have hsl:(⟨bx,rw⟩:Sto).bl.Sublist (⟨bx,⟨.slice (some ⟨g,0,none⟩) l.length cap,E,1,l.length,iF l⟩::rw⟩:Sto).bl:=List.Sublist.append (List.Sublist.refl _) (aE3 _ (List.Sublist.cons _ (List.Sublist.refl _)))
 have hm1:Mem ⟨bx,rw⟩ (w.freeze ⟨g,0,none⟩ l.length):=by
  refine ⟨hsl.nodup hs.mem.nodup,λb hb=>Nat.lt_of_lt_of_le (hs.mem.lt b (hsub b hb)) hkF.size,λx hx=>?_,λr hr=>?_⟩
  ·obtain ⟨us,e1,e2⟩:=hs.mem.box x hx
   exact ⟨us,by rw [hne _ (List.mem_append_left _ (List.mem_map.2 ⟨x,hx,rfl⟩))];exact e1,e2.mono hu⟩
  obtain ⟨us,e1,e2⟩:=hs.mem.row r (List.mem_cons_of_mem _ hr)
  exact ⟨us,e1.keep λq hq=>hne q (List.mem_append_right _ (List.mem_flatMap.2 ⟨r,hr,hq⟩)),e2.mono hu⟩
 unfold Oper.wp
 have hrun2:(execOp a.eval o).run P w=.ok (.value (.string (bytes l))) (w.freeze ⟨g,0,none⟩ l.length):=by
  simp only [execOp,ho,resolve,List.map_toArray,List.map_cons,List.map_nil,hs.val hx,hs.val hy]
  simp [go_sem,invoke,builtin,Lib.run_unsafeString_row w pt it _ E hp hc g cap hsh l h0 hkc h63 hcell]
  rfl
 rw [hrun2,Oper.upon_value,hd]
 exact hK _ _ _ h ((hs.step T (hkF.mono (by simp;exact hgf)) hm1 (λb hb=>.inl (hsub b hb))).put hn (dO.c _ _ (.val _ Y))) ⟨hkF.mono (by simp;exact hgf),hkF.mono DN,λb hb=>.inl (hsub b hb),λb hb=>.inl hb⟩ (hkF.mono Cp)
end
theorem bRx(p:cK)(B:List Box)(W:Nat)(rw:List bA)(hv:nY p=true)(hs:p.sane)(hw:p.wt <= 9000000)(hb:(cR p).length <= 100000000000000):aL prog 92 [bK5 (pP W),.agg (jV p)] (W::aY (.slice none 0 0)) (WS [] W 0 none (.slice none 0 0) [] B rw) (λt s'=>t=.tup [] /\ ∃a' v',(okA W a' /\ nz (cR p) v') /\ s'=WS [] W 0 a' v' (cR p) B rw):=
 bRp p [] B W 0 none (.slice none 0 0) [] rw (.inl rfl) (λ_=>rfl) rfl hv hs hw GM
theorem bQo(A B:List Box)(W m:Nat)(a:Option Addr)(rw:List bA):aL prog 93 [pP W] [] (WS A W m a (.slice none 0 0) [] B rw) λt s'=>t=Cs (bytes []) /\ s'=⟨A++⟨W,181,[.val (.pointer a),Nl,nC m]⟩::B,rw⟩:=by
 refine acX 14 func93 ?_
 refine go 6 ?_
 refine dx [W] (tz [(0,true),(1,true),(2,true),(3,true)] 8 (go 5 ?_))
 refine tx 4 Y (bRy Y Y) (tz [(5,true),(6,true),(7,true),(8,true),(9,true)] 2 (go 6 ?_))
 refine tx 10 Y (bQq Y Y Y) (tz [(11,true)] 0 (go 2 ?_))
 refine ax (go 2 ?_)
 exact ⟨.inr Y,_,⟨A++⟨W,181,[.val (.pointer a),Nl,nC m]⟩::B,rw⟩,aR Y (aF Y),aA (.refl _) (.cons _ (.refl _)),Y,Y⟩
theorem bQ1(A B:List Box)(W m:Nat)(a:Option Addr)(bs:List UInt8)(rw:List bA)(g cap:Nat)(hc:cap≠0)(h0:bs≠[])(h63:bs.length <= 9223372036854775807):aL prog 93 [pP W] [g] (WS A W m a (.slice (some ⟨g,0,none⟩) bs.length cap) bs B rw) λt s'=>t=Cs (bytes bs) /\ s'=⟨A++⟨W,181,[.val (.pointer a),.val (.slice (some ⟨g,0,none⟩) bs.length cap),nC m]⟩::B,rw⟩:=by
 refine acX 14 func93 ?_
 refine go 6 ?_
 refine dx [W] (tz [(0,true),(1,true),(2,true),(3,true)] 8 (go 5 ?_))
 refine tx 4 Y (bRn Y Y hc) (tz [(5,true),(6,true),(7,true),(8,true),(9,true)] 2 (go 6 ?_))
 refine ox 10 Y Y (bRt Y Y V Y Y underlying206 B6 h0 h63 Cq (λhn=>qW hn Cq) ?_)
 refine tz [(11,true)] 0 (go 2 ?_)
 refine ax (go 2 ?_)
 exact ⟨.inr Y,_,⟨A++⟨W,181,[.val (.pointer a),.val (.slice (some ⟨g,0,none⟩) bs.length cap),nC m]⟩::B,rw⟩,aR Y (aF Y),aA (.refl _) (.refl _),Y,Y⟩
theorem bQs(A B:List Box)(W m:Nat)(a:Option Addr)(v:Value)(bs:List UInt8)(rw:List bA)(hz:nz bs v)(hb:bs.length <= 9223372036854775807):aL prog 93 [pP W] (aY v) (WS A W m a v bs B rw) λt s'=>t=Cs (bytes bs) /\ s'=⟨A++⟨W,181,[.val (.pointer a),.val v,nC m]⟩::B,rw⟩:=by
 intro vs w hm hT hl hr
 obtain ⟨us,hownR,hrep⟩:=hm.row ⟨v,5,1,bs.length,iF bs⟩ G0
 obtain ⟨hlen,hown⟩:=hownR.row Nat.zero_lt_one
 dsimp only at hlen hown hrep
 rcases hown with ⟨rfl,h0⟩|⟨g,cap,cur,rfl,-,hh,hkc,hcm,hcs,htk⟩
 ·obtain rfl:bs=[]:=List.length_eq_zero_iff.1 h0
  exact bQo A B W m a rw vs w hm hT hl hr
 by_cases h0:bs=[]
 ·have:=hz h0;cases this
 exact bQ1 A B W m a bs rw g cap (by have:bs.length≠0:=(by simpa using h0);omega) h0 hb vs w hm hT hl hr
theorem bSa{p:cK}(h1:bL1 p=true)(h2:(p.funcs.any λf=>!gW f)=false):nY p=true:=by
 rw [show nY p=(bL1 p && p.funcs.all gW) from rfl,h1,bMb h2];rfl
theorem bPo{p:cK}(h1:bL1 p=false):nY p=false:=by rw [show nY p=(bL1 p && p.funcs.all gW) from rfl,h1];rfl
theorem bPz{p:cK}(h2:(p.funcs.any λf=>!gW f)=true):nY p=false:=by rw [show nY p=(bL1 p && p.funcs.all gW) from rfl,bO1 h2,Bool.and_false]
abbrev bM6(p:cK):List UInt8:=if nY p=true then cR p else []
abbrev bRg(p:cK):AT:=.tup [Cs (bytes (bM6 p)),Cb (jI p)]
theorem bMv{p:cK}{x:ByteArray}{b:Bool}(h1:bytes (bM6 p)=x)(h2:jI p=b):(AT.tup [Cs x,Cb b])=bRg p:=by unfold bRg;rw [h1,h2]
theorem bM7(p:cK)(hs:p.sane)(hw:p.wt <= 9000000)(s:Sto):aL prog 68 [bK5 (.agg (jV p))] [] s λt s'=>t=bRg p /\ s'=s:=by
 obtain ⟨bx,rw⟩:=s
 refine acX 36 func68 ?_
 refine go 11 λb1=>?_
 rcases Bool.eq_false_or_eq_true (bL1 p) with h1|h1
 ·refine bK8 0 Y call88 Y (bP0 p hs J _) h1 (go 4 ?_)
  rcases Bool.eq_false_or_eq_true (p.funcs.any λf=>!gW f) with h2|h2
  ·refine bK8 0 Y call89 Y (bNy (λf=>!gW f) p.funcs 90 #[] _ GE call90 BJ) h2 (go 12 ?_)
   exact ⟨.inr Y,_,⟨bx,rw⟩,uM Y (aF Y) (aF Y),aA (.cons _ (.refl _)) (.refl _),bMv (by unfold bM6;rw [if_neg (by rw [bPz h2];decide)];rfl) (by rw [nX,bPz h2];rfl),Y⟩
  refine bK8 0 Y call89 Y (bNy (λf=>!gW f) p.funcs 90 #[] _ GE call90 BJ) h2 (go 8 ?_)
  have hv:nY p=true:=bSa h1 h2
  refine go 7 λb2=>?_
  refine bR3 5 1 ?_
  refine go 2 ?_
  refine wo Y (bO5 0 Y call92 Y (bRx p _ b2 rw hv hs hw (by have:=aAd hs hv;omega)) G0 Bc (λ_=>⟨G0,λb hb=>DF⟩) λa2 v2 hC2=>?_)
  refine go 7 ?_
  refine wo Y (bD (aY v2) Y Y V call93 Y (bQs [] _ b2 0 a2 v2 (cR p) rw hC2.2 (by have:=aAd hs hv;omega)) Bq (λb hb=>by simp [Sto.bl,hb]) Bo ?_)
  rintro _ _ ⟨rfl,rfl⟩
  refine go 6 ?_
  refine wo Y (aDc Y Y V Y underlying9 underlying58 underlying5 (by rw [kT];have:=aAd hs hv;omega) (N:=(cR p).length) Y (cs:=iF (cR p)) Y ?_)
  refine wo Y (bN9 0 [] Y Y V call94 Y Y (λm=>aP8 (cR p) m _) bDl bDl (λ_=>bDl) ?_)
  rintro _ _ ⟨(⟨tl5,hlx5,rfl,htl5⟩|⟨p5,e5,hlx5,rfl,he5⟩),rfl⟩
  focus
   refine go 13 ?_
   refine wcp true Y B7 (go 5 ?_)
  rotate_left
  refine go 13 ?_
  refine wcp false Y (eD J) (go 5 ?_)
  all_goals
   exact ⟨.inr Y,_,⟨bx,rw⟩,uM Y (aF Y) (aF Y),aA (.cons _ (.cons _ (.refl _))) (.refl _),bMv (by unfold bM6;rw [if_pos hv]) (by rw [nX,hv,hlx5];rfl),Y⟩
 refine bK8 0 Y call88 Y (bP0 p hs J _) h1 (go 17 ?_)
 exact ⟨.inr Y,_,⟨bx,rw⟩,uM Y (aF Y) (aF Y),aA (.cons _ (.refl _)) (.refl _),bMv (by unfold bM6;rw [if_neg (by rw [bPo h1];decide)];rfl) (by rw [nX,bPo h1];rfl),Y⟩
theorem bOk(p:cK)(hs:p.sane)(hw:p.wt <= 9000000)(s:Sto):aL prog 31 [bK5 (.agg (jV p))] [] s λt s'=>t=Cb (jI p) /\ s'=s:=by
 obtain ⟨bx,rw⟩:=s
 refine acX 11 func31 ?_
 refine go 9 λb1=>?_
 refine wcR 0 Y call68 Y (bM7 p hs hw _) (go 14 ?_)
 exact bHe (s':=⟨bx,rw⟩) Y sb1 ⟨cX Y,Y⟩
end
section
open Go.RowKit
mutual
def aJ.cnt:aJ -> Nat|.mk _ _ _ _ _ t e=>1+bLh t+bLh e
def bLh:List aJ -> Nat
 |[]=>0
 |s::r=>s.cnt+bLh r
end
end
section
structure Gr (x y:LS) (m c:Nat):Prop where
 code:y.code.length=x.code.length+c
 n:y.n=x.n+m
 loc:x.locals <= y.locals
 sites:∃t:List Int,y.sites=x.sites++t /\ (∀a,a∈t -> (x.n:Int) <= a /\ a<(y.n:Int)) /\ ∀k:Nat,x.n <= k -> k<y.n -> (k:Int)∈t
 sl:x.sites.length=x.code.length -> y.sites.length=y.code.length
 jmp:(∀i,i∈x.code -> (i.op=6∨i.op=7) -> i.target <= x.code.length) -> ∀i,i∈y.code -> (i.op=6∨i.op=7) -> i.target <= y.code.length
theorem Gr.refl(x:LS):Gr x x 0 0:=⟨rfl,rfl,Nat.le_refl _,⟨[],(List.append_nil _).symm,(λa h=>DV),(λk h1 h2=>J)⟩,λh=>h,λh=>h⟩
theorem Gr.trans{x y z:LS}{m c m' c':Nat}(h:Gr x y m c)(h':Gr y z m' c'):Gr x z (m+m') (c+c'):=by
 obtain ⟨t,e,b,v⟩:=h.sites
 obtain ⟨t',e',b',v'⟩:=h'.sites
 have h1:=h.n;have h2:=h'.n
 refine ⟨by rw [h'.code,h.code];omega,J,Nat.le_trans h.loc h'.loc,⟨t++t',by rw [e',e,append_assoc],λa ha=>?_,λk hk hk'=>?_⟩,λhl=>h'.sl (h.sl hl),λhj=>h'.jmp (h.jmp hj)⟩
 ·rcases mem_append.1 ha with ha|ha
  ·have:=b a ha;omega
  have:=b' a ha;omega
 by_cases hy:k<y.n
 ·exact List.mem_append_left _ (v k hk hy)
 exact List.mem_append_right _ (v' k J hk')
theorem Gr.put{x y:LS}{m c:Nat}(h:Gr x y m c)(i:cFw)(s:Nat)(h1:x.n <= s)(h2:s<y.n)(hi:(i.op=6∨i.op=7) -> i.target <= y.code.length+1):Gr x (y.put i s) m (c+1):=by
 obtain ⟨t,e,b,v⟩:=h.sites
 have hc:=h.code
 refine ⟨by rw [cF1];omega,h.n,h.loc,⟨t++[(s:Int)],by show y.sites++[(s:Int)]=_;rw [e,append_assoc],λa ha=>?_,λk hk hk'=>List.mem_append_left _ (v k hk hk')⟩,λhl=>(by show (y.sites++[(s:Int)]).length=(y.code++[i]).length;rw [length_append,length_append,h.sl hl];rfl),λhj j hm ho=>?_⟩
 ·rcases mem_append.1 ha with ha|ha
  ·exact b a ha
  obtain rfl:=List.mem_singleton.1 ha
  exact ⟨J,by show (s:Int)<((y.n:Nat):Int);omega⟩
 rw [cF1]
 rcases mem_append.1 (show j∈y.code++[i] from hm) with hm|hm
 ·have:=h.jmp hj j hm ho;omega
 obtain rfl:=List.mem_singleton.1 hm;exact hi ho
theorem cTa{α:Type}{f:α -> α}:∀{l:List α} {b:Nat} {i:α},i∈l.modify b f -> i∈l∨∃j,j∈l /\ i=f j
 |[],_,_,h=>by rw [List.modify_nil] at h;cases h
 |a::l,0,i,h=>by
  rw [List.modify_zero_cons] at h
  rcases mem_cons.1 h with rfl|h
  ·exact .inr ⟨a,List.mem_cons_self,Y⟩
  ·exact .inl (List.mem_cons_of_mem _ h)
 |a::l,b+1,i,h=>by
  rw [List.modify_succ_cons] at h
  rcases mem_cons.1 h with rfl|h
  ·exact .inl List.mem_cons_self
  rcases cTa h with h|⟨j,h,e⟩
  ·exact .inl (List.mem_cons_of_mem _ h)
  exact .inr ⟨j,List.mem_cons_of_mem _ h,e⟩
theorem Gr.patch{x y:LS}{m c:Nat}(h:Gr x y m c)(b:Nat):Gr x (y.patch b) m c:=by
 refine ⟨by rw [cFp];exact h.code,h.n,h.loc,h.sites,λhl=>(by rw [cFp];exact h.sl hl),λhj i hm ho=>?_⟩
 rw [cFp]
 rcases cTa (show i∈y.code.modify b (λi=>i.to y.code.length) from hm) with hm|⟨j,hm,rfl⟩
 ·exact h.jmp hj i hm ho
 exact Nat.le_refl _
theorem Gr.back{x y:LS}{m c:Nat}(h:Gr x y m c)(w:LS):Gr x (w.back y) m c:=⟨h.code,h.n,h.loc,h.sites,h.sl,h.jmp⟩
theorem Gr.one{x:LS}(y:LS){i:cFw}(hc:y.code=x.code++[i])(hn:y.n=x.n+1)(hl:x.locals <= y.locals)(hs:y.sites=x.sites++[(x.n:Int)])(hi:(i.op=6∨i.op=7) -> i.target=0):Gr x y 1 1:=by
 refine ⟨by rw [hc,length_append];rfl,hn,hl,⟨[(x.n:Int)],hs,λa ha=>?_,λk h1 h2=>?_⟩,λhl=>(by rw [hs,hc,length_append,length_append,hl];rfl),λhj j hm ho=>?_⟩
 ·obtain rfl:=List.mem_singleton.1 ha
  rw [hn];omega
 ·obtain rfl:k=x.n:=J
  exact List.mem_singleton.2 Y
 rw [hc] at hm⊢
 rw [length_append]
 rcases mem_append.1 hm with hm|hm
 ·have:=hj j hm ho;omega
 obtain rfl:=List.mem_singleton.1 hm;rw [hi ho];omega
theorem cTd{p:cK}:∀(l:List bS)(k:Nat),cGh p l k=(0,0,0) -> ∀f,f∈l -> (cGk p f).1=0
 |[],_,_,f,hf=>by cases hf
 |a::l,k,h,f,hf=>by
  rw [cGh] at h
  split at h
  ·rename_i h0
   rcases mem_cons.1 hf with rfl|hf
   ·exact h0
   exact cTd l (k+1) h f hf
  rename_i h0
  exact absurd (congrArg (λx=>x.2.2) h) h0
theorem cTy{p:cK}(h:cFx p=(0,0,0)):jI p=true /\ cG0 [] (cFd p)=none /\ cHa p=true /\ ∀f,f∈p.funcs -> (cGk p f).1=0:=by
 unfold cFx at h
 split at h
 ·exact absurd (congrArg (λx=>x.2.2) h) (by show ¬(10:Nat)=0;decide)
 rename_i hv
 split at h
 ·exact absurd (congrArg (λx=>x.2.2) h) (by show ¬(5:Nat)=0;decide)
 rename_i hb
 split at h
 ·rename_i hm;exact ⟨by simpa using hv,hb,hm,cTd _ _ h⟩
 exact absurd (congrArg (λx=>x.2.2) h) (by show ¬(9:Nat)=0;decide)
end
section
theorem cJi:∀(ow:List ByteArray)(v:Vis),KN v -> KN (ow.foldl bZy v) /\ (∀s,s∈ow -> bZp (ow.foldl bZy v) s=0) /\ ∀s,s∉ow -> bZp (ow.foldl bZy v) s=bZp v s
 |[],v,h=>⟨h,λs hs=>absurd hs not_mem_nil,λs _=>rfl⟩
 |k::ow,v,h=>by
  obtain ⟨h1,h2,h3⟩:=cJi ow (bZy v k) (h.del k)
  refine ⟨h1,λs hs=>?_,λs hs=>?_⟩
  ·rw [List.foldl_cons]
   by_cases hm:s∈ow
   ·exact h2 s hm
   rw [h3 s hm,cCs h]
   rcases mem_cons.1 hs with rfl|hs
   ·rw [if_pos rfl]
   exact absurd hs hm
  simp only [mem_cons,not_or] at hs
  rw [List.foldl_cons,h3 s hs.2,cCs h,if_neg (λe=>hs.1 e.symm)]
theorem cIf{fs:Fns}{r:Nat×List ByteArray×RS}{v:Vis}(h0:r.1=0)(hk:KN r.2.2.vis)(h1:∀q,q∈r.2.1 -> bZp v q=0)(h2:∀q,q∉r.2.1 -> bZp r.2.2.vis q=bZp v q):KN (cA7 r).2.vis /\ ∀q,bZp (cA7 r).2.vis q=bZp v q:=by
 obtain ⟨d1,d2,d3⟩:=cJi r.2.1 r.2.2.vis hk
 unfold cA7
 rw [if_pos h0]
 refine ⟨d1,λq=>?_⟩
 by_cases hm:q∈r.2.1
 ·rw [h1 q hm];exact d2 q hm
 rw [←h2 q hm];exact d3 q hm
theorem cHi(r:Nat×List ByteArray×RS):(cA7 r).1=r.1:=by unfold cA7;split<;>simp_all
theorem cK9(r:Nat×List ByteArray×RS):(cA7 r).2.at_=r.2.2.at_:=by unfold cA7;split<;>rfl
mutual
theorem cKc(fs:Fns):∀(s:aJ)(x:RS),KN x.vis -> (bZ4 fs s x).1=0 -> KN (bZ4 fs s x).2.vis /\ (∀q,(s.kind=1 -> s.name≠q) -> bZp (bZ4 fs s x).2.vis q=bZp x.vis q) /\ (s.kind=1 -> bZp x.vis s.name=0)
 |.mk k name e r args t f,x,hk,h=>by
  have hb:KN (cAy (.mk k name e r args t f) x).vis /\ ∀q,(k=1 -> name≠q) -> bZp (cAy (.mk k name e r args t f) x).vis q=bZp x.vis q:=by
   show KN (if k=1 then bZq x.vis name 1 else x.vis) /\ ∀q,_ -> bZp (if k=1 then bZq x.vis name 1 else x.vis) q=_
   by_cases h1:k=1
   ·rw [if_pos h1];exact ⟨hk.put _ _,λq hq=>by rw [cAl,if_neg (hq h1)]⟩
   rw [if_neg h1];exact ⟨hk,λq _=>rfl⟩
  rw [bZ4] at h⊢
  by_cases hp:bZ5 x.vis fs (.mk k name e r args t f)=0
  ·rw [if_pos hp] at h⊢
   by_cases ht:(cA7 (bZr fs t [] (cAy (.mk k name e r args t f) x))).1=0
   ·rw [if_pos ht] at h⊢
    obtain ⟨a1,a2,a3⟩:=cGw fs t [] _ hb.1 (by rw [←cHi];exact ht)
    obtain ⟨b1,b2⟩:=cIf (fs:=fs) (by rw [←cHi];exact ht) a1 (λq hq=>(a2 q hq).resolve_left not_mem_nil) a3
    obtain ⟨c1,c2,c3⟩:=cGw fs f [] _ b1 (by rw [←cHi];exact h)
    obtain ⟨d1,d2⟩:=cIf (fs:=fs) (by rw [←cHi];exact h) c1 (λq hq=>(c2 q hq).resolve_left not_mem_nil) c3
    refine ⟨d1,λq hq=>by rw [d2,b2];exact hb.2 q hq,λh1=>?_⟩
    have h1:k=1:=h1
    have hp:(if k=1 then (if bZp x.vis name=0 then _ else 5) else _)=0:=hp
    rw [if_pos h1] at hp
    split at hp
    ·rename_i h9;exact h9
    cases hp
   rw [if_neg ht] at h;exact absurd h ht
  rw [if_neg hp] at h;exact absurd h hp
theorem cGw(fs:Fns):∀(l:List aJ)(own:List ByteArray)(x:RS),KN x.vis -> (bZr fs l own x).1=0 -> KN (bZr fs l own x).2.2.vis /\ (∀q,q∈(bZr fs l own x).2.1 -> q∈own∨bZp x.vis q=0) /\ (∀q,q∉(bZr fs l own x).2.1 -> bZp (bZr fs l own x).2.2.vis q=bZp x.vis q)
 |[],own,x,hk,_=>by rw [bZr];exact ⟨hk,λq hq=>.inl hq,λq _=>rfl⟩
 |s::l,own,x,hk,h=>by
  rw [bZr] at h⊢
  by_cases h0:(bZ4 fs s x).1=0
  ·rw [if_pos h0] at h⊢
   obtain ⟨a1,a2,a3⟩:=cKc fs s x hk h0
   obtain ⟨b1,b2,b3⟩:=cGw fs l (cCp s own) _ a1 h
   have hsub:=cIw fs l (cCp s own) (bZ4 fs s x).2
   refine ⟨b1,λq hq=>?_,λq hq=>?_⟩
   ·by_cases hn:s.kind=1 /\ s.name=q
    ·obtain ⟨hn1,rfl⟩:=hn
     exact .inr (a3 hn1)
    have hn':s.kind=1 -> s.name≠q:=λh1 h2=>hn ⟨h1,h2⟩
    rcases b2 q hq with h9|h9
    ·unfold cCp at h9
     split at h9
     ·rename_i h1
      rcases mem_append.1 h9 with h9|h9
      ·exact .inl h9
      exact absurd (List.mem_singleton.1 h9).symm (hn' h1)
     exact .inl h9
    rw [a2 q hn'] at h9;exact .inr h9
   rw [b3 q hq]
   refine a2 q λh1 h2=>hq (hsub q ?_)
   unfold cCp;rw [if_pos h1,←h2];simp
  rw [if_neg h0] at h;exact absurd h h0
theorem cIw(fs:Fns):∀(l:List aJ)(own:List ByteArray)(x:RS),∀q,q∈own -> q∈(bZr fs l own x).2.1
 |[],own,x,q,hq=>by rw [bZr];exact hq
 |s::l,own,x,q,hq=>by
  rw [bZr]
  split
  ·exact cIw fs l _ _ q (by unfold cCp;split<;>simp [hq])
  exact hq
end
theorem cG7.same{p:cK}{fs:Fns}{v v':Vis}{l:List cFc}(h:cG7 p fs v l)(hk:KN v')(hv:∀q,bZp v' q=bZp v q):cG7 p fs v' l:=⟨hk,λs=>by rw [hv];exact h.get s,h.fn⟩
theorem cG7.put{p:cK}{fs:Fns}{v:Vis}{l:List cFc}(h:cG7 p fs v l){s:ByteArray}(h0:bZp v s=0){x:cFc}(hx:x.name=s){a:Int}(ha:cFr p x=a)(h3:x.kind≠3):cG7 p fs (bZq v s a) (l++[x]):=by
 have hn:cFa l s=none:=by
  have h1:=h.get s
  rw [h0] at h1
  rcases hf:cFa l s with _|y
  ·rfl
  rw [hf] at h1;exact absurd h1.symm (cGv p y)
 refine ⟨h.kn.put _ _,λq=>?_,λq y hf hy=>?_⟩
 ·rw [cAl,cGu]
  by_cases hq:s=q
  ·subst hq
   rw [if_pos rfl,hn];dsimp only;rw [if_pos hx];exact ha.symm
  rw [if_neg hq,h.get q]
  rcases cFa l q with _|y
  ·dsimp only;rw [if_neg (by rw [hx];exact hq)]
  rfl
 rw [cGu] at hf
 split at hf
 ·rename_i hf2;cases hf;exact h.fn q _ hf2 hy
 split at hf
 ·cases hf;exact absurd hy h3
 cases hf
structure cIc (p:cK) (fs:Fns) (x:RS) (y:LS):Prop where
 rel:cG7 p fs x.vis y.ents
 n:x.n=y.n
 q:y.q.1=0
def Step(p:cK)(fs:Fns)(e:Nat)(x':RS)(y':LS):Prop:=(e=0 -> cIc p fs x' y') /\ (e≠0 -> y'.q=(e,x'.at_))
end
section
section
variable {p:cK}{fs:Fns}
theorem cIc.mod{x:RS}{y y':LS}(h:cIc p fs x y)(h1:y'.ents=y.ents)(h2:y'.n=y.n)(h3:y'.q=y.q):cIc p fs x y':=⟨by rw [h1];exact h.rel,by rw [h2];exact h.n,by rw [h3];exact h.q⟩
theorem Step.mod{e:Nat}{x:RS}{y y':LS}(h:Step p fs e x y)(h1:y'.ents=y.ents)(h2:y'.n=y.n)(h3:y'.q=y.q):Step p fs e x y':=⟨λh0=>(h.1 h0).mod h1 h2 h3,λh0=>by rw [h3];exact h.2 h0⟩
theorem cHh{l:List aJ}{x:RS}{y:LS}(hS:Step p fs (bZr fs l [] x).1 (bZr fs l [] x).2.2 (cFe p l y))(he:cIc p fs x y):Step p fs (cA7 (bZr fs l [] x)).1 (cA7 (bZr fs l [] x)).2 (cRs p l y):=by
 refine ⟨λh0=>?_,λh0=>?_⟩
 ·rw [cHi] at h0
  have h1:=hS.1 h0
  obtain ⟨a1,a2,a3⟩:=cGw fs l [] x he.rel.kn h0
  obtain ⟨b1,b2⟩:=cIf (fs:=fs) h0 a1 (λq hq=>(a2 q hq).resolve_left not_mem_nil) a3
  exact ⟨he.rel.same b1 b2,by rw [cCd];exact h1.n,h1.q⟩
 rw [cHi] at h0⊢
 rw [cK9];exact hS.2 h0
theorem cIe(x:RS):cA7 (bZr fs [] [] x)=(0,x):=by rw [bZr];rfl
theorem cKr{s:aJ}{x:RS}{y:LS}(he:cIc p fs x y)(h1:s.kind≠1)(e:aH)(hq:cFf y.ents e=0):cIc p fs (cAy s x) (y.branch e):=by
 have hv:(cAy s x).vis=x.vis:=by show (if s.kind=1 then _ else x.vis)=_;rw [if_neg h1]
 refine ⟨by rw [hv];exact he.rel,by show x.n+1=y.n+1;rw [he.n],?_⟩
 show (cFg y.q (cFf y.ents e) y.n).1=0
 rw [hq,cGg];exact he.q
mutual
theorem cKz:∀(s:aJ)(x:RS)(y:LS),shS s -> cIc p fs x y -> Step p fs (bZ4 fs s x).1 (bZ4 fs s x).2 (cFs p s y)
 |.mk k name e r args t f,x,y,hsh,he=>by
  rw [shS] at hsh
  obtain ⟨h5,ha,ht,hf,hst,hsf⟩:=hsh
  have hp:bZ5 x.vis fs (.mk k name e r args t f)=cIu p y.ents (.mk k name e r args t f):=cLy he.rel _ h5 ha
  have hbq:∀e0,cFf y.ents e=e0 -> (y.branch e).q=cFg y.q e0 y.n:=λe0 h=>by show cFg y.q (cFf y.ents e) y.n=_;rw [h]
  rw [bZ4]
  by_cases h0:bZ5 x.vis fs (.mk k name e r args t f)=0
  ·rw [if_pos h0]
   rw [hp] at h0
   by_cases h78:k=7∨k=8
   ·have hex:cFf y.ents e=0:=by
     have h9:(if k=1 then _ else if k=2 then _ else if k=5∨k=6 then _ else if k=3∨k=4 then _ else if k=7∨k=8 then cFf y.ents e else 0)=0:=h0
     rw [if_neg J,if_neg J,if_neg J,if_neg J,if_pos h78] at h9;exact h9
    have hbe:cIc p fs (cAy (.mk k name e r args t f) x) (y.branch e):=cKr he Hj e hex
    have HT:=cHh (cHp t [] _ _ hst hbe) hbe
    rw [cFs]
    by_cases hT:(cA7 (bZr fs t [] (cAy (.mk k name e r args t f) x))).1=0
    ·rw [if_pos hT]
     have hE1:=HT.1 hT
     by_cases h7:k=7
     ·rw [if_pos h7]
      by_cases hfl:f.length=0
      ·obtain rfl:=List.length_eq_zero_iff.1 hfl
       rw [if_pos hfl,cIe]
       exact ⟨λ_=>hE1.mod Y Y Y,λh=>absurd Y h⟩
      rw [if_neg hfl]
      have hE2:cIc p fs (cA7 (bZr fs t [] (cAy (.mk k name e r args t f) x))).2 ((((y.branch e).back (cFe p t (y.branch e))).put (opI 7 .zero) y.n).patch y.code.length):=hE1.mod Y Y Y
      have HF:=cHh (cHp f [] _ _ hsf hE2) hE2
      exact HF.mod Y Y Y
     rw [if_neg h7,if_pos (J:k=8)]
     obtain rfl:=hf h7
     rw [cIe]
     exact ⟨λ_=>hE1.mod Y Y Y,λh=>absurd Y h⟩
    rw [if_neg hT]
    have hq:=HT.2 hT
    refine ⟨λh=>absurd h hT,λ_=>?_⟩
    have hne:(cRs p t (y.branch e)).q.1≠0:=by rw [hq];exact hT
    by_cases h7:k=7
    ·rw [if_pos h7]
     by_cases hfl:f.length=0
     ·rw [if_pos hfl];exact hq
     rw [if_neg hfl]
     show (cFe p f _).q=_
     rw [cF5 p f _ (by show (cFe p t (y.branch e)).q.1≠0;exact hne)];exact hq
    rw [if_neg h7,if_pos (J:k=8)];exact hq
   ·have h7:k≠7:=λh=>h78 (.inl h)
    have h8:k≠8:=λh=>h78 (.inr h)
    obtain rfl:=ht h7 h8
    obtain rfl:=hf h7
    rw [cIe];dsimp only
    rw [if_pos rfl,cIe,cFs,if_neg h7,if_neg h8]
    obtain ⟨s1,s2,s3⟩:=cIr p (.mk k name e r args [] []) y h7 h8
    refine ⟨λ_=>⟨?_,by rw [s2];show x.n+1=_;rw [he.n],by rw [s1,h0,cGg];exact he.q⟩,λh=>absurd Y h⟩
    rw [s3]
    show cG7 p fs (if k=1 then bZq x.vis name 1 else x.vis) (if k=1 then y.ents++[⟨name,4,y.locals⟩] else y.ents)
    by_cases h1:k=1
    ·rw [if_pos h1,if_pos h1]
     have h9:(if k=1 then cFj (cFv y.ents name) (cFf y.ents e) else _)=0:=h0
     rw [if_pos h1] at h9
     have hd:cFv y.ents name=0:=by unfold cFj at h9;split at h9<;>assumption
     have hn:cFa y.ents name=none:=by
      unfold cFv at hd
      rcases hfd:cFa y.ents name with _|z
      ·rfl
      rw [hfd] at hd;cases hd
     exact he.rel.put (s:=name) (x:=⟨name,4,y.locals⟩) (a:=1) (by rw [he.rel.get,hn];rfl) Y (by unfold cFr;rw [if_pos (.inr rfl)]) Cu
    rw [if_neg h1,if_neg h1];exact he.rel
  rw [if_neg h0]
  refine ⟨λh=>absurd h h0,λ_=>?_⟩
  rw [hp] at h0⊢
  show (cFs p _ y).q=(cIu p y.ents _,(x.n:Int))
  rw [he.n]
  by_cases h78:k=7∨k=8
  ·have hpe:cIu p y.ents (.mk k name e r args t f)=cFf y.ents e:=by
    show (if k=1 then _ else if k=2 then _ else if k=5∨k=6 then _ else if k=3∨k=4 then _ else if k=7∨k=8 then cFf y.ents e else 0)=_
    rw [if_neg J,if_neg J,if_neg J,if_neg J,if_pos h78]
   rw [hpe] at h0⊢
   have hb:(y.branch e).q=(cFf y.ents e,(y.n:Int)):=cJf he.q h0 _
   have hne:(y.branch e).q.1≠0:=by rw [hb];exact h0
   have hq:(cFe p t (y.branch e)).q=(cFf y.ents e,(y.n:Int)):=by rw [cF5 p t _ hne,hb]
   rw [cFs]
   by_cases h7:k=7
   ·rw [if_pos h7]
    by_cases hfl:f.length=0
    ·rw [if_pos hfl];exact hq
    rw [if_neg hfl]
    show (cFe p f _).q=_
    rw [cF5 p f _ (by show (cFe p t (y.branch e)).q.1≠0;rw [hq];exact h0)];exact hq
   rw [if_neg h7,if_pos (J:k=8)];exact hq
  ·have h7:k≠7:=λh=>h78 (.inl h)
   have h8:k≠8:=λh=>h78 (.inr h)
   rw [cFs,if_neg h7,if_neg h8,(cIr p (.mk k name e r args t f) y h7 h8).1]
   exact cJf he.q h0 _
theorem cHp:∀(l:List aJ)(own:List ByteArray)(x:RS)(y:LS),cId l -> cIc p fs x y -> Step p fs (bZr fs l own x).1 (bZr fs l own x).2.2 (cFe p l y)
 |[],own,x,y,_,he=>by rw [bZr,cFe];exact ⟨λ_=>he,λh=>absurd rfl h⟩
 |s::l,own,x,y,hsh,he=>by
  rw [cId] at hsh
  have h1:=cKz s x y hsh.1 he
  rw [bZr,cFe]
  by_cases h0:(bZ4 fs s x).1=0
  ·rw [if_pos h0];exact cHp l _ _ _ hsh.2 (h1.1 h0)
  rw [if_neg h0]
  refine ⟨λh=>absurd h h0,λ_=>?_⟩
  have hq:=h1.2 h0
  rw [cF5 p l _ (by rw [hq];exact h0)];exact hq
end
end
end
section
section
variable {p:cK}{fs:Fns}
theorem cKl:∀(ps:List aS)(v:Vis)(l:List cFc)(i m:Nat),cG7 p fs v l -> (cGd ps l i m=none -> (bZv ps v).1=false) /\ ∀l' i' m',cGd ps l i m=some (l',i',m') -> (bZv ps v).1=true /\ cG7 p fs (bZv ps v).2 l'
 |[],v,l,i,m,h=>by
  rw [cGd,bZv]
  exact ⟨λh=>DV,λl' i' m' e=>by cases e;exact ⟨rfl,h⟩⟩
 |x::r,v,l,i,m,h=>by
  rw [cGd,bZv,h.get x.name]
  rcases hf:cFa l x.name with _|y
  ·have hz:bZp v x.name=0:=by rw [h.get,hf];rfl
   rw [if_neg V,if_pos (show cH8 p none=0 from rfl)]
   by_cases hm:x.mutex=true
   ·rw [if_pos hm]
    have hs:cAw x=4:=if_pos hm
    rw [hs]
    exact cKl r _ _ i (m+1) (h.put (s:=x.name) (x:=⟨x.name,5,m⟩) (a:=4) hz Y (by unfold cFr;rfl) (by show (5:Int)≠3;decide))
   rw [if_neg hm]
   have hs:cAw x=1:=if_neg hm
   rw [hs]
   exact cKl r _ _ (i+1) m (h.put (s:=x.name) (x:=⟨x.name,4,i⟩) (a:=1) hz Y (by unfold cFr;rfl) Cu)
  rw [if_pos Fs,if_neg (show ¬cH8 p (some y)=0 from cGv p y)]
  exact ⟨λ_=>Y,λl' i' m' e=>by cases e⟩
theorem cIh:∀(ps:List aS)(v:Vis),KN v -> (bZv ps v).1=true -> KN (bZv ps v).2 /\ (∀x,x∈ps -> bZp v x.name=0) /\ ∀q,(∀x,x∈ps -> x.name≠q) -> bZp (bZv ps v).2 q=bZp v q
 |[],v,hk,_=>⟨hk,λx hx=>absurd hx not_mem_nil,λq _=>rfl⟩
 |x::r,v,hk,h=>by
  rw [bZv] at h⊢
  by_cases h0:bZp v x.name=0
  ·rw [if_pos h0] at h⊢
   obtain ⟨a1,a2,a3⟩:=cIh r _ (hk.put _ _) h
   refine ⟨a1,λy hy=>?_,λq hq=>?_⟩
   ·rcases mem_cons.1 hy with rfl|hy
    ·exact h0
    have h9:=a2 y hy
    rw [cAl] at h9
    split at h9
    ·unfold cAw at h9;split at h9<;>cases h9
    exact h9
   rw [a3 q λy hy=>hq y (List.mem_cons_of_mem _ hy),cAl,if_neg (hq x List.mem_cons_self)]
  rw [if_neg h0] at h;cases h
theorem cI7:∀(ps:List aS)(v:Vis),KN v -> KN (cAk ps v) /\ (∀x,x∈ps -> bZp (cAk ps v) x.name=0) /\ ∀q,(∀x,x∈ps -> x.name≠q) -> bZp (cAk ps v) q=bZp v q
 |[],v,h=>⟨h,λx hx=>absurd hx not_mem_nil,λs _=>rfl⟩
 |y::ps,v,h=>by
  obtain ⟨h1,h2,h3⟩:=cI7 ps (bZy v y.name) (h.del y.name)
  have e:cAk (y::ps) v=cAk ps (bZy v y.name):=Y
  refine ⟨h1,λx hx=>?_,λq hq=>?_⟩
  ·rw [e]
   by_cases hm:∃z,z∈ps /\ z.name=x.name
   ·obtain ⟨z,hz,hn⟩:=hm
    rw [←hn];exact h2 z hz
   rw [h3 _ (λz hz hn=>hm ⟨z,hz,hn⟩),cCs h]
   rcases mem_cons.1 hx with rfl|hx
   ·rw [if_pos rfl]
   exact absurd ⟨x,hx,Y⟩ hm
  rw [e,h3 q λz hz=>hq z (List.mem_cons_of_mem _ hz),cCs h,if_neg (hq y List.mem_cons_self)]
theorem cL4{f:bS}{v:Vis}(h:cG7 p fs v (cFd p))(hsh:cId f.body):(cAe fs f v).1=(cGk p f).1 /\ ((cAe fs f v).1≠0 -> (cAe fs f v).2.at_=(cGk p f).2) /\ ((cAe fs f v).1=0 -> cG7 p fs (cAe fs f v).2.vis (cFd p)):=by
 obtain ⟨p1,p2⟩:=cKl f.params v (cFd p) 0 0 h
 unfold cAe cGk
 rcases hq:cGd f.params (cFd p) 0 0 with _|⟨l,i,m⟩
 ·rw [p1 hq,if_neg V]
  exact ⟨Y,λ_=>Y,λh=>DV⟩
 obtain ⟨q1,q2⟩:=p2 l i m hq
 rw [q1,if_pos rfl]
 have he:cIc p fs ⟨(bZv f.params v).2,0,-1⟩ (LS.init l i):=⟨q2,Y,Y⟩
 have hb:Step p fs (bZ2 fs f.body ⟨(bZv f.params v).2,0,-1⟩).1 (bZ2 fs f.body ⟨(bZv f.params v).2,0,-1⟩).2 (cRs p f.body (LS.init l i)):=cHh (cHp f.body [] _ _ hsh he) he
 have hbq:(cJg p f l i).q=(cRs p f.body (LS.init l i)).q:=Y
 dsimp only
 rw [hbq]
 by_cases h0:(bZ2 fs f.body ⟨(bZv f.params v).2,0,-1⟩).1=0
 ·have hE:=hb.1 h0
  refine ⟨by rw [h0];exact hE.q.symm,λh=>absurd h0 h,λ_=>?_⟩
  obtain ⟨a1,a2,a3⟩:=cIh f.params v h.kn q1
  have h0':=h0
  unfold bZ2 at h0'
  rw [cHi] at h0'
  obtain ⟨b1,b2,b3⟩:=cGw fs f.body [] _ q2.kn h0'
  obtain ⟨c1,c2⟩:=cIf (fs:=fs) h0' b1 (λq hq=>(b2 q hq).resolve_left not_mem_nil) b3
  obtain ⟨d1,d2,d3⟩:=cI7 f.params _ c1
  refine h.same d1 λq=>?_
  by_cases hm:∃x,x∈f.params /\ x.name=q
  ·obtain ⟨x,hx,rfl⟩:=hm
   rw [a2 x hx];exact d2 x hx
  have hm':∀x,x∈f.params -> x.name≠q:=λx hx hn=>hm ⟨x,hx,hn⟩
  rw [←a3 q hm',←c2 q];exact d3 q hm'
 have hq2:=hb.2 h0
 rw [hq2]
 exact ⟨Y,λ_=>Y,λh=>absurd h h0⟩
theorem cKp:∀(l:List bS)(i:Nat)(v:Vis),cG7 p fs v (cFd p) -> (∀f,f∈l -> cId f.body) -> cAg fs l i v=cGh p l i
 |[],i,v,_,_=>rfl
 |f::r,i,v,h,hs=>by
  obtain ⟨b1,b2,b3⟩:=cL4 h (hs f List.mem_cons_self)
  rw [cAg,cGh,←b1]
  by_cases h0:(cAe fs f v).1=0
  ·rw [if_pos h0,if_pos h0];exact cKp r (i+1) _ (b3 h0) λg hg=>hs g (List.mem_cons_of_mem _ hg)
  rw [if_neg h0,if_neg h0,b2 h0]
end
theorem cLg{p:cK}:∀(es:List cFc)(v:Vis)(l:List cFc),KN v -> (∀s,bZp v s=cH8 p (cFa l s)) -> (∀i,cG0 l es=some i -> (bZz (es.map λx=>(x.name,cFr p x)) v l.length).1=some i) /\ (cG0 l es=none -> (bZz (es.map λx=>(x.name,cFr p x)) v l.length).1=none /\ KN (bZz (es.map λx=>(x.name,cFr p x)) v l.length).2 /\ ∀s,bZp (bZz (es.map λx=>(x.name,cFr p x)) v l.length).2 s=cH8 p (cFa (l++es) s))
 |[],v,l,hk,hg=>by
  rw [cG0]
  exact ⟨λi h=>DV,λ_=>⟨Y,hk,λs=>by rw [List.append_nil];exact hg s⟩⟩
 |x::es,v,l,hk,hg=>by
  rw [cG0,List.map_cons,bZz,hg x.name]
  rcases hf:cFa l x.name with _|y
  ·rw [if_neg V,if_pos (show cH8 p none=0 from rfl)]
   have hr:∀s,bZp (bZq v x.name (cFr p x)) s=cH8 p (cFa (l++[x]) s):=λs=>by
    rw [cAl,cGu]
    by_cases hq:x.name=s
    ·subst hq;rw [if_pos rfl,hf];dsimp only;rw [if_pos rfl];rfl
    rw [if_neg hq,hg s]
    rcases cFa l s with _|z
    ·dsimp only;rw [if_neg hq]
    rfl
   have h9:=cLg es _ (l++[x]) (hk.put _ _) hr
   rw [length_append,append_assoc] at h9
   exact h9
  rw [if_pos Fs,if_neg (show ¬cH8 p (some y)=0 from cGv p y)]
  exact ⟨λi h=>h,λh=>DV⟩
theorem cKv(p:cK):bZs p=(cFd p).map λx=>(x.name,cFr p x):=by
 unfold bZs cFd
 rw [List.map_append,List.map_append]
 congr 1
 ·apply List.ext_getElem
  ·simp
  intro i h1 h2;simp [cFr]
 congr 1
 ·apply List.ext_getElem
  ·simp
  intro i h1 h2
  simp only [List.length_map] at h1
  simp only [List.getElem_map,List.getElem_mapIdx]
  unfold cFr cAr
  rw [cGz h1];rfl
 apply List.ext_getElem
 ·simp
 intro i h1 h2;simp [cFr]
end
section
theorem cIt:∀{l:List cFc} {s:ByteArray} {v:cFc},cFa l s=some v -> v∈l /\ v.name=s
 |[],_,_,h=>DV
 |x::l,s,v,h=>by
  rw [cFa] at h;split at h
  ·rename_i hx;cases h;exact ⟨List.mem_cons_self,hx⟩
  exact ⟨List.mem_cons_of_mem _ (cIt h).1,(cIt h).2⟩
theorem cI6:∀{l:List cFc} {x:cFc},(l.map cFc.name).Nodup -> x∈l -> cFa l x.name=some x
 |[],_,_,h=>absurd h not_mem_nil
 |y::l,x,hd,h=>by
  simp only [List.map_cons,List.nodup_cons] at hd
  rw [cFa]
  rcases mem_cons.1 h with rfl|h
  ·rw [if_pos rfl]
  rw [if_neg (λe=>hd.1 (by rw [e];exact List.mem_map_of_mem h))];exact cI6 hd.2 h
theorem cIm:∀(es l:List cFc),cG0 l es=none -> (es.map cFc.name).Nodup /\ ∀x,x∈es -> cFa l x.name=none
 |[],l,_=>⟨G0,λx hx=>absurd hx not_mem_nil⟩
 |x::es,l,h=>by
  rw [cG0] at h
  rcases hf:cFa l x.name with _|y
  ·rw [hf,if_neg V] at h
   obtain ⟨h1,h2⟩:=cIm es _ h
   have h3:∀y,y∈es -> cFa l y.name=none /\ x.name≠y.name:=λy hy=>by
    have h9:=h2 y hy
    rw [cGu] at h9
    split at h9
    ·cases h9
    rename_i h8
    exact ⟨h8,λe=>by rw [if_pos e] at h9;cases h9⟩
   refine ⟨?_,λy hy=>?_⟩
   ·simp only [List.map_cons,List.nodup_cons]
    refine ⟨λhm=>?_,h1⟩
    obtain ⟨y,hy,e⟩:=List.mem_map.1 hm
    exact (h3 y hy).2 e.symm
   rcases mem_cons.1 hy with rfl|hy
   ·exact hf
   exact (h3 y hy).1
  rw [hf,if_pos Fs] at h;cases h
theorem cIy:∀(l:List bS)(m:Fns)(s:ByteArray),s∉l.map bS.name -> bZu (l.foldl (λm f=>bZq m f.name f) m) s=bZu m s
 |[],m,s,_=>rfl
 |f::l,m,s,h=>by
  simp only [List.map_cons,mem_cons,not_or] at h
  rw [List.foldl_cons,cIy l _ s h.2,cBo,if_neg (λe=>h.1 e.symm)]
theorem cJj:∀(l:List bS)(m:Fns),(l.map bS.name).Nodup -> ∀f,f∈l -> bZu (l.foldl (λm f=>bZq m f.name f) m) f.name=some f
 |[],_,_,f,h=>absurd h not_mem_nil
 |g::l,m,hd,f,h=>by
  simp only [List.map_cons,List.nodup_cons] at hd
  rw [List.foldl_cons]
  rcases mem_cons.1 h with rfl|h
  ·rw [cIy l _ _ hd.1,cBo,if_pos rfl]
  exact cJj l _ hd.2 f h
theorem cJx:∀(l:List bS)(m:Fns)(s:ByteArray)(f:bS),bZu (l.foldl (λm f=>bZq m f.name f) m) s=some f -> (f∈l /\ f.name=s)∨bZu m s=some f
 |[],m,s,f,h=>.inr h
 |g::l,m,s,f,h=>by
  rw [List.foldl_cons] at h
  rcases cJx l _ s f h with h|h
  ·exact .inl ⟨List.mem_cons_of_mem _ h.1,h.2⟩
  rw [cBo] at h
  split at h
  ·rename_i hg;cases h;exact .inl ⟨List.mem_cons_self,hg⟩
  exact .inr h
theorem cK7{p:cK}{x:cFc}(h:x∈cFd p)(h3:x.kind=3):∃(i:Nat) (hi:i<p.funcs.length),x=⟨p.funcs[i].name,3,i⟩:=by
 unfold cFd at h
 rcases mem_append.1 h with h|h
 ·obtain ⟨i,hi,rfl⟩:=List.mem_mapIdx.1 h
  exact absurd h3 GZ
 rcases mem_append.1 h with h|h
 ·obtain ⟨i,hi,rfl⟩:=List.mem_mapIdx.1 h
  exact absurd h3 GY
 obtain ⟨i,hi,rfl⟩:=List.mem_mapIdx.1 h
 exact ⟨i,hi,Y⟩
theorem cK0{p:cK}{f:bS}(h:f∈p.funcs):∃i:Nat,(⟨f.name,3,i⟩:cFc)∈cFd p:=by
 obtain ⟨i,hi,rfl⟩:=List.getElem_of_mem h
 refine ⟨i,?_⟩
 unfold cFd
 exact List.mem_append_right _ (List.mem_append_right _ (List.mem_mapIdx.2 ⟨i,hi,Y⟩))
theorem cKg{p:cK}(h:((cFd p).map cFc.name).Nodup):(p.funcs.map bS.name).Nodup:=by
 unfold cFd at h
 rw [List.map_append,List.map_append] at h
 have h1:=(List.nodup_append.1 (List.nodup_append.1 h).2.1).2.1
 have e:(p.funcs.mapIdx λi f=>(⟨f.name,3,i⟩:cFc)).map cFc.name=p.funcs.map bS.name:=by
  apply List.ext_getElem
  ·simp
  intro i h1 h2;simp
 rw [e] at h1;exact h1
section
variable {p:cK}(hn:((cFd p).map cFc.name).Nodup)
include hn
theorem cKw(s:ByteArray)(x:cFc)(hf:cFa (cFd p) s=some x)(h3:x.kind=3):∃f,bZu (bZ7 p.funcs) s=some f /\ cGc p x.n=f.params:=by
 obtain ⟨h1,h2⟩:=cIt hf
 obtain ⟨i,hi,rfl⟩:=cK7 h1 h3
 refine ⟨p.funcs[i],?_,cHc hi⟩
 rw [←h2];exact cJj p.funcs [] (cKg hn) _ (getElem_mem hi)
theorem cLi(s:ByteArray)(h:∀x,cFa (cFd p) s=some x -> x.kind≠3):bZu (bZ7 p.funcs) s=none:=by
 rcases hl:bZu (bZ7 p.funcs) s with _|f
 ·rfl
 exfalso
 rcases cJx p.funcs [] s f hl with ⟨h1,h2⟩|h1
 ·obtain ⟨i,hi⟩:=cK0 h1
  have h9:=cI6 hn hi
  exact h _ (by rw [←h2];exact h9) Y
 cases h1
theorem cL8:cA9 p=cHa p:=by
 unfold cA9 cHa
 rw [show cCg=cFl from rfl]
 rcases hf:cFa (cFd p) cFl with _|x
 ·rw [cLi hn cFl (λx h=>by rw [hf] at h;cases h)]
 by_cases h3:x.kind=3
 ·obtain ⟨f,h1,h2⟩:=cKw hn cFl x hf h3
  rw [h1];dsimp only;rw [h2,decide_eq_true h3,Bool.true_and]
 rw [cLi hn cFl (λy h=>by rw [hf] at h;cases h;exact h3)];dsimp only;rw [decide_eq_false h3,Bool.false_and]
end
theorem cLp(p:cK):cAb p=cFx p:=by
 unfold cAb cFx
 by_cases hv:jI p=false
 ·rw [if_pos hv,if_pos hv]
 rw [if_neg hv,if_neg hv,cKv]
 obtain ⟨d1,d2⟩:=cLg (p:=p) (cFd p) [] [] (by unfold KN;simp) (λs=>rfl)
 rw [length_nil] at d1 d2
 rcases hb:cG0 [] (cFd p) with _|i
 ·obtain ⟨e1,e2,e3⟩:=d2 hb
  rw [e1];dsimp only
  obtain ⟨hn,-⟩:=cIm _ _ hb
  rw [cL8 hn]
  by_cases hm:cHa p=true
  ·rw [if_pos hm,if_pos hm]
   refine cKp p.funcs 0 _ ⟨e2,λs=>by rw [e3];rfl,cKw hn⟩ λf hf=>?_
   have hvt:jI p=true:=by simpa using hv
   rw [nX,Bool.and_eq_true] at hvt
   exact cJd 0 f.body (aJv hvt.1 f hf).1
  rw [if_neg hm,if_neg hm]
 rw [d1 i hb]
end
section
theorem cSl{α:Type}(nm:α -> ByteArray)(l:List α)(hd:(l.map nm).Nodup):∀k,k <= l.length -> ∀i (h:i<l.length),i<k -> bZu (cR5 nm l k) (nm l[i])=some ((i:Nat):Int)
 |0,_,i,_,hi=>absurd hi (Nat.not_lt_zero i)
 |k+1,hk,i,h,hi=>by
  rw [←cSk nm l k J,cBo]
  by_cases e:i=k
  ·subst e;rw [if_pos rfl]
  rw [if_neg,cSl nm l hd k J i h J]
  have:=List.pairwise_iff_getElem.1 hd i k GA GA J
  rw [List.getElem_map,List.getElem_map] at this
  exact λh=>this h.symm
theorem cTn:∀{l:List cFc} {s:ByteArray} {v:cFc},cFa l s=some v -> v.name=s
 |[],_,_,h=>DV
 |x::l,s,v,h=>by
  rw [cFa] at h;split at h
  ·rename_i h1;cases h;exact h1
  exact cTn h
theorem cUe(p:cK):(cFd p).map cFc.name=p.globals.map aI.name++(p.mutexes.map cL.name++p.funcs.map bS.name):=by
 have e:∀{α:Type} (f:Nat -> α -> cFc) (nm:α -> ByteArray) (h:∀i a,(f i a).name=nm a) (l:List α),(l.mapIdx f).map cFc.name=l.map nm:=λf nm h l=>by
  apply List.ext_getElem G0
  intro i h1 h2
  simp [h]
 unfold cFd
 rw [List.map_append,List.map_append,e _ aI.name (λ_ _=>rfl),e _ cL.name (λ_ _=>rfl),e _ bS.name (λ_ _=>rfl)]
theorem cT1{p:cK}{v:cFc}(h:v∈cFd p):(∃i,∃(h:i<p.globals.length),v=⟨p.globals[i].name,1,i⟩)∨(∃i,∃(h:i<p.mutexes.length),v=⟨p.mutexes[i].name,2,i⟩)∨∃i,∃(h:i<p.funcs.length),v=⟨p.funcs[i].name,3,i⟩:=by
 unfold cFd at h
 rcases mem_append.1 h with h|h
 ·obtain ⟨i,hi,rfl⟩:=List.mem_mapIdx.1 h;exact .inl ⟨i,hi,rfl⟩
 rcases mem_append.1 h with h|h
 ·obtain ⟨i,hi,rfl⟩:=List.mem_mapIdx.1 h;exact .inr (.inl ⟨i,hi,rfl⟩)
 obtain ⟨i,hi,rfl⟩:=List.mem_mapIdx.1 h;exact .inr (.inr ⟨i,hi,rfl⟩)
theorem cU6{p:cK}(hb:cG0 [] (cFd p)=none):MR (cR5 aI.name p.globals p.globals.length) (cR5 cL.name p.mutexes p.mutexes.length) (cR5 bS.name p.funcs p.funcs.length) [] [] (cFd p):=by
 have hn:=(cIm _ _ hb).1
 rw [cUe] at hn
 obtain ⟨h1,h23,-⟩:=List.nodup_append.1 hn
 obtain ⟨h2,h3,-⟩:=List.nodup_append.1 h23
 have no:∀(k:Int)(hk:k=4∨k=5)(s:ByteArray),(none:Option Int)=(match cFa (cFd p) s with|some v=>if v.kind=k then some ((v.n:Nat):Int) else none|none=>none):=λk hk s=>by
  rcases hf:cFa (cFd p) s with _|v
  ·rfl
  dsimp only
  rw [if_neg]
  rcases cT1 (cH3 hf) with ⟨i,hi,rfl⟩|⟨i,hi,rfl⟩|⟨i,hi,rfl⟩
  ·show ¬(1:Int)=k;omega
  ·show ¬(2:Int)=k;omega
  show ¬(3:Int)=k;omega
 refine ⟨no 4 (.inl Y),no 5 (.inr Y),λs v hv hk=>?_,λs v hv hk=>?_,λs v hv hk=>?_⟩
 all_goals
  have hs:=cTn hv
  rcases cT1 (cH3 hv) with ⟨i,hi,rfl⟩|⟨i,hi,rfl⟩|⟨i,hi,rfl⟩
 ·subst hs;exact cSl aI.name p.globals h1 _ (Nat.le_refl _) i hi hi
 ·exact absurd hk (by show ¬(2:Int)=1;decide)
 ·exact absurd hk (by show ¬(3:Int)=1;decide)
 ·exact absurd hk (by show ¬(1:Int)=2;decide)
 ·subst hs;exact cSl cL.name p.mutexes h2 _ (Nat.le_refl _) i hi hi
 ·exact absurd hk (by show ¬(3:Int)=2;decide)
 ·exact absurd hk GZ
 ·exact absurd hk GY
 subst hs;exact cSl bS.name p.funcs h3 _ (Nat.le_refl _) i hi hi
theorem cTr{p:cK}(h:cFx p=(0,0,0)):jI p=true /\ MR (cR5 aI.name p.globals p.globals.length) (cR5 cL.name p.mutexes p.mutexes.length) (cR5 bS.name p.funcs p.funcs.length) [] [] (cFd p) /\ (∀f,f∈p.funcs -> (cGk p f).1=0 /\ cSh f.body) /\ bZp (cR5 bS.name p.funcs p.funcs.length) cFl=(((cFb (cFd p) cFl).n:Nat):Int):=by
 obtain ⟨h1,h2,h3,h4⟩:=cTy h
 have hm:=cU6 h2
 refine ⟨h1,hm,λf hf=>⟨h4 f hf,?_⟩,?_⟩
 ·have hv:=h1
  unfold jI at hv
  simp only [Bool.and_eq_true] at hv
  have h5:=List.all_eq_true.1 hv.1.2 f hf
  unfold gW at h5
  simp only [Bool.and_eq_true] at h5
  exact cT4 0 f.body h5.1.2
 unfold cHa at h3
 unfold bZp cFb
 rcases hf:cFa (cFd p) cFl with _|v
 ·rw [hf] at h3;cases h3
 rw [hf] at h3
 simp only [Bool.and_eq_true,decide_eq_true_eq] at h3
 rw [hm.fs _ v hf h3.1];rfl
end
end Go.Proofs.YtjgeihmhppadaaaGreatDoor
