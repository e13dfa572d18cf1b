import Derived.Test.YtjgeihmhppadaaaGreatDoorCG9J
import Derived.Test.YtjgeihmhppadaaaGreatDoorCards
import Derived.Test.YtjgeihmhppadaaaGreatDoorTie
import Derived.Deep.DeepHandedRow
import Derived.LaidMore
set_option linter.all false
set_option synthInstance.maxHeartbeats 1000000
set_option synthInstance.maxSize 1000000
set_option maxHeartbeats 6400000
set_option maxRecDepth 100000
namespace Go.Proofs.YtjgeihmhppadaaaGreatDoor
open Go.Proofs.Tryz
open List (length_append length_cons length_nil mem_append mem_cons not_mem_nil append_assoc getElem_mem take_of_length_le)
section
open Go.RowKit
def Q4{p:aZ}(h:gE p=false):mP p=(-1,-1,10):=by unfold mP;rw [if_pos h]
def OS{p:aZ}{i:Nat}{v:bd}(h:gE p=true)(hd:fM (eR p) [] 0=(some i,v)):mP p=(-1,(i:Int),5):=by unfold mP;rw [if_neg mb,hd]
def Hn{p:aZ}{v:bd}(h:gE p=true)(hd:fM (eR p) [] 0=(none,v))(hm:nN p=false):mP p=(-1,-1,9):=by unfold mP;rw [if_neg mb,hd];dsimp only;rw [if_neg (by rw [hm];decide)]
def Mq{p:aZ}{v:bd}(h:gE p=true)(hd:fM (eR p) [] 0=(none,v))(hm:nN p=true):mP p=lP (fO p.funcs) p.funcs 0 v:=by unfold mP;rw [if_neg mb,hd];dsimp only;rw [if_pos hm]
def SE{p:aZ}(h:dG (fO p.funcs) ta=none):nN p=false:=by unfold nN;rw [h]
def F8{p:aZ}{f:bE}(h:dG (fO p.funcs) ta=some f):nN p=decide (f.params.length=0):=by unfold nN;rw [h]
def Li{fs:dC}{l:List bE}{v v0:bd}{k:Nat}(hk:k<l.length)(h:lP fs (l.drop k) k v=lP fs l 0 v0):
  ((gw fs l[k] v).1=0 -> lP fs (l.drop (k+1)) (k+1) (gw fs l[k] v).2.vis=lP fs l 0 v0) /\ ((gw fs l[k] v).1≠0 -> lP fs l 0 v0=((k:Int),(gw fs l[k] v).2.at_,(gw fs l[k] v).1)):=by
 rw [iK hk,lP] at h;refine ⟨λh0=>?_,λh0=>?_⟩
 ·rw [if_pos h0] at h;exact h
 rw [if_neg h0] at h;exact h.symm
def MX(p:aZ)(hs:p.sane)(hw:p.wt <= 9000000)(s:aH):aR prog 14 [cC (.agg (eA p))] [] s λt s'=>∃(f s0:Int) (e:Nat),mP p=(f,s0,e) /\ t=.tup [bB f,bB s0,aX e] /\ s'=s:=by
 obtain ⟨bx,rw⟩:=s;have hwq:=hw;unfold aZ.wt at hwq;have hfl:=oe bE.wt (λf=>pV) p.funcs;refine bN 61 func14 ?_;refine go 12 λb1=>?_;rcases bq (gE p) with h1|h1
 ·refine dl 0 J call31 J (Lx p hs hw _) h1 (go 9 ?_);refine aW J (sa 0 (a_) J J V λgv=>?_);refine aW J (sa 3 (ac) J J V λgf=>?_);refine go 9 λC=>?_;refine aW J (bj [C,gv,gf] J J V call32 J (Oe [] _ C gv gf p rw Y Y Y) (by intro b hb;simp at hb⊢;rcases hb with rfl|rfl|rfl<;>simp) (by intro b hb;simp at hb;rcases hb with rfl|rfl|rfl<;>simp [aH.bl,qJ]) (by intro _ b hb;simp at hb⊢;rcases hb with rfl|rfl|rfl<;>simp) ?_);rintro _ _ ⟨r,v0,fsx,hd,rfl,rfl,hok⟩;rcases r with _|ix
  ·obtain ⟨rfl,hf0⟩:=hok rfl;clear hok;show cL prog _ _ ⟨_,_,_,(_,bB (-1))::_⟩ _;refine go 6 ?_;refine aC false J J (go 12 ?_);rcases hmn:dG (fO p.funcs) ta with _|fm
   ·refine aF J (Nv (m:=3) (ev:=ac) (fO p.funcs) J J J aK V (λ_=>J) underlying96 underlying9 zeroValue67 gr hmn (.agg [ae ⟨#[]⟩,aI,aI]) J) (go 30 λb4=>?_);exact ⟨.inr J,_,⟨bx,rw⟩,pN J (bM J) (bM J) (bM J),aj (.cons _ (.cons _ (.cons _ (.refl _)))) (.cons _ (.cons _ (.refl _))),-1,-1,9,Hn h1 hd (SE hmn),J,J⟩
   refine aF J (Ti (m:=3) (ev:=ac) (fO p.funcs) J J J aK V (λ_=>J) underlying96 underlying9 zeroValue67 gr hmn) (go 16 λb5=>?_);by_cases h5:(0:Int)<((fm.params.length:Nat):Int)
   ·refine aC true J (ek h5) (go 13 ?_);exact ⟨.inr J,_,⟨bx,rw⟩,pN J (bM J) (bM J) (bM J),aj (.cons _ (.cons _ (.cons _ (.refl _)))) (.cons _ (.cons _ (.refl _))),-1,-1,9,Hn h1 hd (by rw [F8 hmn];exact decide_eq_false Y),J,J⟩
   refine aC false J (em h5) (go 16 ?_);have hmz:nN p=true:=by rw [F8 hmn];exact decide_eq_true Y
   refine ff (λg:Nat×bd×Int×Int=>(⟨61,[b5,C,gf,gv,b1],⟨⟨b5,67,ac fm⟩::⟨C,98,[aB ak p.globals,aB aU p.mutexes,aB ac p.funcs,aD gv,aD gf,aA g.2.2.1,aA g.2.2.2]⟩::⟨b1,27,eA p⟩::bx,ai gf 3 ac (fO p.funcs)::ai gv 0 a_ g.2.1::rw⟩,[(44,aX g.1),(1,aE b1),(2,bB 0),(3,bB 0),(4,bB 0),(5,aE C),(7,aE b5),(42,.c (aB ac p.funcs)),(43,aX p.funcs.length)]⟩:AS)) (λg=>g.1 <= p.funcs.length /\ lP (fO p.funcs) (p.funcs.drop g.1) g.1 g.2.1=lP (fO p.funcs) p.funcs 0 v0 /\ dz g.2.1 (fO p.funcs)) (λg=>p.funcs.length-g.1) (0,v0,0,0) (az nI) ⟨d2 _,J,hf0⟩ ?_;rintro ⟨k,vis,n0,a0⟩ ⟨hk,hst,hfk⟩;dsimp only at hk hst hfk
   try dsimp only
   refine go 2 ?_;by_cases h8:((k:Nat):Int)<((p.funcs.length:Nat):Int)
   ·refine aC true J (ck h8) (go 11 ?_);refine aF J (bS ac ac p.funcs mI (λ_=>J) k J J J J Y V runUnderlying25 sizeOf67) (go 10 λb6=>?_);refine aW J (bj [C,gv] J J V call33 J (TT [_,_] _ C gv gf p (fO p.funcs) [_] rw aK _ _ vis p.funcs[k] hfk BO) im ln ky ?_);rintro _ _ ⟨e,y,hy,rfl,rfl⟩;refine go 6 ?_;by_cases h10:((e:Nat):Int)=0
    ·refine aC false J (dv h10) (go 7 ?_);refine bJ J (go 2 ?_);have hnx:=(Li Y hst).1 (by rw [hy];show e=0;omega);rw [hy] at hnx;have hf1:=Oj p.funcs[k] hfk;rw [hy] at hf1;exact ⟨(k+1,y.vis,((y.n:Nat):Int),y.at_),⟨by show k+1 <= p.funcs.length;omega,hnx,hf1⟩,Ii,az (h1:=(.cons _ (.refl _))) (h:=av J (bv Y) (ao J)) nI⟩
    refine aC true J (fe h10) (go 4 ?_);refine b_ [b6,b5,C,b1] (aY [0,1,2,3,4,5,6,7,8] 0 (go 10 ?_));refine bG (go 7 ?_);exact ⟨.inr J,_,⟨bx,rw⟩,pN J (bM J) (bM J) (bM J),aj (.cons _ (.cons _ (.cons _ (.cons _ (.refl _))))) (.cons _ (.cons _ (.refl _))),((k:Nat):Int),y.at_,e,(by rw [Mq h1 hd hmz,(Li Y hst).2 (by rw [hy];show e≠0;omega),hy]),J,J⟩
   refine aC false J (cg h8) (go 17 ?_);exact ⟨.inr J,_,⟨bx,rw⟩,pN J (bM J) (bM J) (bM J),aj (.cons _ (.cons _ (.cons _ (.refl _)))) (.cons _ (.cons _ (.refl _))),0,0,0,(by rw [Mq h1 hd hmz,←hst,ka Y];rfl),J,J⟩
  show cL prog _ _ ⟨_,_,_,(_,aX ix)::_⟩ _;refine go 6 ?_;refine aC true J (mH Y) (go 13 ?_);exact ⟨.inr J,_,⟨bx,rw⟩,pN J (bM J) (bM J) (bM J),aj (.cons _ (.cons _ (.refl _))) (.cons _ (.cons _ (.refl _))),-1,((ix:Nat):Int),5,OS h1 hd,J,J⟩
 refine dl 0 J call31 J (Lx p hs hw _) h1 (go 13 ?_);exact ⟨.inr J,_,⟨bx,rw⟩,pN J (bM J) (bM J) (bM J),aj (.cons _ (.refl _)) (.refl _),-1,-1,10,Q4 h1,J,J⟩
section
variable {P:Program}{U T:List Nat}{o:Oper}{n d:Nat}{ts:List (Nat×AT)}{s:aH}{K:AS -> Prop}
theorem NX{t yt e:bA}{x y:bc}{k:Nat}{cs:List aN}(ho:o.op=.binOp .eql t x y yt)(hd:o.dst=some d)(hn:d<n)(hx:ay ⟨n,T,s,ts⟩ x=some (.c (.sl k cs)))(hy:ay ⟨n,T,s,ts⟩ y=some (.c (aI)))(ht:P.underlying t=some (.slice e))
  (h:∀b:Bool,(b=true -> cs=[]) -> K ⟨n,T,s,(d,ap b)::ts⟩):dN P U o ⟨n,T,s,ts⟩ K:=by
 intro a w hs KK QQ hK;have hxe:=hs.ev hx;generalize hxv:a.eval x=xv at hxe;cases hxe with
 |c _ _ hr=>
  cases hr with
  |sl _ _ us _ hrow hl hr hcap=>
   obtain ⟨p,cap,he,hc,hrr⟩:=hrow;subst he;have hb:p.isNone=true -> cs=[]:=λhp=>by
    rcases hrr with h0|⟨b,off,h1,-⟩
    ·subst h0;exact uv (by rw [←hl];rfl)
    subst h1;cases hp
   have goal:KK (a.put o.dst (.bool p.isNone)) w:=by
    rw [hd];refine hK _ _ _ (h p.isNone hb) ((hs.step (w1:=w) T (cH.refl _ _) hs.mem (λb hb=>.inl hb)).put (v:=.bool p.isNone) hn (.c _ _ (.val _ J))) ⟨cH.refl _ _,cH.refl _ _,λb hb=>.inl hb,λg hg=>.inl hg⟩ (cH.refl _ _)
   have hr2:=Lib.run_eql_slice_nil w t e p k cap 0 0 ht;unfold Oper.wp;rw [show (execOp a.eval o).run P w=.ok (.value (.bool p.isNone)) w from by simp only [execOp,ho,hxv,hs.val hy];simp [go_sem,eqGuard,hr2]];exact goal
end
def Ht{p:aZ}{f s:Int}{e:Nat}(h:gJ p=(f,s,e))(he:e=0):f=0 /\ s=0:=by
 subst he;unfold gJ at h;split at h
 ·cases h
 split at h
 ·cases h
 split at h
 ·have g:∀(l:List bE)(k:Nat)(f s:Int),kF p l k=(f,s,0) -> f=0 /\ s=0:=λl=>by
   induction l with
   |nil=>intro k f s h;rw [kF] at h;cases h;exact ⟨rfl,rfl⟩
   |cons a l ih=>
    intro k f s h;rw [kF] at h;split at h
    ·exact ih _ _ _ h
    rename_i h0;exact absurd (congrArg (λx=>x.2.2) h) h0
  exact g _ _ _ _ h
 ·cases h
def LB{T:List Nat}{bx:List aT}{rw:List aS}{D gg gm gf:Nat}{E:bA}{cs:List aN}{l1 l2 l3:bd}(hn:(⟨⟨D,E,cs⟩::bx,ai gf 0 a_ l3::ai gm 0 a_ l2::ai gg 0 a_ l1::rw⟩:aH).bl.Nodup):∀b,b∈[D,gg,gm,gf] -> b∈(⟨⟨D,E,cs⟩::bx,ai gf 0 a_ l3::ai gm 0 a_ l2::ai gg 0 a_ l1::rw⟩:aH).bl /\ (b∈(⟨bx,rw⟩:aH).bl -> b∈T):=by
 intro b hb;refine ⟨by simp only [mem_cons,not_mem_nil,or_false] at hb;unfold aH.bl;simp only [cd,fD,sI,mem_append,mem_cons,not_mem_nil,or_false];grind,λh9=>absurd h9 λh9=>?_⟩;unfold aH.bl at hn h9;simp only [cd,fD,sI,eD,dw] at hn;simp only [mem_cons,not_mem_nil,or_false] at hb;rcases mem_append.1 h9 with h9|h9
 ·rcases hb with rfl|rfl|rfl|rfl<;>simp [kE,du] at hn<;>grind
 rcases hb with rfl|rfl|rfl|rfl<;>simp [kE,du] at hn<;>grind
def Iv(l:List cq)(hl:l.length <= 9000000)(s:aH):aR prog 26 [.c (aB aU l)] [] s λt s'=>t=.c (aB aU l) /\ s'=s:=by
 obtain ⟨bx,rw⟩:=s;refine bN 8 func26 ?_;refine go 9 ?_;refine aW J (NX J J V J J underlying24 λbn hbn=>?_);rcases bq bn with rfl|rfl
 ·obtain rfl:l=[]:=by cases l with|nil=>rfl|cons m r=>exact absurd (congrArg List.length (hbn rfl)) (by simp [kI])
  refine go 10 ?_;exact ⟨.inr J,_,⟨bx,rw⟩,bT J (gP (bu.c py) (bM J)),aj (.refl _) (.refl _),J,J⟩
 refine go 7 ?_;refine aW J (qW J J V underlying24 sizeOf60 λg1=>?_);refine go 1 ?_;refine aW J (na [] Tryz.t60 32 J J V J J underlying24 aQ J J J J V (fN aU 3 (λ_=>J) l) c_ Y (e0 l.length) (λ_=>bz.h) bz.h (dw _) λw2=>?_);refine sQ 7 J ?_;refine go 4 ?_;exact aw (s':=⟨bx,rw⟩) J dm ⟨J,J⟩
def M5(p:aZ)(hs:p.sane)(hw:p.wt <= 9000000)(s:aH):aR prog 9 [cC (.agg (eA p))] [] s λt s'=>t=.tup [.agg (o5 (kV p)),bB ((gJ p).1),bB ((gJ p).2.1),bB (((gJ p).2.2:Nat):Int)] /\ s'=s:=by
 obtain ⟨bx,rw⟩:=s;have hall:=yO p;have hwq:=hw;unfold aZ.wt at hwq;have hfl:=oe bE.wt (λf=>pV) p.funcs;refine bN 70 func9 ?_;refine go 13 λb1 b2=>?_;refine aW J (nd 0 [] J J V call14 J J (MX p hs hw _) dL dL (λ_=>dL) ?_);rintro _ _ ⟨f0,s0,bm,hc,rfl,rfl⟩;rw [DV] at hc;refine go 12 ?_;by_cases h1:((bm:Nat):Int)=0
 ·refine aC false J (dv h1) (go 8 ?_);obtain ⟨rfl,rfl⟩:=Ht hc Y;obtain rfl:bm=0:=Y;obtain ⟨hv0,hM,hfe,hmn⟩:=Fe hc;refine aW J (qx [] J J V call25 J (IP p Y Y Y _) dL dL (λ_=>dL) ?_);rintro _ _ ⟨D,gg,gm,gf,rfl,rfl⟩;refine ⟨[D,gg,gm,gf],LB,?_⟩;refine go 3 ?_;refine qS (λg:Nat=>(⟨70,[g,D,b2,b1,gg,gm,gf],⟨⟨g,31,[aI,aB aU p.mutexes,aI,aA (((bL (ba p) d7).n:Nat):Int)]⟩::⟨D,77,[aD gg,aD gm,aD gf,.val (.map none),.val (.map none),aA 0,aI,aI,aA 0]⟩::⟨b2,31,[aI,aI,aI,aA 0]⟩::⟨b1,27,eA p⟩::bx,ai gf 0 a_ (d6 bE.name p.funcs p.funcs.length)::ai gm 0 a_ (d6 cq.name p.mutexes p.mutexes.length)::ai gg 0 a_ (d6 bw.name p.globals p.globals.length)::rw⟩,[(10,aE g),(1,aE b1),(2,aE b2),(9,aE D)]⟩:AS)) ?_ ?_
  ·refine b_ [D,b2,b1,gf] (aY [0,1,3,4,5,6] 5 (go 7 ?_));refine ab 7 J (nF (d6 bE.name p.funcs p.funcs.length) J J J aK underlying74 underlying9 zeroValue3 mB) ?_;refine cx 2 9 J ?_ ?_;focus
    refine (fX J J V call26 J (Iv p.mutexes Y _) ?_);rintro _ _ ⟨rfl,rfl⟩;refine ab 8 J (id <|wV Tryz.t31 [(0,1),(1,1),(2,1),(3,1)] J (.cons J (.cons J .nil)) underlying31 aQ J aQ J J) (cU [(9,false)] 1 (go 2 λb4=>?_))
   rotate_left;refine (iG J J V zeroValue31 J λb4=>?_);refine an 2 J J (fX J J V call26 J (Iv p.mutexes Y _) ?_);rintro _ _ ⟨rfl,rfl⟩;refine ab 8 J (id <|wV Tryz.t31 [(0,1),(1,1),(2,1),(3,1)] J (.cons J (.cons J .nil)) underlying31 aQ J aQ J J) ?_;all_goals
    refine an 10 J J (id <|Gg J J J J J sizeOf31 J (ez J) (zM J) aK Ih ?_);refine bG ?_;rw [show bO (d6 bE.name p.funcs p.funcs.length) (⟨#[109,97,105,110]⟩:aG)=_ from hmn];exact ⟨b4,az j4⟩
  rintro b5
  try dsimp only
  refine go 10 ?_;refine fZ 3 1 ?_;refine ir (α:=aM) (λ_ _=>True) (p.globals.length) 41 (λg=>aO g++([b5,D,b2,b1,gg,gm,gf])) (λk g=>⟨⟨b5,31,[.val g,aB aU p.mutexes,aI,aA (((bL (ba p) d7).n:Nat):Int)]⟩::⟨D,77,[aD gg,aD gm,aD gf,.val (.map none),.val (.map none),aA 0,aI,aI,aA 0]⟩::⟨b2,31,[aI,aI,aI,aA 0]⟩::⟨b1,27,eA p⟩::bx,⟨g,3,1,k,((p.globals.take k).map bw.init).map λx=>aA x⟩::ai gf 0 a_ (d6 bE.name p.funcs p.funcs.length)::ai gm 0 a_ (d6 cq.name p.mutexes p.mutexes.length)::ai gg 0 a_ (d6 bw.name p.globals p.globals.length)::rw⟩) (λ_=>[(1,aE b1),(2,aE b2),(9,aE D),(10,aE b5),(39,.c (aB ak p.globals)),(40,aX p.globals.length)]) (.slice none 0 0) trivial (az yo) ?_;rintro k v0 hk -
  try dsimp only
  refine go 2 ?_;by_cases h3:((k:Nat):Int)<((p.globals.length:Nat):Int)
  ·refine aC true J (ck h3) (go 9 ?_);have hkl:k<p.globals.length:=Y;refine go 1 ?_;refine aF J (bS ak ak p.globals nD (λ_=>J) k J J J J Y V runUnderlying23 sizeOf63) (go 10 λb6=>?_);refine aW J (be (r:=[aA (p.globals[k].init)]) oV ?_);refine aW J (dR [] AQ J J V c_ Y (N:=k+1) J (λ_=>bz.h) bz.h (Ly bw.init p.globals k Y) λw7=>?_);refine go 6 ?_;refine bJ J (go 2 ?_);exact ⟨Y,w7,trivial,az (h1:=(.cons _ (.refl _))) (h:=av J (bv Y) (ao J)) j4⟩
  refine aC false J (cg h3) (go 12 ?_);obtain rfl:k=p.globals.length:=Y;rw [gq];refine go 7 ?_;refine fZ 79 5 ?_;refine ir (α:=aM×(Nat -> aN)) (λ_ _=>True) (p.funcs.length) 56 (λg=>aO g.1++(aO v0++[b5,D,b2,b1,gg,gm,gf])) (λk g=>⟨⟨b5,31,[.val v0,aB aU p.mutexes,.val g.1,aA (((bL (ba p) d7).n:Nat):Int)]⟩::⟨D,77,[aD gg,aD gm,aD gf,(g.2 0),(g.2 1),(g.2 2),(g.2 3),(g.2 4),(g.2 5)]⟩::⟨b2,31,[aI,aI,aI,aA 0]⟩::⟨b1,27,eA p⟩::bx,⟨g.1,79,5,k,((p.funcs.take k).map (gQ p)).flatMap fL⟩::⟨v0,3,1,p.globals.length,((p.globals).map bw.init).map λx=>aA x⟩::ai gf 0 a_ (d6 bE.name p.funcs p.funcs.length)::ai gm 0 a_ (d6 cq.name p.mutexes p.mutexes.length)::ai gg 0 a_ (d6 bw.name p.globals p.globals.length)::rw⟩) (λ_=>[(1,aE b1),(2,aE b2),(9,aE D),(10,aE b5),(54,.c (aB ac p.funcs)),(55,aX p.funcs.length)]) (.slice none 0 0,λj=>(if j=0 then .val (.map none) else if j=1 then .val (.map none) else if j=2 then aA 0 else if j=3 then aI else if j=4 then aI else aA 0)) trivial (az yo) ?_;rintro k ⟨v2,y⟩ hk -
  try dsimp only
  refine go 2 ?_;by_cases h6:((k:Nat):Int)<((p.funcs.length:Nat):Int)
  ·refine aC true J (ck h6) (go 9 ?_);have hkl:k<p.funcs.length:=Y;refine go 1 ?_;refine aF J (bS ac ac p.funcs mI (λ_=>J) k J J J J Y V runUnderlying25 sizeOf67) (go 5 λb8=>?_);refine kf 8 [b8,b5,b2,b1] [] #[true,true,true,true,true,true,true,true,false] aQ aQ aQ ?_;refine aY [0,1,2,3] 4 (go 5 ?_);have hfk:=hfe p.funcs[k] (getElem_mem hkl);have hfw:bE.wt p.funcs[k] <= 20000000:=by have:=pT bE.wt p.funcs k hkl;unfold aZ.wt at hw;omega
   refine an 4 J J (bj [D] J J V call27 J (F_ [_,_] _ D gg gm gf p (d6 bw.name p.globals p.globals.length) (d6 cq.name p.mutexes p.mutexes.length) (d6 bE.name p.funcs p.funcs.length) _ _ _ _ _ _ _ p.funcs[k] hM aK aK aK (wW p) Y hfw hfk.2 hfk.1) dV dS JS ?_);rintro _ _ ⟨rfl,x3,x4,x5,x6,x8,rfl⟩;refine an 5 J J (be (hf:=dU fL fL (gQ p p.funcs[k]) J J J) Ka ?_);refine an 6 J J (dR [] J3 J (fN fL 5 tT _) V c_ Y (N:=k+1) J (λhn b hb=>eY (r:=(⟨v2,79,5,k,((p.funcs.take k).map (gQ p)).flatMap fL⟩:aS)) hn hb) bz.h (tX (gQ p) fL p.funcs k Y) λw10=>?_);refine aY [7] 0 (go 2 ?_);refine bG ?_;refine id ?_;refine cU [(8,false)] 0 (go 2 ?_);refine bG (go 3 ?_);refine bJ J (go 2 ?_);exact ⟨Y,(w10,λj=>(if j=0 then x3 else if j=1 then x4 else if j=2 then x5 else if j=3 then x6 else if j=4 then .sl (nX p p.funcs[k]).length ((nX p p.funcs[k]).map λx=>aA x) else x8)),trivial,az (h1:=(.cons _ (.refl _))) (h:=av J (bv Y) (ao J)) j4⟩
  refine aC false J (cg h6) (go 11 ?_);obtain rfl:k=p.funcs.length:=Y;rw [gq];refine iE (cs':=[.val v0,aB aU p.mutexes,.sl p.funcs.length ((p.funcs.map (gQ p)).flatMap fL),aA (((bL (ba p) d7).n:Nat):Int)]) [] 2 J J ?_;show cL prog _ _ ⟨_,_,⟨⟨b5,31,[.val v0,aB aU p.mutexes,.sl p.funcs.length ((p.funcs.map (gQ p)).flatMap fL),aA (((bL (ba p) d7).n:Nat):Int)]⟩::⟨D,77,[aD gg,aD gm,aD gf,(y 0),(y 1),(y 2),(y 3),(y 4),(y 5)]⟩::⟨b2,31,[aI,aI,aI,aA 0]⟩::⟨b1,27,eA p⟩::bx,_⟩,_⟩ _;refine iE (cs':=[.sl p.globals.length ((p.globals.map bw.init).map λx=>aA x),aB aU p.mutexes,.sl p.funcs.length ((p.funcs.map (gQ p)).flatMap fL),aA (((bL (ba p) d7).n:Nat):Int)]) [] 0 J J ?_;show cL prog _ _ ⟨_,_,⟨⟨b5,31,[.sl p.globals.length ((p.globals.map bw.init).map λx=>aA x),aB aU p.mutexes,.sl p.funcs.length ((p.funcs.map (gQ p)).flatMap fL),aA (((bL (ba p) d7).n:Nat):Int)]⟩::⟨D,77,[aD gg,aD gm,aD gf,(y 0),(y 1),(y 2),(y 3),(y 4),(y 5)]⟩::⟨b2,31,[aI,aI,aI,aA 0]⟩::⟨b1,27,eA p⟩::bx,_⟩,_⟩ _;refine go 8 ?_;exact ⟨.inr J,_,⟨bx,rw⟩,oW J (cS [_,_] J J isAgg31 sizeOf31 (cY J J)) (bM J) (bM J) (bM J),aj (.cons _ (.cons _ (.cons _ (.cons _ (.refl _))))) (.cons _ (.cons _ (.cons _ (.refl _)))),by rw [Dq hc,hc];unfold o5;dsimp only;first|(rw [fW,fW];rfl)|(unfold aB;rw [fW,fW];rfl),J⟩
 refine aC true J (fe h1) (go 17 ?_);exact ⟨.inr J,_,⟨bx,rw⟩,oW J (gP (bu.agg (.n (.n (.n (.r .nil))))) (cS [] J J isAgg31 sizeOf31 (cY J J))) (bM J) (bM J) (bM J),aj (.cons _ (.cons _ (.refl _))) (.refl _),by rw [Ef hc Y,hc];rfl,J⟩
def n_(p:aZ)(f:Int):List Int:=if (gJ p).2.2=0 then (if 0 <= f then (match p.funcs[f.toNat]? with|some g=>nX p g|none=>[]) else []) else []
def UZ{p:aZ}{f a b:Int}{e:Nat}(h:gJ p=(a,b,e))(he:e≠0):n_ p f=[]:=by unfold n_;rw [h,if_neg he]
def Ot{p:aZ}{f:Int}(hf:f<0):n_ p f=[]:=by unfold n_;split;rw [if_neg Y];rfl
def VK{p:aZ}{f:Int}(hf:(p.funcs.length:Int) <= f):n_ p f=[]:=by
 unfold n_;split
 ·rw [if_pos Y,wT Y]
 rfl
def PU{p:aZ}{k:Nat}(h:gJ p=(0,0,0))(hk:k<p.funcs.length):n_ p (k:Int)=nX p p.funcs[k]:=by
 unfold n_;rw [h,if_pos rfl,if_pos Y,show ((k:Nat):Int).toNat=k by omega,jz hk]
def VZ(p:aZ)(f:Int)(hs:p.sane)(hw:p.wt <= 9000000)(s:aH):aR prog 20 [cC (.agg (eA p)),bB f] [] s λt s'=>t=.c (.sl (n_ p f).length ((n_ p f).map λx=>aA x)) /\ s'=s:=by
 obtain ⟨bx,rw⟩:=s;have hall:=yO p;have hwq:=hw;unfold aZ.wt at hwq;have hfl:=oe bE.wt (λf=>pV) p.funcs;refine bN 41 func20 ?_;refine go 10 λb1=>?_;refine aW J (nd 0 [] J J V call14 J J (MX p hs hw _) dL dL (λ_=>dL) ?_);rintro _ _ ⟨f0,s0,bm,hc,rfl,rfl⟩;rw [DV] at hc;refine go 12 ?_;by_cases h1:((bm:Nat):Int)=0
 ·refine aC false J (dv h1) (go 2 ?_);by_cases h2:f<0
  ·refine aC true J (ck h2) (go 18 ?_);exact ⟨.inr J,_,⟨bx,rw⟩,bT J (gP (bu.c py) (bM J)),aj (.cons _ (.refl _)) (.refl _),by rw [Ot Y];rfl,J⟩
  refine aC false J (cg h2) (go 6 ?_);by_cases h4:((p.funcs.length:Nat):Int) <= f
  ·refine aC true J (mH h4) (go 11 ?_);exact ⟨.inr J,_,⟨bx,rw⟩,bT J (gP (bu.c py) (bM J)),aj (.cons _ (.refl _)) (.refl _),by rw [VK Y];rfl,J⟩
  refine aC false J (nP h4) (go 9 ?_);obtain ⟨rfl,rfl⟩:=Ht hc Y;obtain rfl:bm=0:=Y;obtain ⟨hv0,hM,hfe,hmn⟩:=Fe hc;refine aW J (qx [] J J V call25 J (IP p Y Y Y _) dL dL (λ_=>dL) ?_);rintro _ _ ⟨D,gg,gm,gf,rfl,rfl⟩;refine ⟨[D,gg,gm,gf],LB,?_⟩;refine go 5 ?_;obtain ⟨kk,rfl⟩:∃kk:Nat,f=(kk:Int):=⟨f.toNat,Y⟩;have hkk:kk<p.funcs.length:=Y;refine go 4 ?_;refine aF J (bS ac ac p.funcs mI (λ_=>J) kk J J J J Y V runUnderlying25 sizeOf67) (go 1 ?_);have hfk:=hfe p.funcs[kk] (getElem_mem hkk);have hfw:bE.wt p.funcs[kk] <= 20000000:=by have:=pT bE.wt p.funcs kk hkk;unfold aZ.wt at hw;omega
  refine aW J (bj [D] J J V call27 J (F_ [] _ D gg gm gf p (d6 bw.name p.globals p.globals.length) (d6 cq.name p.mutexes p.mutexes.length) (d6 bE.name p.funcs p.funcs.length) _ _ _ _ _ _ _ p.funcs[kk] hM aK aK aK (wW p) Y hfw hfk.2 hfk.1) (bV) (bV (h:=by simp [aH.bl])) (λ_=>bV) ?_);rintro _ _ ⟨rfl,x3,x4,x5,x6,x8,rfl⟩;refine go 12 ?_;exact ⟨.inr J,_,⟨bx,rw⟩,bT J (bM J),aj (.cons _ (.cons _ (.refl _))) (.cons _ (.cons _ (.cons _ (.refl _)))),by rw [PU hc hkk],J⟩
 refine aC true J (fe h1) (go 21 ?_);exact ⟨.inr J,_,⟨bx,rw⟩,bT J (gP (bu.c py) (bM J)),aj (.cons _ (.refl _)) (.refl _),by rw [UZ hc Y];rfl,J⟩
end
section
open Go.ChangeShapes Go.WideShapes Go.ChangeAt Go.RowKit
def own:ownKnob prog.godebug=none:=aQ
def laidOut:laidOutB prog=true:=aQ
def Vh : prog.globalNamed "lockorder/token.words" = some 0 := by kernel_rfl
def MD{H:Type}{enc:bA×aM -> H}{P:Program}{w:aV}{base:Nat}{sp:Nat -> Bool}{held:Bool}{fuel:Nat}{t e:bA}{n:Nat}{cs:List aM}{zs:List (List UInt8)}{p:List MemPlace}
  (ht:P.underlying t=some (.array n e)) (he:P.underlying e=some .string) (hce:P.cellsOf e=1) (hct:P.cellsOf t=n)
  (h:DataW.trod enc P w base sp held fuel t cs=some (.agg (zs.map λz=>.lit (.string z)),p)):cs=zs.map λz=>Value.string (bytes z):=by
 cases fuel with
 |zero=>simp [DataW.trod] at h
 |succ fuel=>
  simp only [DataW.trod,ht,hce,hct,nz] at h;split at h
  ·rename_i hl;obtain ⟨xs,hm,hx⟩:=wm.1 h;have hxs:xs.map (·.1)=zs.map λz=>(DataW.lit (.string z):DataW H):=by
    have:=congrArg Prod.fst hx;simpa using this
   have hxl:xs.length=n:=by simpa using Lib.mapM_length hm
   have hzl:zs.length=n:=by
    have:=congrArg List.length hxs;simp at this;omega
   apply zB
   intro i;by_cases hi:i<n
   ·obtain ⟨b,hb,hf⟩:=Lib.mapM_at hm i i (by simp [hi]);obtain ⟨z,hc,rfl,_⟩:=DataW.trod_string he hf;have h1:cs[i]?=some (.string z):=by
     have:=congrArg (·[0]?) hc
     simpa [m0,oi] using this
    have h2:(xs.map (·.1))[i]?=some (DataW.lit (.string z.data.toList):DataW H):=by simp [hb]
    rw [hxs] at h2;simp only [mD,wm,DataW.lit.injEq,Lit.string.injEq] at h2;obtain ⟨z',hz',he'⟩:=h2;simp [h1,hz',bytes,he']
   rw [wT Y,wT di]
  cases h
def GK:List (List UInt8):=words.map λb=>b.data.toList
def Lm{H:Type}{enc:bA×aM -> H}{W W':aV}(hb:Below W.heap.size W W'):
  ∀{ts:List bA} {vs:List aM} {ds:List (DataW H)} {ps:List MemPlace},(∀t∈ts,prog.readableRec t=true /\ t<prog.types.size) -> DataW.TrodAll enc prog W 0 (λ_=>true) true ts vs ds ps -> (∀x∈ps,x.block<W.heap.size) ->
   DataW.TrodAll enc prog W' 0 (λb=>decide (b<W.heap.size)) true ts vs ds ps
 |[],_,_,_,_,h,_=>by
  obtain ⟨rfl,rfl,rfl⟩:=trodAll_nil h;exact trodAll_mk0
 |t::ts,_,_,_,hr,h,hlt=>by
  obtain ⟨v,vs1,d,ds1,a,b,rfl,rfl,rfl,h1,h2⟩:=trodAll_cons h;have ht:=hr t (jm ..);exact ⟨a,b,Below.trod laidOut ht.1 ht.2 h1 hb (λx hx=>hlt x (fj _ hx)),
   Lm hb (λu hu=>hr u (dT _ hu)) h2 (λx hx=>hlt x (f7 _ hx)),rfl⟩
def TD{H:Type}{enc:bA×aM -> H}{F:Func}{s:ChangeSpec}{W W':aV}{args:Array aM}{ds gs:List (DataW H)}{before:List MemPlace}
  (hW:DataW.Whole enc prog F.params.toList s.vars false W args.toList ds gs before) (hv:s.vars=[]) (hfn:s.fn H ds={results:=[.lit (.bool true)],args:=ds})
  (hread:∀t∈F.params.toList,prog.readableRec t=true /\ t<prog.types.size) (hres:F.resultTypes=#[4]) (hb:Below W.heap.size W W'):
  ∃v,Ending.returned (.bool true)=.returned v /\ s.post enc prog F false true false false W args v W':=by
 refine ⟨_,J,?_⟩;have hlt:∀p∈before,p.block<W.heap.size:=λp hp=>by simpa using hW.lt p hp
 have hW':=hW;obtain ⟨p,q,hA,hV,rfl,hfz,hnd⟩:=hW;rw [hv] at hV;obtain ⟨rfl,rfl⟩:=trodVars_none hV;simp only [eC] at hlt hW';refine ⟨ds,[],p,[],p,[],hW',?_,?_,?_,?_,λh=>gM⟩
 ·rw [hres,eC,hfn];exact trodAll_cons_mk (shut_bool underlying4 true) trodAll_mk0
 ·rw [eC,hfn];exact Lm hb hread hA hlt
 ·rw [eC,hfn,hv];rfl
 exact hb.frame _
def O7{W:aV}{a:Addr}{u:aM}(h:W.cell? (a.add 0)=some u):∃b off,a=⟨b,off,none⟩:=by
 obtain ⟨b,off,sp⟩:=a;cases sp with
 |none=>exact ⟨b,off,rfl⟩
 |some k=>
  exfalso;simp only [Addr.add,if_true] at h;unfold World.cell? at h;split at h
  ·simp at h
  cases h
end
section
open Go.ChangeShapes Go.WideShapes Go.ChangeAt Go.RowKit
def Q3{H:Type}{enc:bA×aM -> H}{W:aV}{base:Nat}{v:aM}{d:DataW H}{p:List MemPlace}(hval:Value.okWide prog W .any base 22 v)(hd:DataW.Trod enc prog W 0 (λ_=>true) true 22 v d p):
  ∃(s:List Int) (a:Option Addr) (cap:Nat),v=.slice a s.length cap /\ s.length <= cap /\ cap <= maxLen /\ dr W v s.length (s.map (.int .i64)):=by
 obtain ⟨a,len,cap,rfl⟩:=okWide_slice underlying22 hval;obtain ⟨fuel,hf⟩:=hd;rcases open_ints underlying22 underlying3 aQ hf with ⟨hcs,hx⟩|⟨a',len',cap',zs,hcs,_,hl,hm,hz,hx,hcell,hwz⟩
 ·simp [Value.cells] at hcs;obtain ⟨rfl,rfl,rfl⟩:=hcs;exact ⟨[],none,0,J,bW _,c_,dr.nil _⟩
 simp [Value.cells] at hcs;obtain ⟨rfl,rfl,rfl⟩:=hcs;simp only [if_true] at hz;have hlen:(zs.take len).length=len:=zH;refine ⟨zs.take len,some a',cap,by rw [hlen],by rw [hlen];exact hl,hm,some a',cap,by rw [hlen],by rw [hlen];exact hl,?_⟩;by_cases h0:len=0
 ·left;subst h0;rfl
 right;obtain ⟨b,off,rfl⟩:=O7 (hcell 0 Y);refine ⟨b,off,J,λj u hu=>?_⟩;have hj:j<len:=by
  rcases iQ j len with h|h
  ·exact h
  rw [wT (by rw [fW,hlen];exact h)] at hu;cases hu
 have hc:=hcell j Y;rw [add_plain] at hc;rw [hc];simp only [mD,m0,if_pos hj,jz (show j<zs.length by omega),nt] at hu;rw [←hu];simp [List.getD,show j<zs.length by omega]
end
section
open Go.ChangeShapes Go.WideShapes Go.ChangeAt Go.RowKit
def Pv : prog.globalNamed "lockorder/expr.signs" = some 3 := by kernel_rfl
def Pu : prog.globalNamed "internal/strconv.uint64pow10" = some 1 := by kernel_rfl
def Ie:List (List UInt8):=kQ.map λb=>b.data.toList
abbrev CR : List (String × DataW Unit) := [("math/bits.deBruijn32tab", Rows.laid_math_bits_deBruijn32tab), ("math/bits.deBruijn64tab", Rows.laid_math_bits_deBruijn64tab), ("internal/strconv.uint64pow10", Rows.laid_internal_strconv_uint64pow10), ("lockorder/token.words", Rows.laid_lockorder_token_words), ("lockorder/expr.signs", Rows.laid_lockorder_expr_signs)]
def Uk{W:aV}(h:laidMetH prog CR W)(hs:W.ShapedOpen prog):nH W:=by
 obtain ⟨ps,hL,_⟩:=(show laidMet prog CR W from h);obtain ⟨_,_,_,_,_,_,_,_,_,_,hL,_⟩:=hL;obtain ⟨_,_,_,_,_,_,_,_,_,_,hL,_⟩:=hL;obtain ⟨g3,t3,cs3,fuel3,p3,q3,hg3,ht3,hvar3,hd3,hL,_⟩:=hL;obtain ⟨g',t',cs,fuel,p,q,hg',ht',hvar,hd,hL,_⟩:=hL;obtain ⟨g2,cx,cs2,fuel2,p2,q2,hg2,ht2,hvar2,hd2,_,_⟩:=hL;refine ⟨λj hj=>?_,?_,⟨λj hj=>?_⟩,?_⟩
 ·obtain rfl:=kz (Vh.symm.trans hg');obtain rfl:t'=257:=kz (ht'.symm.trans (show (prog.globals[0]?).map (·.type)=some 257 by kernel_rfl))
  have hc:=MD (zs:=GK) (n:=11) (e:=9) underlying257 underlying9 aQ aQ hd;have:=World.var?_cell hg' hvar j;rw [←ly,hc] at this;rw [this];simp only [GK,lE];rw [mD,jz hj];simp [bytes]
 ·exact cell_of_shapedOpen_int (zero:=#[.int .i64 0]) (t:=3) hs (of_decide_eq_true aQ) aQ J aQ aQ underlying3
 ·obtain rfl:=kz (Pv.symm.trans hg2);obtain rfl:cx=266:=kz (ht2.symm.trans (show (prog.globals[3]?).map (·.type)=some 266 by kernel_rfl))
  have hc:=MD (zs:=Ie) (n:=18) (e:=9) underlying266 underlying9 aQ aQ hd2;have:=World.var?_cell hg2 hvar2 j;rw [←ly,hc] at this;rw [this];simp only [Ie,lE];rw [mD,jz hj];simp [bytes]
 obtain rfl:=kz (Pu.symm.trans hg3);obtain rfl:t3=261:=kz (ht3.symm.trans (show (prog.globals[1]?).map (·.type)=some 261 by kernel_rfl))
 unfold Lib.TabIs;rw [hvar3,←Lib.cells_of_tab (zs:=Lib.pow10Tab) (k:=.u64) underlying261 underlying215 aQ aQ hd3]
def VS(os:Os)(args:Array aM):laidMet prog CR ((World.doorLaid prog 60 os).forCall (λ_ _=>0) ⟨#[],args,[]⟩).memory:=
 laidMet_of_run' 8 aQ aQ
def IM(w:aV):fl w (bi [] w):=
 ⟨λa u h=>by rw [np _ _ _ aK];exact h,λg cs t fz h _=>by rw [xg _ _ _ aK];exact h⟩
def Qk{w:aV}{t:AT}{v:aM}(he:nH w)(h:cN (bi [] w) t v):cN (bi [] w) (cC t) v:=JW h (he.up (IM w))
def OL{P:Program}{U:List Nat}{o:Oper}{n d:Nat}{T:List Nat}{s:aH}{ts:List (Nat×AT)}{K:AS -> Prop}{F:FuncId}{t0:AT}(i0:Nat)(ho:o.op=.call {callee:=.value (.func F),args:=#[],argTypes:=#[]})(hd:o.dst=some d)(hn:d<n)
  (hcf:∀args w,(callFunc F args).run P w=.ok (.enter F args) w) (hl:look ts i0=some (cC t0)) (hc:∀w,nH w -> Calls P F #[] w λe w'=>e=.returned (.bool true) /\ Below w.heap.size w w')
  (h:K ⟨n,T,s,(d,ap true)::ts⟩):dN P U o ⟨n,T,s,ts⟩ K:=by
 intro a w hs KK QQ' hK;obtain ⟨v0,-,hv0⟩:=hs.tm i0 _ hl;unfold Oper.wp;rw [show (execOp a.eval o).run P w=.ok (.enter F #[]) w from by
  simp only [execOp,ho,resolve,Deferred.ofValue,Act.eval,Sem.run_bind,Sem.run_pure,Result.andThen_ok,invoke];rw [hcf];simp,Oper.upon_enter]
 refine (hc w (Dj hv0)).mono ?_;rintro en w' ⟨rfl,hb⟩;dsimp only;rw [hd];obtain ⟨hk,hm⟩:=y2 hs.mem hb;have s1:=hs.step (st:=⟨n,T,s,ts⟩) T (hk.mono aK) hm (λb hb=>.inl hb);exact hK _ _ _ h (s1.put hn (cN.c _ _ (.val _ J))) ⟨hk.mono aK,hk.mono aK,λb hb=>.inl hb,λb hb=>.inl hb⟩ (hk.mono aK)
def OQ{P:Program}{F:FuncId}{fn:Func}{c:Code}(hf:P.funcs[F]?=some fn)(hb:fn.body=some c)(i:Nat)(hi:i<fn.ntmps){w:aV}(he:nH w)
  (h:bo P c ⟨fn.ntmps,[],⟨[],[]⟩,[(i,cC (.raw undef))]⟩ λe st=>(e=.normal∨e=.ret) /\ ∃r s',mN P fn st r /\ jU st.s s' /\ r=ap true /\ s'=⟨[],[]⟩):Calls P F #[] w λe w'=>e=.returned (.bool true) /\ Below w.heap.size w w':=by
 have hm:Mem ⟨[],[]⟩ w:=⟨List.nodup_nil,(λb hb=>absurd hb uT),y7,y7⟩;refine calls_of_wp hf hb ?_;refine h _ w ⟨J,?_,λj t ht=>?_,hm⟩ _ ?_
 ·simp
 ·simp only [look] at ht;split at ht
  ·rename_i hj;subst hj;cases ht;exact ⟨undef,by simp [hi],JW (.raw _) (he.up (IM w))⟩
  cases ht
 intro e a' w' st' q s' k;obtain ⟨he,r,s2,hres,hsub,rfl,rfl⟩:=q;obtain ⟨v,h1,h2⟩:=hres a' w' s';have hv:v=.bool true:=by cases h1 with|c _ _ h4=>cases h4;rfl
 subst hv;have hk:=k.keepT;rcases he with rfl|rfl;rotate_left;all_goals
  exact ⟨s'.df,_,h2,J,⟨hk.os,hk.tape,hk.output,hk.size,λj hj=>hk.block j hj aK⟩⟩
end
section
open Go.RowKit
structure gI (l:List Tok):Prop where
 last:oN l
 reg:∀t,t∈l -> z8 t
 len:l.length <= 1000000
def kJ(l:List Tok)(k:Nat)(s:ByteArray):Bool:=(decide ((dM l k).kind=4)||decide ((dM l k).kind=3)) && decide ((dM l k).text=s)
def qp{e:Nat}(h:e≠0):eU .eql (e:Int) 0=some false:=pM
def pm{m n:Nat}:eU .eql (m:Int) (n:Int)=some (decide (m=n)):=by
 by_cases h:m=n
 ·subst h;simp [eU]
 have h2:¬(m:Int)=(n:Int):=Y;simp [eU,h,h2]
def IX{l:List Tok}(h:gI l){k:Nat}(hk:k<l.length){s:List UInt8}(hr:ee (bytes s)=false):kJ l k (bytes s)=ef l k s:=by
 unfold kJ ef;rw [lS hk];have h1:=h.reg _ (getElem_mem hk);by_cases ht:l[k].text=bytes s
 ·by_cases h3:l[k].kind=3
  ·have:=h1.1 h3;rw [ht,hr] at this;cases this
  simp [ht,h3]
 simp [ht]
def Fi{l:List Tok}(h:gI l){k:Nat}(hk:k<l.length){s:List UInt8}(hr:ee (bytes s)=true):kJ l k (bytes s)=fu l k s:=by
 unfold kJ fu;rw [lS hk];have h1:=h.reg _ (getElem_mem hk);by_cases ht:l[k].text=bytes s
 ·by_cases h4:l[k].kind=4
  ·have:=h1.2.1 h4;rw [ht,hr] at this;cases this
  simp [ht,h4]
 simp [ht]
def QT{l:List Tok}(h:gI l){k:Nat}(hk:k<l.length){s:aG}(ha:kJ l k s=true):k+1<l.length:=by
 refine h.last.more hk λh5=>?_;unfold kJ at ha;rw [h5] at ha;simp at ha
def uE(e b k x b1 aa:Nat):Prop:=(e=0 -> k=b1 /\ x=aa) /\ (e≠0 -> b=b1 /\ e=aa)
def uE.run{α:Type}{e b k x b1 aa:Nat}{r:cA α}(h:uE e b k x b1 aa)(hx:x≠0)(hr:e=0 -> r=.err k x)(y:α)(k1:Nat):bh e b r y k1 b1 aa:=by
 by_cases he:e=0
 ·obtain ⟨rfl,rfl⟩:=h.1 he;subst he;exact .err _ _ _ _ _ (hr J) hx
 obtain ⟨rfl,rfl⟩:=h.2 he;exact .skip he _ _ _
def uE.small{e b k x b1 aa:Nat}(h:uE e b k x b1 aa)(he:e<16)(hx:x<16):aa<16:=by
 by_cases h0:e=0
 ·rw [←(h.1 h0).2];exact hx
 rw [←(h.2 h0).2];exact he
abbrev bY(A B:List aT)(rw:List aS)(P:Nat)(l:List Tok)(k b e ns dp:Nat):aH:=⟨A++⟨P,144,[aB dO l,aA (k:Int),aA (b:Int),aA (e:Int),aA (ns:Int),aA (dp:Int)]⟩::B,rw⟩
def gy{α:Type}(A B:List aT)(rw:List aS)(P:Nat)(l:List Tok)(ns dp:Nat)(enc:α -> AT)(e b:Nat)(r:cA α)(t:AT)(s:aH):Prop:=
 ∃x k1 b1 aa,t=enc x /\ bh e b r x k1 b1 aa /\ k1<l.length /\ aa<16 /\ s=bY A B rw P l k1 b1 aa ns dp
def OA(A B:List aT)(rw:List aS)(P:Nat)(l:List Tok)(k b ns dp x:Nat):aR prog 61 [aE P,bB (x:Int)] [P] (bY A B rw P l k b 0 ns dp) λt s=>t=.tup [] /\ s=bY A B rw P l k k x ns dp:=by
 refine bN 20 func61 ?_;refine go 6 ?_;refine aC true J jp (go 18 ?_);exact ⟨.inl J,_,(bY A B rw P l (k) (k) (x) (ns) (dp)),e_ J,aj (.refl _) (.refl _),J,J⟩
def UA(A B:List aT)(rw:List aS)(P:Nat)(l:List Tok)(k b ns dp x e:Nat)(he0:e≠0):aR prog 61 [aE P,bB (x:Int)] [P] (bY A B rw P l k b e ns dp) λt s=>t=.tup [] /\ s=bY A B rw P l k b e ns dp:=by
 refine bN 20 func61 ?_;refine go 6 ?_;refine aC false J (qp he0) (go 4 ?_);exact ⟨.inl J,_,(bY A B rw P l (k) (b) (e) (ns) (dp)),e_ J,aj (.refl _) (.refl _),J,J⟩
def VV(A B:List aT)(rw:List aS)(P:Nat)(l:List Tok)(k b ns dp e:Nat)(sg:aG)(hk:k<l.length)(he0:e≠0):aR prog 60 [aE P,cB sg] [P] (bY A B rw P l k b e ns dp) λt s=>t=ap false /\ s=bY A B rw P l k b e ns dp:=by
 refine bN 37 func60 ?_;refine go 6 ?_;refine b_ [P] (aY [0,1,2,3,4,5,6,7] 4 (go 9 ?_));refine ab 8 J (bS dO dO l kB (λ_=>J) (k) J J J J hk V runUnderlying139 sizeOf154) (cU [(9,true),(10,false),(11,false)] 0 (go 4 λb1=>?_));refine bG (go 7 ?_);refine aC false J (qp he0) (go 20 ?_);exact aw (s':=(bY A B rw P l (k) (b) (e) (ns) (dp))) J cM ⟨J,J⟩
def Ny(A B:List aT)(rw:List aS)(P:Nat)(l:List Tok)(k b ns dp:Nat)(sg:aG)(hk:k<l.length)(h4:l[k].kind=4)(ht:l[k].text=sg):aR prog 60 [aE P,cB sg] [P] (bY A B rw P l k b 0 ns dp) λt s=>t=ap true /\ s=bY A B rw P l k b 0 ns dp:=by
 refine bN 37 func60 ?_;refine go 6 ?_;refine b_ [P] (aY [0,1,2,3,4,5,6,7] 4 (go 9 ?_));refine ab 8 J (bS dO dO l kB (λ_=>J) (k) J J J J hk V runUnderlying139 sizeOf154) (cU [(9,true),(10,false),(11,false)] 0 (go 4 λb1=>?_));refine bG (go 7 ?_);refine aC true J jp (go 3 ?_);refine aC true J (by rw [h4];rfl) (go 10 ?_);refine aF J (eo true J J J (by rw [ht];simp [kb])) (go 5 ?_);exact aw (s':=(bY A B rw P l (k) (b) (0) (ns) (dp))) J cM ⟨J,J⟩
def Py(A B:List aT)(rw:List aS)(P:Nat)(l:List Tok)(k b ns dp:Nat)(sg:aG)(hk:k<l.length)(h4:l[k].kind=4)(ht:¬l[k].text=sg):aR prog 60 [aE P,cB sg] [P] (bY A B rw P l k b 0 ns dp) λt s=>t=ap false /\ s=bY A B rw P l k b 0 ns dp:=by
 refine bN 37 func60 ?_;refine go 6 ?_;refine b_ [P] (aY [0,1,2,3,4,5,6,7] 4 (go 9 ?_));refine ab 8 J (bS dO dO l kB (λ_=>J) (k) J J J J hk V runUnderlying139 sizeOf154) (cU [(9,true),(10,false),(11,false)] 0 (go 4 λb1=>?_));refine bG (go 7 ?_);refine aC true J jp (go 3 ?_);refine aC true J (by rw [h4];rfl) (go 10 ?_);refine aF J (eo false J J J (by simp [kb,ht])) (go 5 ?_);exact aw (s':=(bY A B rw P l (k) (b) (0) (ns) (dp))) J cM ⟨J,J⟩
def Tr(A B:List aT)(rw:List aS)(P:Nat)(l:List Tok)(k b ns dp:Nat)(sg:aG)(hk:k<l.length)(h4:¬l[k].kind=4)(h3:l[k].kind=3)(ht:l[k].text=sg):aR prog 60 [aE P,cB sg] [P] (bY A B rw P l k b 0 ns dp) λt s=>t=ap true /\ s=bY A B rw P l k b 0 ns dp:=by
 refine bN 37 func60 ?_;refine go 6 ?_;refine b_ [P] (aY [0,1,2,3,4,5,6,7] 4 (go 9 ?_));refine ab 8 J (bS dO dO l kB (λ_=>J) (k) J J J J hk V runUnderlying139 sizeOf154) (cU [(9,true),(10,false),(11,false)] 0 (go 4 λb1=>?_));refine bG (go 7 ?_);refine aC true J jp (go 3 ?_);refine aC false J EW (go 3 ?_);refine aC true J (by rw [h3];rfl) (go 6 ?_);refine aF J (eo true J J J (by rw [ht];simp [kb])) (go 5 ?_);exact aw (s':=(bY A B rw P l (k) (b) (0) (ns) (dp))) J cM ⟨J,J⟩
def SL(A B:List aT)(rw:List aS)(P:Nat)(l:List Tok)(k b ns dp:Nat)(sg:aG)(hk:k<l.length)(h4:¬l[k].kind=4)(h3:l[k].kind=3)(ht:¬l[k].text=sg):aR prog 60 [aE P,cB sg] [P] (bY A B rw P l k b 0 ns dp) λt s=>t=ap false /\ s=bY A B rw P l k b 0 ns dp:=by
 refine bN 37 func60 ?_;refine go 6 ?_;refine b_ [P] (aY [0,1,2,3,4,5,6,7] 4 (go 9 ?_));refine ab 8 J (bS dO dO l kB (λ_=>J) (k) J J J J hk V runUnderlying139 sizeOf154) (cU [(9,true),(10,false),(11,false)] 0 (go 4 λb1=>?_));refine bG (go 7 ?_);refine aC true J jp (go 3 ?_);refine aC false J EW (go 3 ?_);refine aC true J (by rw [h3];rfl) (go 6 ?_);refine aF J (eo false J J J (by simp [kb,ht])) (go 5 ?_);exact aw (s':=(bY A B rw P l (k) (b) (0) (ns) (dp))) J cM ⟨J,J⟩
def RP(A B:List aT)(rw:List aS)(P:Nat)(l:List Tok)(k b ns dp:Nat)(sg:aG)(hk:k<l.length)(h4:¬l[k].kind=4)(h3:¬l[k].kind=3):aR prog 60 [aE P,cB sg] [P] (bY A B rw P l k b 0 ns dp) λt s=>t=ap false /\ s=bY A B rw P l k b 0 ns dp:=by
 refine bN 37 func60 ?_;refine go 6 ?_;refine b_ [P] (aY [0,1,2,3,4,5,6,7] 4 (go 9 ?_));refine ab 8 J (bS dO dO l kB (λ_=>J) (k) J J J J hk V runUnderlying139 sizeOf154) (cU [(9,true),(10,false),(11,false)] 0 (go 4 λb1=>?_));refine bG (go 7 ?_);refine aC true J jp (go 3 ?_);refine aC false J EW (go 3 ?_);refine aC false J (by rw [show eU .eql ((l[k].kind:Nat):Int) 3=some (decide (l[k].kind=3)) from pm (n:=3),decide_eq_false h3]) (go 12 ?_);exact aw (s':=(bY A B rw P l (k) (b) (0) (ns) (dp))) J cM ⟨J,J⟩
def BU(A B:List aT)(rw:List aS)(P:Nat)(l:List Tok)(k b e ns dp:Nat)(sg:aG)(hk:k<l.length):aR prog 60 [aE P,cB sg] [P] (bY A B rw P l k b e ns dp) λt s=>t=ap (decide (e=0) && kJ l k sg) /\ s=bY A B rw P l k b e ns dp:=by
 unfold kJ;rw [lS hk];by_cases he:e=0
 ·subst he;by_cases h4:l[k].kind=4
  ·by_cases ht:l[k].text=sg
   ·simpa [h4,ht] using Ny A B rw P l k b ns dp sg hk h4 ht
   simpa [h4,ht] using Py A B rw P l k b ns dp sg hk h4 ht
  by_cases h3:l[k].kind=3
  ·by_cases ht:l[k].text=sg
   ·simpa [h3,ht] using Tr A B rw P l k b ns dp sg hk h4 h3 ht
   simpa [h3,ht] using SL A B rw P l k b ns dp sg hk h4 h3 ht
  simpa [h4,h3] using RP A B rw P l k b ns dp sg hk h4 h3
 simpa [he] using VV A B rw P l k b ns dp e sg hk he
def Bf(A B:List aT)(rw:List aS)(P:Nat)(l:List Tok)(k b e ns dp:Nat)(sg:aG)(hok:gI l)(hk:k<l.length):aR prog 62 [aE P,cB sg] [P] (bY A B rw P l k b e ns dp) λt s=>(e=0 /\ kJ l k sg=true /\ k+1<l.length /\ t=ap true /\ s=bY A B rw P l (k+1) b 0 ns dp)∨(¬(e=0 /\ kJ l k sg=true) /\ t=ap false /\ s=bY A B rw P l k b e ns dp):=by
 have hlen:=hok.len;refine bN 16 func62 ?_;refine go 10 ?_;refine bC J call60 J (BU (A) _ _ _ l k b e ns dp _ hk) ?_;rintro t1 s1 ⟨rfl,rfl⟩;refine aF J (iY  J J) (go 2 ?_);refine iB J (λhc2=>?_) (λhc2=>?_)
 ·refine go 7 ?_;exact aw (s':=(bY A B rw P l (k) (b) (e) (ns) (dp))) J dm (.inr ⟨λh=>by simp [h.1,h.2] at hc2,J,J⟩)
 obtain ⟨rfl,ha⟩:e=0 /\ kJ l k sg=true:=by simpa using hc2
 have hm:=QT hok hk ha;refine go 8 ?_;refine bJ J (go 11 ?_);exact aw (s':=(bY A B rw P l (k+1) (b) (0) (ns) (dp))) J dm (.inl ⟨J,ha,hm,J,J⟩)
def mV(A B:List aT)(rw:List aS)(P:Nat)(l:List Tok)(k b e ns dp:Nat)(sg:List UInt8)(hr:ee (bytes sg)=false)(hok:gI l)(hk:k<l.length):aR prog 62 [aE P,cB (bytes sg)] [P] (bY A B rw P l k b e ns dp) λt s=>(e=0 /\ ef l k sg=true /\ k+1<l.length /\ t=ap true /\ s=bY A B rw P l (k+1) b 0 ns dp)∨((e=0 -> ef l k sg=false) /\ t=ap false /\ s=bY A B rw P l k b e ns dp):=by
 refine (Bf A B rw P l k b e ns dp (bytes sg) hok hk).mono λt s h=>?_;rw [IX hok hk hr] at h;refine h.imp id λ⟨h1,h2⟩=>⟨λh0=>?_,h2⟩;cases hs:ef l k sg with
 |false=>rfl
 |true=>exact absurd ⟨h0,hs⟩ h1
def eN(A B:List aT)(rw:List aS)(P:Nat)(l:List Tok)(k b e ns dp:Nat)(sg:List UInt8)(hr:ee (bytes sg)=true)(hok:gI l)(hk:k<l.length):aR prog 62 [aE P,cB (bytes sg)] [P] (bY A B rw P l k b e ns dp) λt s=>(e=0 /\ fu l k sg=true /\ k+1<l.length /\ t=ap true /\ s=bY A B rw P l (k+1) b 0 ns dp)∨((e=0 -> fu l k sg=false) /\ t=ap false /\ s=bY A B rw P l k b e ns dp):=by
 refine (Bf A B rw P l k b e ns dp (bytes sg) hok hk).mono λt s h=>?_;rw [Fi hok hk hr] at h;refine h.imp id λ⟨h1,h2⟩=>⟨λh0=>?_,h2⟩;cases hs:fu l k sg with
 |false=>rfl
 |true=>exact absurd ⟨h0,hs⟩ h1
def jG(A B:List aT)(rw:List aS)(P:Nat)(l:List Tok)(k b e ns dp:Nat)(x:Nat):aR prog 61 [aE P,bB (x:Int)] [P] (bY A B rw P l k b e ns dp) λt s=>∃b1 aa,uE e b k x b1 aa /\ t=.tup [] /\ s=bY A B rw P l k b1 aa ns dp:=by
 by_cases he:e=0
 ·subst he;exact (OA A B rw P l k b ns dp x).mono λt s h=>⟨k,x,⟨λ_=>⟨J,J⟩,λh=>absurd J h⟩,h⟩
 exact (UA A B rw P l k b ns dp x e he).mono λt s h=>⟨b,e,⟨λh=>absurd h he,λ_=>⟨J,J⟩⟩,h⟩
def gZ(A B:List aT)(rw:List aS)(P:Nat)(l:List Tok)(k b e ns dp:Nat)(sg:List UInt8)(hr:ee (bytes sg)=false)(hok:gI l)(hk:k<l.length)(he:e<16):aR prog 86 [aE P,cB (bytes sg)] [P] (bY A B rw P l k b e ns dp) λt s=>gy A B rw P l ns dp (λ_=>.tup []) e b (fY l sg k) t s:=by
 refine bN 10 func86 ?_;refine go 4 ?_;refine bC J call62 J (mV (A) _ _ _ l k b e ns dp sg hr hok hk) ?_;rintro t1 s1 (⟨rfl,ha1,hm1,rfl,rfl⟩|⟨ha1,rfl,rfl⟩)
 ·refine go 5 ?_;exact ⟨.inl J,_,(bY A B rw P l (k+1) (b) (0) (ns) (dp)),e_ J,aj (.refl _) (.refl _),⟨(),k+1,b,0,J,.ok _ _ _ (by unfold fY;rw [if_pos ha1]),hm1,V,J⟩⟩
 refine go 6 ?_;refine bC J call61 J (jG (A) _ _ _ l k b e ns dp 4) ?_;rintro t4 s4 ⟨b4x,e4x,hf4,rfl,rfl⟩;refine go 1 ?_;exact ⟨.inl J,_,(bY A B rw P l (k) (b4x) (e4x) (ns) (dp)),e_ J,aj (.refl _) (.refl _),⟨(),k,b4x,e4x,J,hf4.run V (λh=>by unfold fY;rw [if_neg (by rw [ha1 h];decide)]) _ _,hk,(hf4.small he V),J⟩⟩
def QX(A B:List aT)(rw:List aS)(P:Nat)(l:List Tok)(k b ns dp kk e:Nat)(hk:k<l.length)(he0:e≠0):aR prog 59 [aE P,bB (kk:Int)] [P] (bY A B rw P l k b e ns dp) λt s=>t=ap false /\ s=bY A B rw P l k b e ns dp:=by
 refine bN 25 func59 ?_;refine go 6 ?_;refine b_ [P] (aY [0,1,2,3] 17 (go 5 ?_));refine ab 4 J (ej false J J J (qp he0)) (aY [5,6,7,8,9,10,11,12,13,14,15,16,17,18,19,20] 0 (go 17 ?_));refine bG (go 2 ?_);exact aw (s':=(bY A B rw P l (k) (b) (e) (ns) (dp))) J dm ⟨J,J⟩
def UG(A B:List aT)(rw:List aS)(P:Nat)(l:List Tok)(k b ns dp kk:Nat)(hk:k<l.length):aR prog 59 [aE P,bB (kk:Int)] [P] (bY A B rw P l k b 0 ns dp) λt s=>t=ap (decide (l[k].kind=kk)) /\ s=bY A B rw P l k b 0 ns dp:=by
 refine bN 25 func59 ?_;refine go 6 ?_;refine b_ [P] (aY [0,1,2,3] 17 (go 5 ?_));refine ab 4 J (ej true J J J jp) (aY [5,6,7,8,9,10,11,12,13] 7 (go 10 ?_));refine ab 14 J (bS dO dO l kB (λ_=>J) (k) J J J J hk V runUnderlying139 sizeOf154) (aY [15,16,17] 3 (go 4 ?_));refine ab 18 J (ej (decide (l[k].kind=kk)) J J J pm) (aY [19,20] 0 (go 3 ?_));refine bG (go 2 ?_);exact aw (s':=(bY A B rw P l (k) (b) (0) (ns) (dp))) J dm ⟨J,J⟩
def Lf(A B:List aT)(rw:List aS)(P:Nat)(l:List Tok)(k b e ns dp:Nat)(kk:Nat)(hk:k<l.length):aR prog 59 [aE P,bB (kk:Int)] [P] (bY A B rw P l k b e ns dp) λt s=>t=ap (decide (e=0) && decide ((dM l k).kind=kk)) /\ s=bY A B rw P l k b e ns dp:=by
 rw [lS hk];by_cases he:e=0
 ·subst he;simpa using UG A B rw P l k b ns dp kk hk
 simpa [he] using QX A B rw P l k b ns dp kk e hk he
def lJ(A B:List aT)(rw:List aS)(P:Nat)(l:List Tok)(k b e ns dp:Nat)(hok:gI l)(hk:k<l.length)(he:e<16):aR prog 65 [aE P] [P] (bY A B rw P l k b e ns dp) λt s=>gy A B rw P l ns dp (λx=>cB x) e b (kX l k) t s:=by
 have hlen:=hok.len;refine bN 27 func65 ?_;refine go 9 ?_;refine bC J call59 J (Lf (A) _ _ _ l k b e ns dp 1 hk) ?_;rintro t1 s1 ⟨rfl,rfl⟩;refine aF J (iY  J J) (go 2 ?_);refine iB J (λhc2=>?_) (λhc2=>?_)
 ·refine go 3 ?_;refine bC J call61 J (jG (A) _ _ _ l k b e ns dp 4) ?_;rintro t3 s3 ⟨b3x,e3x,hf3,rfl,rfl⟩;refine go 9 ?_;exact aw (s':=(bY A B rw P l (k) (b3x) (e3x) (ns) (dp))) J dm ⟨ax,k,b3x,e3x,J,hf3.run V (λh=>by unfold kX;rw [if_neg (λh2=>by simp [h,h2] at hc2)]) _ _,hk,(hf3.small he V),J⟩
 obtain ⟨rfl,ha⟩:e=0 /\ (dM l k).kind=1:=by simpa using hc2
 have hm:=hok.last.more hk Y;refine go 8 ?_;refine bJ J (go 6 ?_);refine b_ [P] (aY [0,1,2,3,4,5,6,7] 5 (go 9 ?_));refine ab 8 J (mC) ?_;refine ab 9 J (bS dO dO l kB (λ_=>J) k J J J Y hk V runUnderlying139 sizeOf154) (aY [10,11,12] 0 (go 4 ?_));refine bG (go 2 ?_);exact aw (s':=(bY A B rw P l (k+1) (b) (0) (ns) (dp))) J dm ⟨_,k+1,b,0,J,.ok _ _ _ (by unfold kX;rw [if_pos ha,lS hk]),hm,V,J⟩
def mO(A B:List aT)(rw:List aS)(P:Nat)(l:List Tok)(k b e ns dp:Nat)(sg:List UInt8)(hr:ee (bytes sg)=false)(hok:gI l)(hk:k<l.length):aR prog 60 [aE P,cB (bytes sg)] [P] (bY A B rw P l k b e ns dp) λt s=>(e=0 /\ ef l k sg=true /\ t=ap true /\ s=bY A B rw P l k b e ns dp)∨((e=0 -> ef l k sg=false) /\ t=ap false /\ s=bY A B rw P l k b e ns dp):=by
 refine (BU A B rw P l k b e ns dp (bytes sg) hk).mono λt s h=>?_;rw [IX hok hk hr] at h;by_cases he:e=0
 ·cases hs:ef l k sg with
  |true=>exact .inl ⟨he,rfl,xS,h.2⟩
  |false=>exact .inr ⟨λ_=>rfl,xS,h.2⟩
 ·exact .inr ⟨λh0=>absurd h0 he,ES,h.2⟩
def ov(A B:List aT)(rw:List aS)(P:Nat)(l:List Tok)(k b e ns dp:Nat)(sg:List UInt8)(hr:ee (bytes sg)=true)(hok:gI l)(hk:k<l.length):aR prog 60 [aE P,cB (bytes sg)] [P] (bY A B rw P l k b e ns dp) λt s=>(e=0 /\ fu l k sg=true /\ t=ap true /\ s=bY A B rw P l k b e ns dp)∨((e=0 -> fu l k sg=false) /\ t=ap false /\ s=bY A B rw P l k b e ns dp):=by
 refine (BU A B rw P l k b e ns dp (bytes sg) hk).mono λt s h=>?_;rw [Fi hok hk hr] at h;by_cases he:e=0
 ·cases hs:fu l k sg with
  |true=>exact .inl ⟨he,rfl,xS,h.2⟩
  |false=>exact .inr ⟨λ_=>rfl,xS,h.2⟩
 ·exact .inr ⟨λh0=>absurd h0 he,ES,h.2⟩
def pD(A B:List aT)(rw:List aS)(P:Nat)(l:List Tok)(k b e ns dp:Nat)(kk:Nat)(hk:k<l.length):aR prog 59 [aE P,bB (kk:Int)] [P] (bY A B rw P l k b e ns dp) λt s=>(e=0 /\ (dM l k).kind=kk /\ t=ap true /\ s=bY A B rw P l k b e ns dp)∨((e=0 -> (dM l k).kind≠kk) /\ t=ap false /\ s=bY A B rw P l k b e ns dp):=by
 refine (Lf A B rw P l k b e ns dp kk hk).mono λt s h=>?_;by_cases he:e=0
 ·by_cases hq:(dM l k).kind=kk
  ·exact .inl ⟨he,hq,by rw [h.1,decide_eq_true hq,he];rfl,h.2⟩
  exact .inr ⟨λ_=>hq,by rw [h.1,decide_eq_false hq,he];rfl,h.2⟩
 exact .inr ⟨λh0=>absurd h0 he,ES,h.2⟩
def FU(op:Int)(r:cA aP):y9 op r=r.bind λx k=>.ok (.mk op 0 ax [x]) k:=by cases r<;>rfl
def U6(l:List Tok)(r:cA aP):EP l r=r.bind λx k=>(fY l [41] k).bind λ_ k=>.ok x k:=by
 cases r with
 |ok x k=>show (if ef l k [41]=true then _ else _)=_;unfold cA.bind fY;dsimp only;split<;>rfl
 |err a e=>rfl
def Cn(A B:List aT)(rw:List aS)(P:Nat)(l:List Tok)(k b e ns dp:Nat)(hns:¬ns=24)(hn2:ns <= 24):aR prog 160 [aE P] [P] (bY A B rw P l k b e ns dp) λt s=>t=.tup [] /\ s=bY A B rw P l k b e (ns+1) dp:=by
 refine bN 16 func160 ?_;refine go 7 ?_;refine aC false J (by rw [show eU .eql ((ns:Nat):Int) 24=some (decide (ns=24)) from pm (n:=24),decide_eq_false hns]) (go 10 ?_);refine bJ J (go 4 ?_);exact ⟨.inl J,_,(bY A B rw P l (k) (b) (e) (ns+1) (dp)),e_ J,aj (.refl _) (.refl _),J,J⟩
def D5(A B:List aT)(rw:List aS)(P:Nat)(l:List Tok)(k b e dp:Nat):aR prog 160 [aE P] [P] (bY A B rw P l k b e 24 dp) λt s=>∃b1 aa,uE e b k 3 b1 aa /\ t=.tup [] /\ s=bY A B rw P l k b1 aa 25 dp:=by
 refine bN 16 func160 ?_;refine go 7 ?_;refine aC true J jp (go 5 ?_);refine bC J call61 J (jG (A) _ _ _ l k b e 24 dp 3) ?_;rintro cx s2 ⟨u2,e2,hf2,rfl,rfl⟩;refine go 7 ?_;refine bJ J (go 4 ?_);exact ⟨.inl J,_,(bY A B rw P l (k) (u2) (e2) (25) (dp)),e_ J,aj (.refl _) (.refl _),⟨u2,e2,hf2,J,J⟩⟩
def N_(A B:List aT)(rw:List aS)(P:Nat)(l:List Tok)(k b e dp:Nat)(hok:gI l)(hk:k<l.length)(he:e<16):aR prog 139 [aE P] [P] (bY A B rw P l k b e 24 dp) λt s=>gy A B rw P l 24 dp (λx=>.agg (bb x)) e b (eO l 0 k) t s:=by
 have hlen:=hok.len;refine bN 100 func139 ?_;refine go 17 λb1 b2=>?_;refine bC J call59 J (pD (_::_::A) _ _ _ l k b e 24 dp 2 hk) ?_;rintro t1 s1 (⟨rfl,ha1,rfl,rfl⟩|⟨ha1,rfl,rfl⟩)
 ·refine go 5 ?_;refine b_ [b1,P] (aY [0,1,2,3,4,5,6,7] 5 (go 9 ?_));refine ab 8 J (bS dO dO l kB (λ_=>J) (k) J J J J hk V runUnderlying139 sizeOf154) (cU [(9,true),(10,true),(11,true),(12,false)] 0 (go 5 ?_));refine bG (go 6 ?_);refine bJ J (go 13 ?_);have hm:=hok.last.more hk (by rw [ha1];decide);exact ⟨.inr J,_,(bY A B rw P l (k+1) (b) (0) (24) (dp)),(fq (bu.agg (.r (.r (.r (.n .nil))))) (bT J (cS [_] J J isAgg87 sizeOf87 (cY J J)))),aj (.cons _ (.cons _ (.refl _))) (.refl _),⟨(.mk 1 (l[k].num:Int) ax []),k+1,b,0,J,.ok _ _ _ (by unfold eO;rw [if_pos ha1,lS hk]),hm,V,J⟩⟩
 refine go 7 ?_;refine bC J call59 J (pD (_::_::A) _ _ _ l k b e 24 dp 1 hk) ?_;rintro t4 s4 (⟨rfl,ha4,rfl,rfl⟩|⟨ha4,rfl,rfl⟩)
 ·refine go 6 ?_;refine bC J call65 J (lJ (_::_::A) _ _ _ l k b 0 24 dp hok hk V) ?_;rintro t6 s6 ⟨x6,k6,u6,e6,rfl,hr6,hk6,he6,rfl⟩;refine go 12 ?_;exact ⟨.inr J,_,(bY A B rw P l (k6) (u6) (e6) (24) (dp)),(fq (bu.agg (.r (.r (.r (.n .nil))))) (bT J (cS [_] J J isAgg87 sizeOf87 (cY J J)))),aj (.cons _ (.cons _ (.refl _))) (.refl _),⟨(.mk 2 0 x6 []),k6,u6,e6,J,(hr6.map (f:=λn=>aP.mk 2 0 n [])).eq M9,hk6,he6,J⟩⟩
 refine go 7 ?_;refine bC J call60 J (mO (_::_::A) _ _ _ l k b e 24 dp [45] V hok hk) ?_;rintro t8 s8 (⟨rfl,ha8,rfl,rfl⟩|⟨ha8,rfl,rfl⟩)
 ·refine go 18 ?_;refine bC J call60 J (mO (_::_::A) _ _ _ l k b 0 24 dp [45] V hok hk) ?_;rintro t10 s10 (⟨-,ha10,rfl,rfl⟩|⟨ha10,rfl,rfl⟩)
  ·refine go 11 ?_;refine bC J call160 J (D5 (_::_::A) _ _ _ l k b 0 dp) ?_;rintro t12 s12 ⟨u12,e12,hf12,rfl,rfl⟩;obtain ⟨rfl,rfl⟩:=hf12.1 rfl;refine go 9 ?_;refine aC false J J (go 10 ?_);refine aF J (jE (hr:=J) ((24:Nat):Int)) (go 13 ?_);exact ⟨.inr J,_,(bY A B rw P l (k) (k) (3) (24) (dp)),(fq (bu.agg (.r (.r (.r (.n .nil))))) (bT J (cS [_] J J isAgg87 sizeOf87 (cY J J)))),aj (.cons _ (.cons _ (.refl _))) (.refl _),⟨(.mk 3 0 ax []),k,k,3,J,.err _ _ _ _ _ (by unfold eO;rw [if_neg (ha1 rfl),if_neg (ha4 rfl),if_pos (by simp [ha8])]) V,hk,V,J⟩⟩
  exact absurd (ha10 J) (by rw [ha8];decide)
 refine go 2 ?_;refine bC J call60 J (mO (_::_::A) _ _ _ l k b e 24 dp [33] V hok hk) ?_;rintro t14 s14 (⟨rfl,ha14,rfl,rfl⟩|⟨ha14,rfl,rfl⟩)
 ·refine go 15 ?_;refine bC J call60 J (mO (_::_::A) _ _ _ l k b 0 24 dp [45] V hok hk) ?_;rintro t16 s16 (⟨-,ha16,rfl,rfl⟩|⟨ha16,rfl,rfl⟩)
  ·exact absurd ha16 (by rw [(ha8 rfl)];decide)
  refine go 8 ?_;refine bC J call160 J (D5 (_::_::A) _ _ _ l k b 0 dp) ?_;rintro t18 s18 ⟨u18,e18,hf18,rfl,rfl⟩;obtain ⟨rfl,rfl⟩:=hf18.1 rfl;refine go 9 ?_;refine aC false J J (go 10 ?_);refine aF J (jE (hr:=J) ((24:Nat):Int)) (go 13 ?_);exact ⟨.inr J,_,(bY A B rw P l (k) (k) (3) (24) (dp)),(fq (bu.agg (.r (.r (.r (.n .nil))))) (bT J (cS [_] J J isAgg87 sizeOf87 (cY J J)))),aj (.cons _ (.cons _ (.refl _))) (.refl _),⟨(.mk 4 0 ax []),k,k,3,J,.err _ _ _ _ _ (by unfold eO;rw [if_neg (ha1 rfl),if_neg (ha4 rfl),if_pos (by simp [ha14])]) V,hk,V,J⟩⟩
 refine go 8 ?_;refine bC J call60 J (mO (_::_::A) _ _ _ l k b e 24 dp [40] V hok hk) ?_;rintro t21 s21 (⟨rfl,ha21,rfl,rfl⟩|⟨ha21,rfl,rfl⟩)
 ·refine go 7 ?_;refine bC J call160 J (D5 (_::_::A) _ _ _ l k b 0 dp) ?_;rintro t23 s23 ⟨u23,e23,hf23,rfl,rfl⟩;obtain ⟨rfl,rfl⟩:=hf23.1 rfl;refine go 9 ?_;refine aC false J J (go 10 ?_);refine aF J (jE (hr:=J) ((24:Nat):Int)) (go 13 ?_);exact ⟨.inr J,_,(bY A B rw P l (k) (k) (3) (24) (dp)),(fq (bu.agg (.r (.r (.r (.n .nil))))) (bT J (cS [_] J J isAgg87 sizeOf87 (cY J J)))),aj (.cons _ (.cons _ (.refl _))) (.refl _),⟨aP.zero,k,k,3,J,.err _ _ _ _ _ (by unfold eO;rw [if_neg (ha1 rfl),if_neg (ha4 rfl),if_pos (by simp [ha21])]) V,hk,V,J⟩⟩
 refine go 6 ?_;refine bC J call61 J (jG (_::_::A) _ _ _ l k b e 24 dp 4) ?_;rintro t26 s26 ⟨u26,e26,hf26,rfl,rfl⟩;refine go 10 ?_;exact ⟨.inr J,_,(bY A B rw P l (k) (u26) (e26) (24) (dp)),(fq (bu.agg (.r (.r (.r (.n .nil))))) (bT J (cS [_] J J isAgg87 sizeOf87 (cY J J)))),aj (.cons _ (.cons _ (.refl _))) (.refl _),⟨aP.zero,k,u26,e26,J,hf26.run V (λh=>by unfold eO;rw [if_neg (ha1 h),if_neg (ha4 h),if_neg (by rw [ha8 h,ha14 h,ha21 h];decide)]) _ _,hk,(hf26.small he V),J⟩⟩
def TP(A B:List aT)(rw:List aS)(P:Nat)(l:List Tok)(k b e ns dp:Nat)(d:Nat)(hns:ns+(d+1)=24)(hok:gI l)(hk:k<l.length)(he:e<16)(iho:∀(A B:List aT)(rw:List aS)(P k b e ns dp:Nat),ns+d=24 -> k<l.length -> e<16 -> aR prog 139 [aE P] [P] (bY A B rw P l k b e ns dp) (gy A B rw P l ns dp (λx=>.agg (bb x)) e b (eO l d k)))(ihb:∀(A B:List aT)(rw:List aS)(P k b e ns dp:Nat),ns+d=24 -> k<l.length -> e<16 -> aR prog 114 [aE P,bB 0] [P] (bY A B rw P l k b e ns dp) (gy A B rw P l ns dp (λx=>.agg (bb x)) e b (gz l (eO l d) 5 k))):aR prog 139 [aE P] [P] (bY A B rw P l k b e ns dp) λt s=>gy A B rw P l ns dp (λx=>.agg (bb x)) e b (eO l (d+1) k) t s:=by
 have hlen:=hok.len;refine bN 100 func139 ?_;refine go 17 λb1 b2=>?_;refine bC J call59 J (pD (_::_::A) _ _ _ l k b e ns dp 2 hk) ?_;rintro t1 s1 (⟨rfl,ha1,rfl,rfl⟩|⟨ha1,rfl,rfl⟩)
 ·refine go 5 ?_;refine b_ [b1,P] (aY [0,1,2,3,4,5,6,7] 5 (go 9 ?_));refine ab 8 J (bS dO dO l kB (λ_=>J) (k) J J J J hk V runUnderlying139 sizeOf154) (cU [(9,true),(10,true),(11,true),(12,false)] 0 (go 5 ?_));refine bG (go 6 ?_);refine bJ J (go 13 ?_);have hm:=hok.last.more hk (by rw [ha1];decide);exact ⟨.inr J,_,(bY A B rw P l (k+1) (b) (0) (ns) (dp)),(fq (bu.agg (.r (.r (.r (.n .nil))))) (bT J (cS [_] J J isAgg87 sizeOf87 (cY J J)))),aj (.cons _ (.cons _ (.refl _))) (.refl _),⟨(.mk 1 (l[k].num:Int) ax []),k+1,b,0,J,.ok _ _ _ (by unfold eO;rw [if_pos ha1,lS hk]),hm,V,J⟩⟩
 refine go 7 ?_;refine bC J call59 J (pD (_::_::A) _ _ _ l k b e ns dp 1 hk) ?_;rintro t4 s4 (⟨rfl,ha4,rfl,rfl⟩|⟨ha4,rfl,rfl⟩)
 ·refine go 6 ?_;refine bC J call65 J (lJ (_::_::A) _ _ _ l k b 0 ns dp hok hk V) ?_;rintro t6 s6 ⟨x6,k6,u6,e6,rfl,hr6,hk6,he6,rfl⟩;refine go 12 ?_;exact ⟨.inr J,_,(bY A B rw P l (k6) (u6) (e6) (ns) (dp)),(fq (bu.agg (.r (.r (.r (.n .nil))))) (bT J (cS [_] J J isAgg87 sizeOf87 (cY J J)))),aj (.cons _ (.cons _ (.refl _))) (.refl _),⟨(.mk 2 0 x6 []),k6,u6,e6,J,(hr6.map (f:=λn=>aP.mk 2 0 n [])).eq M9,hk6,he6,J⟩⟩
 refine go 7 ?_;refine bC J call60 J (mO (_::_::A) _ _ _ l k b e ns dp [45] V hok hk) ?_;rintro t8 s8 (⟨rfl,ha8,rfl,rfl⟩|⟨ha8,rfl,rfl⟩)
 ·refine go 18 ?_;refine bC J call60 J (mO (_::_::A) _ _ _ l k b 0 ns dp [45] V hok hk) ?_;rintro t10 s10 (⟨-,ha10,rfl,rfl⟩|⟨ha10,rfl,rfl⟩)
  ·refine go 11 ?_;refine bC J call160 J (Cn (_::_::A) _ _ _ l k b 0 ns dp Y Y) ?_;rintro t12 s12 ⟨rfl,rfl⟩;refine go 9 ?_;refine aC true J ge (go 5 ?_);have hm:=my hok.last hk ha10;refine go 4 ?_;refine bJ J (go 7 ?_);refine bC J call139 J (iho (_::_::A) _ _ _ (k+1) b 0 (ns+1) dp Y hm V) ?_;rintro t14 s14 ⟨x14,k14,u14,e14,rfl,hr14,hk14,he14,rfl⟩;refine aW J (be (hf:=dU bR bb x14 (ei _) J J) ni ?_);refine go 9 ?_;refine aF J (jE ((ns:Nat):Int)) (go 13 ?_);exact ⟨.inr J,_,(bY A B rw P l (k14) (u14) (e14) (ns) (dp)),(bT J (cS [_] J J isAgg87 sizeOf87 (cY J J))),aj (.cons _ (.cons _ (.refl _))) (.refl _),⟨(.mk 3 0 ax [x14]),k14,u14,e14,J,(hr14.map (f:=λx=>aP.mk 3 0 ax [x])).eq (λ_=>by rw [eO.eq_2,if_neg (ha1 rfl),if_neg (ha4 rfl),if_pos ha8,FU]),hk14,he14,J⟩⟩
  exact absurd (ha10 J) (by rw [ha8];decide)
 refine go 2 ?_;refine bC J call60 J (mO (_::_::A) _ _ _ l k b e ns dp [33] V hok hk) ?_;rintro t15 s15 (⟨rfl,ha15,rfl,rfl⟩|⟨ha15,rfl,rfl⟩)
 ·refine go 15 ?_;refine bC J call60 J (mO (_::_::A) _ _ _ l k b 0 ns dp [45] V hok hk) ?_;rintro t17 s17 (⟨-,ha17,rfl,rfl⟩|⟨ha17,rfl,rfl⟩)
  ·exact absurd ha17 (by rw [(ha8 rfl)];decide)
  refine go 8 ?_;refine bC J call160 J (Cn (_::_::A) _ _ _ l k b 0 ns dp Y Y) ?_;rintro t19 s19 ⟨rfl,rfl⟩;refine go 9 ?_;refine aC true J ge (go 5 ?_);have hm:=my hok.last hk ha15;refine go 4 ?_;refine bJ J (go 7 ?_);refine bC J call139 J (iho (_::_::A) _ _ _ (k+1) b 0 (ns+1) dp Y hm V) ?_;rintro t21 s21 ⟨x21,k21,u21,e21,rfl,hr21,hk21,he21,rfl⟩;refine aW J (be (hf:=dU bR bb x21 (ei _) J J) ni ?_);refine go 9 ?_;refine aF J (jE ((ns:Nat):Int)) (go 13 ?_);exact ⟨.inr J,_,(bY A B rw P l (k21) (u21) (e21) (ns) (dp)),(bT J (cS [_] J J isAgg87 sizeOf87 (cY J J))),aj (.cons _ (.cons _ (.refl _))) (.refl _),⟨(.mk 4 0 ax [x21]),k21,u21,e21,J,(hr21.map (f:=λx=>aP.mk 4 0 ax [x])).eq (λ_=>by rw [eO.eq_2,if_neg (ha1 rfl),if_neg (ha4 rfl),if_neg (by rw [ha17 rfl];decide),if_pos ha15,FU]),hk21,he21,J⟩⟩
 refine go 8 ?_;refine bC J call60 J (mO (_::_::A) _ _ _ l k b e ns dp [40] V hok hk) ?_;rintro t23 s23 (⟨rfl,ha23,rfl,rfl⟩|⟨ha23,rfl,rfl⟩)
 ·refine go 7 ?_;refine bC J call160 J (Cn (_::_::A) _ _ _ l k b 0 ns dp Y Y) ?_;rintro t25 s25 ⟨rfl,rfl⟩;refine go 9 ?_;refine aC true J ge (go 5 ?_);have hm:=my hok.last hk ha23;refine go 4 ?_;refine bJ J (go 8 ?_);refine bC J call114 J (ihb (_::_::A) _ _ _ (k+1) b 0 (ns+1) dp Y hm V) ?_;rintro t27 s27 ⟨x27,k27,u27,e27,rfl,hr27,hk27,he27,rfl⟩;refine go 5 ?_;refine bC J call86 J (gZ (_::_::A) _ _ _ l k27 u27 e27 (ns+1) dp [41] V hok hk27 he27) ?_;rintro t28 s28 ⟨x28,k28,u28,e28,rfl,hr28,hk28,he28,rfl⟩;refine go 7 ?_;refine aF J (jE ((ns:Nat):Int)) (go 13 ?_);exact ⟨.inr J,_,(bY A B rw P l (k28) (u28) (e28) (ns) (dp)),(bT J (cS [_] J J isAgg87 sizeOf87 (cY J J))),aj (.cons _ (.cons _ (.refl _))) (.refl _),⟨x27,k28,u28,e28,J,(hr27.bind (f:=λx k=>(fY l [41] k).bind λ_ k=>.ok x k) (hr28.map (f:=λ_=>x27))).eq (λ_=>by rw [eO.eq_2,if_neg (ha1 rfl),if_neg (ha4 rfl),if_neg vj,if_neg (by rw [ha15 rfl];decide),if_pos ha23,U6]),hk28,he28,J⟩⟩
 refine go 6 ?_;refine bC J call61 J (jG (_::_::A) _ _ _ l k b e ns dp 4) ?_;rintro t30 s30 ⟨u30,e30,hf30,rfl,rfl⟩;refine go 10 ?_;exact ⟨.inr J,_,(bY A B rw P l (k) (u30) (e30) (ns) (dp)),(fq (bu.agg (.r (.r (.r (.n .nil))))) (bT J (cS [_] J J isAgg87 sizeOf87 (cY J J)))),aj (.cons _ (.cons _ (.refl _))) (.refl _),⟨aP.zero,k,u30,e30,J,hf30.run V (λh=>by unfold eO;rw [if_neg (ha1 h),if_neg (ha4 h),if_neg (by rw [ha8 h];decide),if_neg (by rw [ha15 h];decide),if_neg (by rw [ha23 h];decide)]) _ _,hk,(hf30.small he V),J⟩⟩
def RJ{l:List Tok}(h:gI l){k lv j:Nat}(hk:k<l.length)(hlv:lv<5)(hj:j<(eE lv).length)(ha:kJ l k (eE lv)[j]=true):(dM l k).kind=4 /\ (binOp (dM l k).text).2=lv+1 /\ ∀h':j<(dj lv).length,((binOp (dM l k).text).1:Int)=(dj lv)[j]:=by
 unfold kJ at ha;simp only [cz,lT,decide_eq_true_eq] at ha;obtain ⟨h1,h2⟩:=ha;have h4:(dM l k).kind=4:=by
  rcases h1 with h1|h1
  ·exact h1
  have:=(h.reg _ (getElem_mem hk)).1 (by rw [←lS hk];exact h1);rw [←lS hk,h2,T6 lv hlv j hj] at this;cases this
 rw [h2];have hO:j<(dj lv).length:=by rw [(BP lv).1];exact hj
 exact ⟨h4,(MY lv hlv j hj hO).2,λh'=>(MY lv hlv j hj h').1⟩
def Qe{l:List Tok}{k lv:Nat}(hlv:lv<5)(h:∀j (hj:j<(eE lv).length),kJ l k (eE lv)[j]=false):¬((dM l k).kind=4 /\ (binOp (dM l k).text).2=lv+1):=by
 rintro ⟨h1,h2⟩;obtain ⟨j,hj,he⟩:=jQ (Tq lv hlv _ h2);have:=h j hj;unfold kJ at this;rw [he] at this;simp [h1] at this
def JN(l:List Tok)(sub:Nat -> cA aP)(lv bm b0 k0:Nat)(x:aP)(k b e n:Nat):Prop:=
 (e=0 -> l.length<n+k) /\ ∀z k' b' e',bh e b (jF l sub (lv+1) n x k) z k' b' e' -> bh bm b0 ((sub k0).bind λx k=>jF l sub (lv+1) (l.length+1) x k) z k' b' e'
def Ue(A B:List aT)(rw:List aS)(P:Nat)(l:List Tok)(k b e ns dp:Nat)(sub:Nat -> cA aP)(hok:gI l)(hk:k<l.length)(he:e<16)(iho:∀(A B:List aT)(rw:List aS)(P k b e:Nat),k<l.length -> e<16 -> aR prog 139 [aE P] [P] (bY A B rw P l k b e ns dp) (gy A B rw P l ns dp (λx=>.agg (bb x)) e b (sub k))):aR prog 114 [aE P,bB 5] [P] (bY A B rw P l k b e ns dp) λt s=>gy A B rw P l ns dp (λx=>.agg (bb x)) e b (sub k) t s:=by
 have hlen:=hok.len;refine bN 52 func114 ?_;refine go 9 λb1=>?_;refine aC true J J (go 6 ?_);refine bC J call139 J (iho (_::A) _ _ _ k b e hk he) ?_;rintro cx s2 ⟨x2,k2,u2,e2,rfl,hr2,hk2,he2,rfl⟩;refine go 5 ?_;exact ⟨.inr J,_,(bY A B rw P l (k2) (u2) (e2) (ns) (dp)),(bT J (cS [] J J isAgg87 sizeOf87 (cY J J))),aj (.cons _ (.refl _)) (.refl _),⟨x2,k2,u2,e2,J,hr2,hk2,he2,J⟩⟩
def Qf(A B:List aT)(rw:List aS)(P:Nat)(l:List Tok)(k b e ns dp:Nat)(lv:Nat)(sub:Nat -> cA aP)(hlv:lv<5)(hin:∀k,k<l.length -> (sub k).In l k)(hok:gI l)(hk:k<l.length)(he:e<16)(ihb:∀(A B:List aT)(rw:List aS)(P k b e:Nat),k<l.length -> e<16 -> aR prog 114 [aE P,bB ((lv:Nat)+1:Int)] [P] (bY A B rw P l k b e ns dp) (gy A B rw P l ns dp (λx=>.agg (bb x)) e b (sub k))):aR prog 114 [aE P,bB (lv:Int)] [P] (bY A B rw P l k b e ns dp) λt s=>gy A B rw P l ns dp (λx=>.agg (bb x)) e b ((sub k).bind λx k=>jF l sub (lv+1) (l.length+1) x k) t s:=by
 have hlen:=hok.len;refine bN 52 func114 ?_;refine go 9 λb1=>?_;refine aC false J tG (go 9 ?_);refine bJ J ?_;refine bC J call114 J (ihb (_::A) _ _ _ k b e hk he) ?_;rintro cx s2 ⟨x2,k2,u2,e2,rfl,hr2,hk2,he2,rfl⟩;refine go 7 λb2=>?_;refine aW J (bj [] J J V call140 J (Ic lv hlv _) dL dL (λ_=>dL) ?_);rintro t3 s3 ⟨rfl,rfl⟩;refine go 14 ?_;refine ff (λg:Bool×aP×Nat×Nat×Nat=>(⟨52,[b2,b1,P],⟨⟨b2,87,bb (g.2.1)⟩::⟨b1,87,[.val (.int .i64 0),.val (.int .i64 0),.val (.string ⟨#[]⟩),.val (.slice none 0 0)]⟩::(A++⟨P,144,[.sl l.length (l.flatMap dO),.val (.int .i64 (((g.2.2.1):Nat):Int)),.val (.int .i64 (((g.2.2.2.1):Nat):Int)),.val (.int .i64 (((g.2.2.2.2):Nat):Int)),am ns,am dp]⟩::B),rw⟩,[(8,.c (.val (.bool g.1))),(0,aE P),(1,aX lv),(4,aE b1),(5,aE b2),(6,.c (l8 (eE lv))),(7,.c (l_ (dj lv)))]⟩:AS)) (λg=>g.2.2.1<l.length /\ g.2.2.2.2<16 /\ (g.1=true -> ∃n,JN l sub lv e b k g.2.1 g.2.2.1 g.2.2.2.1 g.2.2.2.2 n) /\ (g.1=false -> bh e b ((sub k).bind λx k=>jF l sub (lv+1) (l.length+1) x k) g.2.1 g.2.2.1 g.2.2.2.1 g.2.2.2.2)) (λg=>if g.1 then (if g.2.2.2.2=0 then l.length-g.2.2.1+2 else 1) else 0) (true,x2,k2,u2,e2) (az (λ_ h=>h)) ⟨hk2,he2,λ_=>⟨l.length+1,λ_=>Y,λz k' b' e' h=>hr2.bind h⟩,(λh=>nomatch h)⟩ ?_;rintro ⟨ag0,x0,k0,b0,bm⟩ ⟨hk0,he0,hc0,hd0⟩;dsimp only at hk0 he0 hc0 hd0;show bo prog _ (⟨52,[b2,b1,P],⟨⟨b2,87,bb (x0)⟩::⟨b1,87,[aA 0,aA 0,ae ⟨#[]⟩,aI]⟩::(A++⟨P,144,[aB dO l,aA (((k0):Nat):Int),aA (((b0):Nat):Int),aA (((bm):Nat):Int),am ns,am dp]⟩::B),rw⟩,[(8,ap ag0),(0,aE P),(1,aX lv),(4,aE b1),(5,aE b2),(6,.c (l8 (eE lv))),(7,.c (l_ (dj lv)))]⟩:AS) _;cases ag0
 ·refine go 19 ?_;exact ⟨.inr J,_,(bY A B rw P l (k0) (b0) (bm) (ns) (dp)),(bT J (cS [_] J J isAgg87 sizeOf87 (cY J J))),aj (.cons _ (.cons _ (.refl _))) (.refl _),⟨x0,k0,b0,bm,J,hd0 J,hk0,he0,J⟩⟩
 refine go 21 ?_;obtain ⟨n0,hn0,hcont⟩:=hc0 rfl;refine ff (λg:Nat×Bool×aP×Nat×Nat×Nat=>(⟨52,[b2,b1,P],⟨⟨b2,87,bb (g.2.2.1)⟩::⟨b1,87,[.val (.int .i64 0),.val (.int .i64 0),.val (.string ⟨#[]⟩),.val (.slice none 0 0)]⟩::(A++⟨P,144,[.sl l.length (l.flatMap dO),.val (.int .i64 (((g.2.2.2.1):Nat):Int)),.val (.int .i64 (((g.2.2.2.2.1):Nat):Int)),.val (.int .i64 (((g.2.2.2.2.2):Nat):Int)),am ns,am dp]⟩::B),rw⟩,[(9,aX (g.1)),(8,.c (.val (.bool g.2.1))),(0,aE P),(1,aX lv),(4,aE b1),(5,aE b2),(6,.c (l8 (eE lv))),(7,.c (l_ (dj lv)))]⟩:AS)) (λg=>g.1 <= (eE lv).length /\ (g.2.1=false -> g.2.2=(x0,k0,b0,bm) /\ (bm=0 -> ∀j (hj:j<(eE lv).length),j<g.1 -> kJ l k0 (eE lv)[j]=false)) /\ (g.2.1=true -> bm=0 /\ g.2.2.2.1<l.length /\ g.2.2.2.2.2<16 /\ (g.2.2.2.2.2=0 -> k0<g.2.2.2.1) /\ ∃n,JN l sub lv e b k g.2.2.1 g.2.2.2.1 g.2.2.2.2.1 g.2.2.2.2.2 n)) (λg=>(eE lv).length-g.1) (0,false,x0,k0,b0,bm) (az (λ_ h=>h)) ⟨d2 _,λ_=>⟨J,λ_ j _ h=>Y⟩,(λh=>nomatch h)⟩ ?_;rintro ⟨i,ag,x1,k1,b1',aa⟩ ⟨hi0,hf0,ht0⟩;dsimp only at hi0 hf0 ht0;have hsl:=BP lv;cases ag
 ·by_cases hlt:i<(eE lv).length
  ·obtain ⟨hq,hno⟩:=hf0 rfl;obtain ⟨rfl,rfl,rfl,rfl⟩:x1=x0 /\ k1=k0 /\ b1'=b0 /\ aa=bm:=by simpa using hq
   clear hq hf0 ht0;show bo prog _ (⟨52,[b2,b1,P],⟨⟨b2,87,bb (x1)⟩::⟨b1,87,[aA 0,aA 0,ae ⟨#[]⟩,aI]⟩::(A++⟨P,144,[aB dO l,aA (((k1):Nat):Int),aA (((b1'):Nat):Int),aA (((aa):Nat):Int),am ns,am dp]⟩::B),rw⟩,[(9,aX (i)),(8,ap false),(0,aE P),(1,aX lv),(4,aE b1),(5,aE b2),(6,.c (l8 (eE lv))),(7,.c (l_ (dj lv)))]⟩:AS) _;refine go 6 ?_;refine aC true J (by simp [eU,hlt]) (go 16 ?_);refine aF J (l9 (λs=>ae s) (eE lv) i J J J J hlt runUnderlying61 sizeOf9) (go 1 ?_);refine bC J call62 J (Bf (_::_::A) _ _ _ l k1 b1' aa ns dp (eE lv)[i] hok hk0) ?_;rintro t7 s7 (⟨rfl,ha,hm,rfl,rfl⟩|⟨hna7,rfl,rfl⟩)
   ·refine go 3 ?_;refine b_ [b1] (aY [0,1] 11 (go 3 ?_));refine ab 2 J (l9 (λn=>aA n) (dj lv) i J J J J Y runUnderlying22 sizeOf3) (aY [3,5,6] 7 (go 4 ?_));refine ab 7 J (w_ J J J Y Y) ?_;refine cx 4 8 J ?_ ?_;focus
     refine eP J V (ca [] isAgg87 sizeOf87) ?_;refine an 8 J J (bj [P] J J V call114 J (ihb (_::_::A) _ _ _ ((k1+1)) b1' 0 hm V) dV dS JQ ?_);rintro t9 s9 ⟨x10,k10,u10,e10,rfl,hr10,hk10,he10,rfl⟩
    rotate_left;refine (bj [P] J J V call114 J (ihb (_::_::A) _ _ _ ((k1+1)) b1' 0 hm V) dV dS JQ ?_);rintro t10 s10 ⟨x10,k10,u10,e10,rfl,hr10,hk10,he10,rfl⟩;refine an 4 J J (eP J V (ca [] isAgg87 sizeOf87) ?_);all_goals
     refine an 9 J J (be (hps:=(.cons J (.cons J .nil))) (hf:=Gp bR bb x1 x10 ei J (λ_=>J)) Il ?_);refine cU [(10,true),(11,false),(12,true)] 0 (go 4 ?_);refine bG (go 4 ?_);refine bJ J (go 2 ?_);obtain ⟨h4,hlv2,hop⟩:=RJ hok hk0 hlv hlt ha;have hin2:=hin (k1+1) hm;refine ⟨(i+1,true,.mk (dj lv)[i] 0 ax [x1,x10],k10,u10,e10),⟨by show i+1 <= _;omega,(λh=>nomatch h),λ_=>⟨J,hk10,he10,λh0=>?_,n0-1,λh0=>?_,λz k' b' e' h=>hcont z k' b' e' ?_⟩⟩,MF,az (λ_ h=>h)⟩
     ·have hg:=hr10.good h0;rw [hg.2.1] at hin2;show k1<k10;have:=hin2.1;omega
     ·have hg:=hr10.good h0;rw [hg.2.1] at hin2;have h1:=hin2.1;have h2:=hn0 J;show l.length<n0-1+k10;omega
     obtain ⟨m,rfl⟩:∃m,n0=m+1:=⟨n0-1,by have:=hn0 rfl;omega⟩;rw [jF,if_pos ⟨h4,hlv2⟩];refine (hr10.bind (f:=λy k=>jF l sub (lv+1) m (.mk (dj lv)[i] 0 ax [x1,y]) k) h).eq λ_=>?_;rw [hop Y];cases sub (k1+1)<;>rfl
   have hno2:aa=0 -> kJ l k1 (eE lv)[i]=false:=λh0=>by cases hh:kJ l k1 (eE lv)[i] with|false=>rfl|true=>exact absurd ⟨h0,hh⟩ hna7
   refine go 8 ?_;refine bJ J (go 2 ?_);refine ⟨(i+1,false,x1,k1,b1',aa),⟨by show i+1 <= _;omega,λ_=>⟨J,λh0 j hj hji=>?_⟩,(λh=>nomatch h)⟩,MF,az (λ_ h=>h)⟩;have hji2:j<i+1:=hji;rcases iQ j i with h|h
   ·exact hno h0 j hj h
   obtain rfl:j=i:=Y;exact hno2 h0
  obtain ⟨hq,hno⟩:=hf0 rfl;obtain ⟨rfl,rfl,rfl,rfl⟩:x1=x0 /\ k1=k0 /\ b1'=b0 /\ aa=bm:=by simpa using hq
  clear hq hf0 ht0;show bo prog _ (⟨52,[b2,b1,P],⟨⟨b2,87,bb (x1)⟩::⟨b1,87,[aA 0,aA 0,ae ⟨#[]⟩,aI]⟩::(A++⟨P,144,[aB dO l,aA (((k1):Nat):Int),aA (((b1'):Nat):Int),aA (((aa):Nat):Int),am ns,am dp]⟩::B),rw⟩,[(9,aX (i)),(8,ap false),(0,aE P),(1,aX lv),(4,aE b1),(5,aE b2),(6,.c (l8 (eE lv))),(7,.c (l_ (dj lv)))]⟩:AS) _;obtain rfl:i=(eE lv).length:=Y;refine go 6 ?_;refine aC false J ge (go 8 ?_);have hfin:bh e b ((sub k).bind λx k=>jF l sub (lv+1) (l.length+1) x k) x1 k1 b1' aa:=by
   refine hcont x1 k1 b1' aa ?_;by_cases h0:aa=0
   ·subst h0;obtain ⟨m,rfl⟩:∃m,n0=m+1:=⟨n0-1,by have:=hn0 rfl;omega⟩;rw [jF,if_neg (Qe hlv λj hj=>hno rfl j hj hj)];exact bh.pure _ _ _ _
   exact .skip h0 _ _ _
  refine go 4 ?_;exact ⟨(false,x1,k1,b1',aa),⟨hk0,he0,(λh=>nomatch h),λ_=>hfin⟩,by simp only [if_true,lK,if_false];split<;>omega,az (λ_ h=>h)⟩
 by_cases hlt:i<(eE lv).length;focus
  obtain ⟨rfl,hk1,he1,hgt,n1,hb1⟩:=ht0 rfl;clear hf0 ht0;show bo prog _ (⟨52,[b2,b1,P],⟨⟨b2,87,bb (x1)⟩::⟨b1,87,[aA 0,aA 0,ae ⟨#[]⟩,aI]⟩::(A++⟨P,144,[aB dO l,aA (((k1):Nat):Int),aA (((b1'):Nat):Int),aA (((aa):Nat):Int),am ns,am dp]⟩::B),rw⟩,[(9,aX (i)),(8,ap true),(0,aE P),(1,aX lv),(4,aE b1),(5,aE b2),(6,.c (l8 (eE lv))),(7,.c (l_ (dj lv)))]⟩:AS) _;refine go 6 ?_;refine aC true J (by simp [eU,hlt]) (go 8 ?_)
 rotate_left;obtain ⟨rfl,hk1,he1,hgt,n1,hb1⟩:=ht0 rfl;clear hf0 ht0;show bo prog _ (⟨52,[b2,b1,P],⟨⟨b2,87,bb (x1)⟩::⟨b1,87,[aA 0,aA 0,ae ⟨#[]⟩,aI]⟩::(A++⟨P,144,[aB dO l,aA (((k1):Nat):Int),aA (((b1'):Nat):Int),aA (((aa):Nat):Int),am ns,am dp]⟩::B),rw⟩,[(9,aX (i)),(8,ap true),(0,aE P),(1,aX lv),(4,aE b1),(5,aE b2),(6,.c (l8 (eE lv))),(7,.c (l_ (dj lv)))]⟩:AS) _;refine go 6 ?_;refine aC false J (by simp [eU,hlt]) (go 8 ?_);all_goals
  have hmu:(if true=true then (if aa=0 then l.length-k1+2 else 1) else 0)<(if true=true then (if (0:Nat)=0 then l.length-k0+2 else 1) else 0):=by
   simp only [if_true];by_cases h0:aa=0
   ·have:=hgt h0;rw [if_pos h0];omega
   rw [if_neg h0];omega
  refine go 4 ?_;exact ⟨(true,x1,k1,b1',aa),⟨hk1,he1,λ_=>⟨_,hb1⟩,(λh=>nomatch h)⟩,hmu,az (λ_ h=>h)⟩
def De(l:List Tok)(hok:gI l)(d:Nat)(iho:∀(A B:List aT)(rw:List aS)(P:Nat)(k b e dp:Nat),k<l.length -> e<16 -> aR prog 139 [aE P] [P] (bY A B rw P l k b e (24-d) dp) (gy A B rw P l (24-d) dp (λx=>.agg (bb x)) e b (eO l d k))):∀(j:Nat),j <= 5 -> ∀(A B:List aT)(rw:List aS)(P:Nat)(k b e dp:Nat),k<l.length -> e<16 -> aR prog 114 [aE P,bB ((5-j:Nat):Int)] [P] (bY A B rw P l k b e (24-d) dp) (gy A B rw P l (24-d) dp (λx=>.agg (bb x)) e b (gz l (eO l d) j k))
 |0,_,A,B,rw,P,k,b,e,dp,hk,he=>(Ue A B rw P l k b e (24-d) dp (eO l d) hok hk he λA B rw P k b e hk he=>iho A B rw P k b e dp hk he)
 |j+1,hj,A,B,rw,P,k,b,e,dp,hk,he=>by
  have h:=Qf A B rw P l k b e (24-d) dp (5-(j+1)) (gz l (eO l d) j) Y (λk hk=>xB hok.last (λk hk=>wM hok.last d k hk) j k hk) hok hk he (λA B rw P k b e hk he=>by
   have h9:=De l hok d iho j Y A B rw P k b e dp hk he;have aa:(((5-(j+1):Nat):Int)+1)=((5-j:Nat):Int):=Y;rw [aa];exact h9)
  have e2:gz l (eO l d) (j+1) k=(gz l (eO l d) j k).bind λx k=>jF l (gz l (eO l d) j) (5-(j+1)+1) (l.length+1) x k:=by
   rw [gz,show 5-(j+1)+1=5-j by omega];cases gz l (eO l d) j k<;>rfl
  rw [e2];exact h
def Bv(l:List Tok)(hok:gI l):∀(d:Nat),d <= 24 -> ∀(A B:List aT)(rw:List aS)(P:Nat)(k b e dp:Nat),k<l.length -> e<16 -> aR prog 139 [aE P] [P] (bY A B rw P l k b e (24-d) dp) (gy A B rw P l (24-d) dp (λx=>.agg (bb x)) e b (eO l d k))
 |0,_,A,B,rw,P,k,b,e,dp,hk,he=>N_ A B rw P l k b e dp hok hk he
 |d+1,hd,A,B,rw,P,k,b,e,dp,hk,he=>TP A B rw P l k b e (24-(d+1)) dp d Y hok hk he
   (λA B rw P k b e ns dp hns hk he=>by
    obtain rfl:ns=24-d:=Y;exact Bv l hok d Y A B rw P k b e dp hk he)
   (λA B rw P k b e ns dp hns hk he=>by
    obtain rfl:ns=24-d:=Y;exact De l hok d (Bv l hok d Y) 5 (bW _) A B rw P k b e dp hk he)
def tH(A B:List aT)(rw:List aS)(P:Nat)(l:List Tok)(k b e dp:Nat)(hok:gI l)(hk:k<l.length)(he:e<16):aR prog 114 [aE P,bB 0] [P] (bY A B rw P l k b e 0 dp) (gy A B rw P l 0 dp (λx=>.agg (bb x)) e b (oT l k)):=
 De l hok 24 (Bv l hok 24 (bW _)) 5 (bW _) A B rw P k b e dp hk he
def Do(A B:List aT)(rw:List aS)(P:Nat)(l:List Tok)(k b e dp:Nat)(hok:gI l)(hk:k<l.length)(he:e<16):aR prog 116 [aE P] [P] (bY A B rw P l k b e 0 dp) (gy A B rw P l 0 dp (λx=>.agg (encR x)) e b (y0 l k)):=by
 have hlen:=hok.len;refine bN 16 func116 ?_;refine go 8 λb1=>?_;refine bC J call65 J (lJ (_::A) _ _ _ l k b e 0 dp hok hk he) ?_;rintro t1 s1 ⟨x1,k1,u1,aa,rfl,hr1,hk1,he1,rfl⟩;refine go 9 λb2=>?_;refine bC J call62 J (mV (_::_::A) _ _ _ l k1 u1 aa 0 dp [91] V hok hk1) ?_;rintro cx s2 (⟨rfl,ha2,hm2,rfl,rfl⟩|⟨ha2,rfl,rfl⟩)
 ·refine go 6 ?_;refine bC J call114 J (tH (_::_::A) _ _ _ l (k1+1) u1 0 dp hok hm2 V) ?_;rintro t4 s4 ⟨x4,k4,u4,e4,rfl,hr4,hk4,he4,rfl⟩;refine aW J (be (hf:=dU bR bb x4 (ei _) J J) ni ?_);refine go 6 ?_;refine bC J call86 J (gZ (_::_::A) _ _ _ l k4 u4 e4 0 dp [93] V hok hk4 he4) ?_;rintro t5 s5 ⟨x5,k5,u5,e5,rfl,hr5,hk5,he5,rfl⟩;refine go 9 ?_;exact ⟨.inr J,_,(bY A B rw P l (k5) (u5) (e5) (0) (dp)),(bT J (cS [_] J J isAgg117 sizeOf117 (cY J J))),aj (.cons _ (.cons _ (.refl _))) (.refl _),⟨⟨x1,[x4]⟩,k5,u5,e5,J,hr1.bind (f:=su l) ((hr4.bind (f:=λe k=>(fY l [93] k).bind λ_ k=>.ok ⟨x1,[e]⟩ k) (hr5.map (f:=λ_=>cD.mk x1 [x4]))).eq λ_=>by unfold su;rw [if_pos ha2]),hk5,he5,J⟩⟩
 refine go 12 ?_;exact ⟨.inr J,_,(bY A B rw P l (k1) (u1) (aa) (0) (dp)),(fq (bu.agg (.r (.n .nil))) (bT J (cS [_] J J isAgg117 sizeOf117 (cY J J)))),aj (.cons _ (.cons _ (.refl _))) (.refl _),⟨⟨x1,[]⟩,k1,u1,aa,J,hr1.bind (f:=su l) ((bh.pure _ _ _ _).eq λh=>by unfold su;rw [if_neg zI]),hk1,he1,J⟩⟩
def Ml(A B:List aT)(rw:List aS)(P:Nat)(l:List Tok)(k b e dp:Nat)(hok:gI l)(hk:k<l.length)(he:e<16):aR prog 115 [aE P] [P] (bY A B rw P l k b e 0 dp) (gy A B rw P l 0 dp (λx=>.c (aB dA x)) e b (pr l k)):=by
 have hlen:=hok.len;refine bN 34 func115 ?_;refine go 13 ?_;refine bC J call86 J (gZ (A) _ _ _ l k b e 0 dp [40] V hok hk he) ?_;rintro t1 s1 ⟨x1,k1,u1,aa,rfl,hr1,hk1,he1,rfl⟩;refine go 6 ?_;refine bC J call62 J (mV (A) _ _ _ l k1 u1 aa 0 dp [41] V hok hk1) ?_;rintro cx s2 (⟨rfl,ha2,hm2,rfl,rfl⟩|⟨ha2,rfl,rfl⟩)
 ·refine go 10 ?_;exact ⟨.inr J,_,(bY A B rw P l (k1+1) (u1) (0) (0) (dp)),(fq (bu.c py) (bT J (bM J))),aj (.refl _) (.refl _),⟨[],k1+1,u1,0,J,hr1.bind Gu,hm2,V,J⟩⟩
 refine go 7 ?_;refine fZ 135 7 ?_;refine ff (λg:List cK×aM×Nat×Nat×Nat=>(⟨34,aO g.2.1++[P],⟨A++⟨P,144,[aB dO l,aA (((g.2.2.1):Nat):Int),aA (((g.2.2.2.1):Nat):Int),aA (((g.2.2.2.2):Nat):Int),am 0,am dp]⟩::B,⟨g.2.1,135,7,(g.1).length,(g.1).flatMap dA⟩::rw⟩,[(3,au g.2.1),(0,aE P)]⟩:AS)) (λg=>g.2.2.1<l.length /\ g.2.2.2.2<16 /\ g.1.length <= g.2.2.1 /\ (g.2.2.2.2≠0 -> bh e b (pr l k) g.1 g.2.2.1 g.2.2.2.1 g.2.2.2.2) /\ (g.2.2.2.2=0 -> ∃n,l.length <= n+g.2.2.1 /\ ∀z k' b' e',bh 0 g.2.2.2.1 (lQ l (λ_=>q9 l) n g.1 g.2.2.1) z k' b' e' -> bh e b (pr l k) z k' b' e')) (λg=>if g.2.2.2.2=0 then l.length-g.2.2.1+1 else 0) ([],.slice none 0 0,k1,u1,aa) (az (λ_ h=>h)) ⟨hk1,he1,d2 _,λh=>hr1.bind (bh.skip h _ _ _),λh=>⟨l.length,xN _ _,λz k' b' e' h2=>?_⟩⟩ ?_
 ·have h:aa=0:=h;refine hr1.bind ?_;rw [h,if_neg zI];exact h2
 rintro ⟨acc,v0,k0,b0,bm⟩ ⟨hk0,he0,ha0,hn0,hc0⟩;dsimp only at hk0 he0 ha0 hn0 hc0;show bo prog _ (⟨34,aO v0++[P],⟨A++⟨P,144,[aB dO l,aA (((k0):Nat):Int),aA (((b0):Nat):Int),aA (((bm):Nat):Int),am 0,am dp]⟩::B,⟨v0,135,7,(acc).length,(acc).flatMap dA⟩::rw⟩,[(3,au v0),(0,aE P)]⟩:AS) _;by_cases h0:bm=0
 ·subst h0;obtain ⟨n0,hn1,hcont⟩:=hc0 rfl;refine go 7 ?_;refine aC true J jp (go 17 λb1=>?_);refine bC J call62 J (eN (_::A) _ _ _ l k0 b0 0 0 dp [109,117,116,101,120] V hok hk0) ?_;rintro t6 s6 (⟨-,ha6,hm6,rfl,rfl⟩|⟨ha6,rfl,rfl⟩)
  ·refine go 5 ?_;refine bC J call116 J (Do (_::A) _ _ _ l (k0+1) b0 0 dp hok hm6 V) ?_;rintro t8 s8 ⟨x8,k8,u8,e8,rfl,hr8,hk8,he8,rfl⟩;refine go 6 ?_;have hel:bh 0 b0 (q9 l k0) ⟨true,x8,.zero⟩ k8 u8 e8:=(hr8.map (f:=λr=>cK.mk true r .zero)).eq λ_=>by unfold q9;rw [if_pos ha6]
   refine go 2 ?_;refine d9 24 J (bu.agg (.r (.r (.r (.r (.r (.r (.n .nil)))))))) ?_;refine aW J (be (hf:=dU dA dA ⟨true,x8,.zero⟩ J J J) xi ?_);refine aW J (uZ Tryz.t135 104 J J V J J underlying118 aQ J J J J V J V q5 q7 (@length_append _ acc [⟨true,x8,.zero⟩]).symm fi cb (d4 (f:=dA)).symm λv9=>?_);refine go 6 ?_;refine bC J call62 J (mV (_::A) _ _ _ l k8 u8 e8 0 dp [44] V hok hk8) ?_;rintro t10 s10 (⟨rfl,ha10,hm10,rfl,rfl⟩|⟨ha10,rfl,rfl⟩)
   ·refine go 6 ?_;obtain ⟨m,rfl⟩:∃m,n0=m+1:=⟨n0-1,Y⟩;have hin:=EI hok.last hk0;rw [(hel.good rfl).2.1] at hin;have hin1:=hin.1;refine ⟨(acc++[⟨true,x8,.zero⟩],v9,k8+1,u8,0),⟨hm10,x9,by show (acc++[_]).length <= k8+1;simp;omega,λh=>absurd J h,λ_=>⟨m,by show l.length <= m+(k8+1);omega,λz k' b' e' h=>hcont z k' b' e' ?_⟩⟩,by show (if (0:Nat)=0 then _ else _)<(if (0:Nat)=0 then _ else _);rw [if_pos rfl,if_pos rfl];show l.length-(k8+1)+1<l.length-k0+1;omega,az (h1:=(.cons _ (.refl _))) eZ⟩;rw [lQ];refine hel.bind ?_;rw [if_pos ha10];exact h
   refine go 7 ?_;refine bC J call86 J (gZ (_::A) _ _ _ l k8 u8 e8 0 dp [41] V hok hk8 he8) ?_;rintro t13 s13 ⟨x13,k13,u13,e13,rfl,hr13,hk13,he13,rfl⟩;refine go 8 ?_;refine mS 2 J ?_;refine go 5 ?_;obtain ⟨m,rfl⟩:∃m,n0=m+1:=⟨n0-1,Y⟩;exact ⟨.inr J,_,(bY A B rw P l (k13) (u13) (e13) (0) (dp)),(bT J (bM J)),aj (.cons _ (.refl _)) (.refl _),⟨acc++[⟨true,x8,.zero⟩],k13,u13,e13,J,hcont _ _ _ _ (by rw [lQ];exact hel.bind ((hr13.map (f:=λ_=>acc++[⟨true,x8,.zero⟩])).eq λh=>by rw [if_neg (by rw [ha10 h];decide)])),hk13,he13,J⟩⟩
  refine go 5 ?_;refine bC J call114 J (tH (_::A) _ _ _ l k0 b0 0 dp hok hk0 he0) ?_;rintro t15 s15 ⟨x15,k15,u15,e15,rfl,hr15,hk15,he15,rfl⟩;refine go 6 ?_;have hel:bh 0 b0 (q9 l k0) ⟨false,.zero,x15⟩ k15 u15 e15:=(hr15.map (f:=λe=>cK.mk false .zero e)).eq λ_=>by unfold q9;rw [if_neg (by rw [ha6 rfl];decide)]
  refine go 2 ?_;refine d9 24 J (bu.agg (.r (.r (.n (.r (.r (.r (.r .nil)))))))) ?_;refine aW J (be (hf:=dU dA dA ⟨false,.zero,x15⟩ J J J) xi ?_);refine aW J (uZ Tryz.t135 104 J J V J J underlying118 aQ J J J J V J V q5 q7 (@length_append _ acc [⟨false,.zero,x15⟩]).symm fi cb (d4 (f:=dA)).symm λv16=>?_);refine go 6 ?_;refine bC J call62 J (mV (_::A) _ _ _ l k15 u15 e15 0 dp [44] V hok hk15) ?_;rintro t17 s17 (⟨rfl,ha17,hm17,rfl,rfl⟩|⟨ha17,rfl,rfl⟩)
  ·refine go 6 ?_;obtain ⟨m,rfl⟩:∃m,n0=m+1:=⟨n0-1,Y⟩;have hin:=EI hok.last hk0;rw [(hel.good rfl).2.1] at hin;have hin1:=hin.1;refine ⟨(acc++[⟨false,.zero,x15⟩],v16,k15+1,u15,0),⟨hm17,x9,by show (acc++[_]).length <= k15+1;simp;omega,λh=>absurd J h,λ_=>⟨m,by show l.length <= m+(k15+1);omega,λz k' b' e' h=>hcont z k' b' e' ?_⟩⟩,by show (if (0:Nat)=0 then _ else _)<(if (0:Nat)=0 then _ else _);rw [if_pos rfl,if_pos rfl];show l.length-(k15+1)+1<l.length-k0+1;omega,az (h1:=(.cons _ (.refl _))) eZ⟩;rw [lQ];refine hel.bind ?_;rw [if_pos ha17];exact h
  refine go 7 ?_;refine bC J call86 J (gZ (_::A) _ _ _ l k15 u15 e15 0 dp [41] V hok hk15 he15) ?_;rintro t20 s20 ⟨x20,k20,u20,e20,rfl,hr20,hk20,he20,rfl⟩;refine go 8 ?_;refine mS 2 J ?_;refine go 5 ?_;obtain ⟨m,rfl⟩:∃m,n0=m+1:=⟨n0-1,Y⟩;exact ⟨.inr J,_,(bY A B rw P l (k20) (u20) (e20) (0) (dp)),(bT J (bM J)),aj (.cons _ (.refl _)) (.refl _),⟨acc++[⟨false,.zero,x15⟩],k20,u20,e20,J,hcont _ _ _ _ (by rw [lQ];exact hel.bind ((hr20.map (f:=λ_=>acc++[⟨false,.zero,x15⟩])).eq λh=>by rw [if_neg (by rw [ha17 h];decide)])),hk20,he20,J⟩⟩
 refine go 7 ?_;refine aC false J (qp h0) (go 14 ?_);refine mS 2 J ?_;refine go 1 ?_;exact ⟨.inr J,_,(bY A B rw P l (k0) (b0) (bm) (0) (dp)),(bT J (bM J)),aj (.refl _) (.refl _),⟨acc,k0,b0,bm,J,hn0 h0,hk0,he0,J⟩⟩
def VF{l:List Tok}{n:aG}{k:Nat}(h:ef l k [40]=false):rV l n k=(fY l [61] k).bind λ_ k=>(oT l k).bind λe k=>kL l (.mk 2 n e .zero [] [] []) k:=by
 unfold rV;by_cases h2:ef l k [61]=true
 ·rw [if_pos h2];unfold fY;rw [if_pos h2];rfl
 rw [if_neg h2];unfold pr o4 fY;rw [if_neg mb,if_neg h2];rfl
def OI{l:List Tok}{n:aG}{k:Nat}(h:ef l k [40]=true):rV l n k=(pr l k).bind λa k=>kL l (.mk 3 n .zero .zero a [] []) k:=by
 unfold rV;rw [if_neg];intro h2;have h3:=(ru h).2;rw [(ru h2).2] at h3
 revert h3;decide
def UD(A B:List aT)(rw:List aS)(P:Nat)(l:List Tok)(k b e dp:Nat)(blk:Nat -> cA (List aL))(hok:gI l)(hk:k<l.length)(he:e<16)(hblk:∀(A B:List aT)(rw:List aS)(P k b e:Nat),k<l.length -> e<16 -> aR prog 67 [aE P] [P] (bY A B rw P l k b e 0 dp) (gy A B rw P l 0 dp (λx=>.c (aB encS x)) e b (blk k))):aR prog 87 [aE P] [P] (bY A B rw P l k b e 0 dp) (gy A B rw P l 0 dp (λx=>.agg (dW x)) e b (mF l blk k)):=by
 have hlen:=hok.len;refine bN 98 func87 ?_;refine go 17 λb1 b2=>?_;refine bC J call62 J (eN (_::_::A) _ _ _ l k b e 0 dp [118,97,114] V hok hk) ?_;rintro t1 s1 (⟨rfl,ha1,hm1,rfl,rfl⟩|⟨ha1,rfl,rfl⟩)
 ·refine go 7 ?_;refine bC J call65 J (lJ (_::_::A) _ _ _ l (k+1) b 0 0 dp hok hm1 V) ?_;rintro t3 s3 ⟨x3,k3,u3,e3,rfl,hr3,hk3,he3,rfl⟩;refine go 9 ?_;refine bC J call86 J (gZ (_::_::A) _ _ _ l k3 u3 e3 0 dp [61] V hok hk3 he3) ?_;rintro t4 s4 ⟨x4,k4,u4,e4,rfl,hr4,hk4,he4,rfl⟩;refine go 5 ?_;refine bC J call114 J (tH (_::_::A) _ _ _ l k4 u4 e4 dp hok hk4 he4) ?_;rintro t5 s5 ⟨x5,k5,u5,e5,rfl,hr5,hk5,he5,rfl⟩;refine go 6 ?_;refine bC J call86 J (gZ (_::_::A) _ _ _ l k5 u5 e5 0 dp [59] V hok hk5 he5) ?_;rintro t6 s6 ⟨x6,k6,u6,e6,rfl,hr6,hk6,he6,rfl⟩;refine go 10 ?_;have hs:bh 0 b (yY l (k+1)) (.mk 1 x3 x5 .zero [] [] []) k6 u6 e6:=by
   unfold yY kL;exact hr3.bind (hr4.bind (hr5.bind (hr6.bind (bh.pure _ _ _ _))))
  exact ⟨.inr J,_,(bY A B rw P l (k6) (u6) (e6) (0) (dp)),(fq (bu.agg (.r (.r (.r (.r (.r (.r (.r (.n (.n (.n (.n .nil)))))))))))) (bT J (cS [_] J J isAgg120 sizeOf120 (cY J J)))),aj (.cons _ (.cons _ (.refl _))) (.refl _),⟨(.mk 1 x3 x5 .zero [] [] []),k6,u6,e6,J,hs.eq (λ_=>by unfold mF;rw [if_pos ha1]),hk6,he6,J⟩⟩
 refine go 7 ?_;refine bC J call62 J (eN (_::_::A) _ _ _ l k b e 0 dp [103,111] V hok hk) ?_;rintro t8 s8 (⟨rfl,ha8,hm8,rfl,rfl⟩|⟨ha8,rfl,rfl⟩)
 ·refine go 7 ?_;refine bC J call65 J (lJ (_::_::A) _ _ _ l (k+1) b 0 0 dp hok hm8 V) ?_;rintro t10 s10 ⟨x10,k10,u10,e10,rfl,hr10,hk10,he10,rfl⟩;refine go 9 ?_;refine bC J call115 J (Ml (_::_::A) _ _ _ l k10 u10 e10 dp hok hk10 he10) ?_;rintro t11 s11 ⟨x11,k11,u11,e11,rfl,hr11,hk11,he11,rfl⟩;refine go 6 ?_;refine bC J call86 J (gZ (_::_::A) _ _ _ l k11 u11 e11 0 dp [59] V hok hk11 he11) ?_;rintro t12 s12 ⟨x12,k12,u12,e12,rfl,hr12,hk12,he12,rfl⟩;refine go 10 ?_;have hs:bh 0 b (AJ l (k+1)) (.mk 4 x10 .zero .zero x11 [] []) k12 u12 e12:=by
   unfold AJ kL;exact hr10.bind (hr11.bind (hr12.bind (bh.pure _ _ _ _)))
  exact ⟨.inr J,_,(bY A B rw P l (k12) (u12) (e12) (0) (dp)),(fq (bu.agg (.r (.r (.r (.r (.r (.n (.r (.n (.r (.n (.n .nil)))))))))))) (bT J (cS [_] J J isAgg120 sizeOf120 (cY J J)))),aj (.cons _ (.cons _ (.refl _))) (.refl _),⟨(.mk 4 x10 .zero .zero x11 [] []),k12,u12,e12,J,hs.eq (λ_=>by unfold mF;rw [if_neg vd,if_pos ha8]),hk12,he12,J⟩⟩
 refine go 7 ?_;refine bC J call62 J (eN (_::_::A) _ _ _ l k b e 0 dp [108,111,99,107] V hok hk) ?_;rintro t14 s14 (⟨rfl,ha14,hm14,rfl,rfl⟩|⟨ha14,rfl,rfl⟩)
 ·refine go 7 ?_;refine bC J call116 J (Do (_::_::A) _ _ _ l (k+1) b 0 dp hok hm14 V) ?_;rintro t16 s16 ⟨x16,k16,u16,e16,rfl,hr16,hk16,he16,rfl⟩;refine go 8 ?_;refine bC J call86 J (gZ (_::_::A) _ _ _ l k16 u16 e16 0 dp [59] V hok hk16 he16) ?_;rintro t17 s17 ⟨x17,k17,u17,e17,rfl,hr17,hk17,he17,rfl⟩;refine go 10 ?_;have hs:bh 0 b (rz l 5 (k+1)) (.mk 5 ax .zero x16 [] [] []) k17 u17 e17:=by
   unfold rz kL;exact hr16.bind (hr17.bind (bh.pure _ _ _ _))
  exact ⟨.inr J,_,(bY A B rw P l (k17) (u17) (e17) (0) (dp)),(fq (bu.agg (.r (.r (.r (.r (.r (.n (.r (.r (.n (.n (.n .nil)))))))))))) (bT J (cS [_] J J isAgg120 sizeOf120 (cY J J)))),aj (.cons _ (.cons _ (.refl _))) (.refl _),⟨(.mk 5 ax .zero x16 [] [] []),k17,u17,e17,J,hs.eq (λ_=>by unfold mF;rw [if_neg vd,if_neg vj,if_pos ha14]),hk17,he17,J⟩⟩
 refine go 7 ?_;refine bC J call62 J (eN (_::_::A) _ _ _ l k b e 0 dp [117,110,108,111,99,107] V hok hk) ?_;rintro t19 s19 (⟨rfl,ha19,hm19,rfl,rfl⟩|⟨ha19,rfl,rfl⟩)
 ·refine go 7 ?_;refine bC J call116 J (Do (_::_::A) _ _ _ l (k+1) b 0 dp hok hm19 V) ?_;rintro t21 s21 ⟨x21,k21,u21,e21,rfl,hr21,hk21,he21,rfl⟩;refine go 8 ?_;refine bC J call86 J (gZ (_::_::A) _ _ _ l k21 u21 e21 0 dp [59] V hok hk21 he21) ?_;rintro t22 s22 ⟨x22,k22,u22,e22,rfl,hr22,hk22,he22,rfl⟩;refine go 10 ?_;have hs:bh 0 b (rz l 6 (k+1)) (.mk 6 ax .zero x21 [] [] []) k22 u22 e22:=by
   unfold rz kL;exact hr21.bind (hr22.bind (bh.pure _ _ _ _))
  exact ⟨.inr J,_,(bY A B rw P l (k22) (u22) (e22) (0) (dp)),(fq (bu.agg (.r (.r (.r (.r (.r (.n (.r (.r (.n (.n (.n .nil)))))))))))) (bT J (cS [_] J J isAgg120 sizeOf120 (cY J J)))),aj (.cons _ (.cons _ (.refl _))) (.refl _),⟨(.mk 6 ax .zero x21 [] [] []),k22,u22,e22,J,hs.eq (λ_=>by unfold mF;rw [if_neg vd,if_neg vj,if_neg CM,if_pos ha19]),hk22,he22,J⟩⟩
 refine go 7 ?_;refine bC J call62 J (eN (_::_::A) _ _ _ l k b e 0 dp [105,102] V hok hk) ?_;rintro t24 s24 (⟨rfl,ha24,hm24,rfl,rfl⟩|⟨ha24,rfl,rfl⟩)
 ·refine go 7 ?_;refine bC J call114 J (tH (_::_::A) _ _ _ l (k+1) b 0 dp hok hm24 V) ?_;rintro t26 s26 ⟨x26,k26,u26,e26,rfl,hr26,hk26,he26,rfl⟩;refine go 9 ?_;refine bC J call67 J (hblk (_::_::A) _ _ _ k26 u26 e26 hk26 he26) ?_;rintro t27 s27 ⟨x27,k27,u27,e27,rfl,hr27,hk27,he27,rfl⟩;refine go 7 ?_;refine bC J call62 J (eN (_::_::A) _ _ _ l k27 u27 e27 0 dp [101,108,115,101] V hok hk27) ?_;rintro t28 s28 (⟨rfl,ha28,hm28,rfl,rfl⟩|⟨ha28,rfl,rfl⟩)
  ·refine go 5 ?_;refine bC J call67 J (hblk (_::_::A) _ _ _ (k27+1) u27 0 hm28 V) ?_;rintro t30 s30 ⟨x30,k30,u30,e30,rfl,hr30,hk30,he30,rfl⟩;refine go 12 ?_;have hs:bh 0 b (uO l blk (k+1)) (.mk 7 ax x26 .zero [] x27 x30) k30 u30 e30:=by
    unfold uO;exact hr26.bind (hr27.bind (by unfold wY;rw [if_pos ha28];exact hr30.map (f:=λf=>aL.mk 7 ax x26 .zero [] x27 f)))
   exact ⟨.inr J,_,(bY A B rw P l (k30) (u30) (e30) (0) (dp)),(fq (bu.agg (.r (.r (.r (.r (.r (.r (.r (.n (.n (.r (.r .nil)))))))))))) (bT J (cS [_] J J isAgg120 sizeOf120 (cY J J)))),aj (.cons _ (.cons _ (.refl _))) (.refl _),⟨(.mk 7 ax x26 .zero [] x27 x30),k30,u30,e30,J,hs.eq Lu,hk30,he30,J⟩⟩
  refine go 13 ?_;have hs:bh 0 b (uO l blk (k+1)) (.mk 7 ax x26 .zero [] x27 []) k27 u27 e27:=by
   unfold uO;exact hr26.bind (hr27.bind ((bh.pure _ _ _ _).eq λh=>by unfold wY;rw [if_neg (by rw [ha28 h];decide)]))
  exact ⟨.inr J,_,(bY A B rw P l (k27) (u27) (e27) (0) (dp)),(fq (bu.agg (.r (.r (.r (.r (.r (.r (.r (.n (.n (.r (.n .nil)))))))))))) (bT J (cS [_] J J isAgg120 sizeOf120 (cY J J)))),aj (.cons _ (.cons _ (.refl _))) (.refl _),⟨(.mk 7 ax x26 .zero [] x27 []),k27,u27,e27,J,hs.eq Lu,hk27,he27,J⟩⟩
 refine go 7 ?_;refine bC J call62 J (eN (_::_::A) _ _ _ l k b e 0 dp [119,104,105,108,101] V hok hk) ?_;rintro t33 s33 (⟨rfl,ha33,hm33,rfl,rfl⟩|⟨ha33,rfl,rfl⟩)
 ·refine go 7 ?_;refine bC J call114 J (tH (_::_::A) _ _ _ l (k+1) b 0 dp hok hm33 V) ?_;rintro t35 s35 ⟨x35,k35,u35,e35,rfl,hr35,hk35,he35,rfl⟩;refine go 8 ?_;refine bC J call67 J (hblk (_::_::A) _ _ _ k35 u35 e35 hk35 he35) ?_;rintro t36 s36 ⟨x36,k36,u36,e36,rfl,hr36,hk36,he36,rfl⟩;refine go 12 ?_;have hs:bh 0 b (zh l blk (k+1)) (.mk 8 ax x35 .zero [] x36 []) k36 u36 e36:=by
   unfold zh;exact hr35.bind (hr36.bind (bh.pure _ _ _ _))
  exact ⟨.inr J,_,(bY A B rw P l (k36) (u36) (e36) (0) (dp)),(fq (bu.agg (.r (.r (.r (.r (.r (.r (.r (.n (.n (.r (.n .nil)))))))))))) (bT J (cS [_] J J isAgg120 sizeOf120 (cY J J)))),aj (.cons _ (.cons _ (.refl _))) (.refl _),⟨(.mk 8 ax x35 .zero [] x36 []),k36,u36,e36,J,hs.eq (λ_=>by unfold mF;rw [if_neg vd,if_neg vj,if_neg CM,if_neg (by rw [ha19 rfl];decide),if_neg (by rw [ha24 rfl];decide),if_pos ha33]),hk36,he36,J⟩⟩
 refine go 7 ?_;refine bC J call62 J (eN (_::_::A) _ _ _ l k b e 0 dp [114,101,116,117,114,110] V hok hk) ?_;rintro t38 s38 (⟨rfl,ha38,hm38,rfl,rfl⟩|⟨ha38,rfl,rfl⟩)
 ·refine go 12 ?_;refine bC J call86 J (gZ (_::_::A) _ _ _ l (k+1) b 0 0 dp [59] V hok hm38 V) ?_;rintro t40 s40 ⟨x40,k40,u40,e40,rfl,hr40,hk40,he40,rfl⟩;refine go 10 ?_;have hs:bh 0 b (Cq l (k+1)) (.mk 9 ax .zero .zero [] [] []) k40 u40 e40:=by
   unfold Cq kL;exact hr40.bind (bh.pure _ _ _ _)
  exact ⟨.inr J,_,(bY A B rw P l (k40) (u40) (e40) (0) (dp)),(fq (bu.agg (.r (.r (.r (.r (.r (.n (.r (.n (.n (.n (.n .nil)))))))))))) (bT J (cS [_] J J isAgg120 sizeOf120 (cY J J)))),aj (.cons _ (.cons _ (.refl _))) (.refl _),⟨(.mk 9 ax .zero .zero [] [] []),k40,u40,e40,J,hs.eq (λ_=>by unfold mF;rw [if_neg vd,if_neg vj,if_neg CM,if_neg (by rw [ha19 rfl];decide),if_neg (by rw [ha24 rfl];decide),if_neg (by rw [ha33 rfl];decide),if_pos ha38]),hk40,he40,J⟩⟩
 refine go 7 ?_;refine bC J call65 J (lJ (_::_::A) _ _ _ l k b e 0 dp hok hk he) ?_;rintro t42 s42 ⟨x42,k42,u42,e42,rfl,hr42,hk42,he42,rfl⟩;refine go 10 ?_;refine bC J call60 J (mO (_::_::A) _ _ _ l k42 u42 e42 0 dp [40] V hok hk42) ?_;rintro t43 s43 (⟨rfl,ha43,rfl,rfl⟩|⟨ha43,rfl,rfl⟩)
 ·refine go 5 ?_;refine bC J call115 J (Ml (_::_::A) _ _ _ l k42 u42 0 dp hok hk42 V) ?_;rintro t45 s45 ⟨x45,k45,u45,e45,rfl,hr45,hk45,he45,rfl⟩;refine go 8 ?_;refine bC J call86 J (gZ (_::_::A) _ _ _ l k45 u45 e45 0 dp [59] V hok hk45 he45) ?_;rintro t46 s46 ⟨x46,k46,u46,e46,rfl,hr46,hk46,he46,rfl⟩;refine go 10 ?_;have hs:bh e b (tE l k) (.mk 3 x42 .zero .zero x45 [] []) k46 u46 e46:=by
   unfold tE;exact hr42.bind (by rw [OI ha43];unfold kL;exact hr45.bind (hr46.bind (bh.pure _ _ _ _)))
  exact ⟨.inr J,_,(bY A B rw P l (k46) (u46) (e46) (0) (dp)),(fq (bu.agg (.r (.r (.r (.r (.r (.n (.r (.n (.r (.n (.n .nil)))))))))))) (bT J (cS [_] J J isAgg120 sizeOf120 (cY J J)))),aj (.cons _ (.cons _ (.refl _))) (.refl _),⟨(.mk 3 x42 .zero .zero x45 [] []),k46,u46,e46,J,hs.eq HW,hk46,he46,J⟩⟩
 refine go 6 ?_;refine bC J call86 J (gZ (_::_::A) _ _ _ l k42 u42 e42 0 dp [61] V hok hk42 he42) ?_;rintro t48 s48 ⟨x48,k48,u48,e48,rfl,hr48,hk48,he48,rfl⟩;refine go 4 ?_;refine bC J call114 J (tH (_::_::A) _ _ _ l k48 u48 e48 dp hok hk48 he48) ?_;rintro t49 s49 ⟨x49,k49,u49,e49,rfl,hr49,hk49,he49,rfl⟩;refine go 6 ?_;refine bC J call86 J (gZ (_::_::A) _ _ _ l k49 u49 e49 0 dp [59] V hok hk49 he49) ?_;rintro t50 s50 ⟨x50,k50,u50,e50,rfl,hr50,hk50,he50,rfl⟩;refine go 10 ?_;have hs:bh e b (tE l k) (.mk 2 x42 x49 .zero [] [] []) k50 u50 e50:=by
  unfold tE;exact hr42.bind (bh.eq (r:=(fY l [61] _).bind λ_ k=>(oT l k).bind λe k=>kL l (.mk 2 x42 e .zero [] [] []) k) (by unfold kL;exact hr48.bind (hr49.bind (hr50.bind (bh.pure _ _ _ _)))) λh=>(VF (ha43 h)).symm)
 exact ⟨.inr J,_,(bY A B rw P l (k50) (u50) (e50) (0) (dp)),(fq (bu.agg (.r (.r (.r (.r (.r (.r (.r (.n (.n (.n (.n .nil)))))))))))) (bT J (cS [_] J J isAgg120 sizeOf120 (cY J J)))),aj (.cons _ (.cons _ (.refl _))) (.refl _),⟨(.mk 2 x42 x49 .zero [] [] []),k50,u50,e50,J,hs.eq HW,hk50,he50,J⟩⟩
def NR(A B:List aT)(rw:List aS)(P:Nat)(l:List Tok)(k b e:Nat)(hok:gI l)(hk:k<l.length)(he:e<16):aR prog 67 [aE P] [P] (bY A B rw P l k b e 0 24) (gy A B rw P l 0 24 (λx=>.c (aB encS x)) e b (j' l 0 k)):=by
 have hlen:=hok.len;refine bN 47 func67 ?_;refine go 9 ?_;refine bC J call60 J (mO (A) _ _ _ l k b e 0 24 [123] V hok hk) ?_;rintro t1 s1 (⟨rfl,ha1,rfl,rfl⟩|⟨ha1,rfl,rfl⟩);focus
  refine go 5 ?_;refine aC true J jp (go 6 ?_);refine bC J call61 J (jG (A) _ _ _ l k b 0 0 24 3) ?_;rintro t3 s3 ⟨u3,e3,hf3,rfl,rfl⟩;obtain ⟨rfl,rfl⟩:=hf3.1 rfl;refine go 5 ?_;refine bC J call86 J (gZ (A) _ _ _ l k k 3 0 24 [123] V hok hk V) ?_;rintro t4 s4 ⟨x4,k4,u4,e4,rfl,hr4,hk4,he4,rfl⟩;refine go 8 ?_;refine bJ J (go 12 ?_);have hbad:e4≠0 /\ bh 0 b (j' l 0 k) [] k4 u4 e4:=by
   rcases hr4 with ⟨_,rfl,rfl⟩|⟨h,_⟩
   ·exact ⟨V,.err _ _ _ _ _ (by unfold j';rw [if_pos ha1]) V⟩
   exact absurd h V
  refine fZ 120 11 ?_;refine ff (λg:List aL×aM×Nat×Nat×Nat=>(⟨47,aO g.2.1++[P],⟨A++⟨P,144,[aB dO l,aA (((g.2.2.1):Nat):Int),aA (((g.2.2.2.1):Nat):Int),aA (((g.2.2.2.2):Nat):Int),am 0,aA (((25):Nat):Int)]⟩::B,⟨g.2.1,120,11,(g.1).length,(g.1).flatMap encS⟩::rw⟩,[(3,au g.2.1),(0,aE P)]⟩:AS)) (λg=>g.2.2.1<l.length /\ g.2.2.2.2<16 /\ g.2.2.2.2≠0 /\ bh 0 b (j' l 0 k) g.1 g.2.2.1 g.2.2.2.1 g.2.2.2.2) (λg=>if g.2.2.2.2=0 then l.length-g.2.2.1+1 else 0) ([],.slice none 0 0,k4,u4,e4) (az (λ_ h=>h)) ⟨hk4,he4,hbad.1,hbad.2⟩ ?_
 rotate_left;refine go 15 ?_;refine bC J call86 J (gZ (A) _ _ _ l k b e 0 24 [123] V hok hk he) ?_;rintro t7 s7 ⟨x7,k7,u7,e7,rfl,hr7,hk7,he7,rfl⟩;refine go 8 ?_;refine bJ J (go 12 ?_);have hbad:e7≠0 /\ bh e b (j' l 0 k) [] k7 u7 e7:=by
  rcases hr7 with ⟨h,rfl,rfl⟩|⟨h,h2⟩
  ·exact ⟨h,.skip h _ _ _⟩
  subst h;have hq:=ha1 J;have h9:fY l [123] k=.err k 4:=by unfold fY;rw [if_neg (by rw [hq];decide)]
  rw [h9] at h2;rcases h2 with ⟨h2,_,_⟩|⟨h2,h3⟩
  ·cases h2
  cases h2;exact ⟨h3,.err _ _ _ _ _ (by unfold j';rw [if_neg (by rw [hq];decide)]) h3⟩
 refine fZ 120 11 ?_;refine ff (λg:List aL×aM×Nat×Nat×Nat=>(⟨47,aO g.2.1++[P],⟨A++⟨P,144,[aB dO l,aA (((g.2.2.1):Nat):Int),aA (((g.2.2.2.1):Nat):Int),aA (((g.2.2.2.2):Nat):Int),am 0,aA (((25):Nat):Int)]⟩::B,⟨g.2.1,120,11,(g.1).length,(g.1).flatMap encS⟩::rw⟩,[(3,au g.2.1),(0,aE P)]⟩:AS)) (λg=>g.2.2.1<l.length /\ g.2.2.2.2<16 /\ g.2.2.2.2≠0 /\ bh e b (j' l 0 k) g.1 g.2.2.1 g.2.2.2.1 g.2.2.2.2) (λg=>if g.2.2.2.2=0 then l.length-g.2.2.1+1 else 0) ([],.slice none 0 0,k7,u7,e7) (az (λ_ h=>h)) ⟨hk7,he7,hbad.1,hbad.2⟩ ?_;all_goals
  rintro ⟨acc,v0,k0,b0,bm⟩ ⟨hk0,he0,hz0,hn0⟩;dsimp only at hk0 he0 hz0 hn0;show bo prog _ (⟨47,aO v0++[P],⟨A++⟨P,144,[aB dO l,aA (((k0):Nat):Int),aA (((b0):Nat):Int),aA (((bm):Nat):Int),am 0,aA (((25):Nat):Int)]⟩::B,⟨v0,120,11,(acc).length,(acc).flatMap encS⟩::rw⟩,[(3,au v0),(0,aE P)]⟩:AS) _;have h0:=hz0;refine go 7 ?_;refine aC false J (qp h0) (go 19 ?_);refine aF J (jE (hr:=J) ((24:Nat):Int)) (go 11 ?_);refine mS 2 J ?_;refine go 1 ?_;exact ⟨.inr J,_,(bY A B rw P l (k0) (b0) (bm) (0) (24)),(bT J (bM J)),aj (.refl _) (.refl _),⟨acc,k0,b0,bm,J,hn0,hk0,he0,J⟩⟩
def VU(A B:List aT)(rw:List aS)(P:Nat)(l:List Tok)(k b e dp:Nat)(st:Nat -> cA aL)(hdp:dp<24)(hin:∀k,k<l.length -> (st k).In l k)(hstm:∀(A B:List aT)(rw:List aS)(P k b e:Nat),k<l.length -> e<16 -> aR prog 87 [aE P] [P] (bY A B rw P l k b e 0 (dp+1)) (gy A B rw P l 0 (dp+1) (λx=>.agg (dW x)) e b (st k)))(hok:gI l)(hk:k<l.length)(he:e<16):aR prog 67 [aE P] [P] (bY A B rw P l k b e 0 dp) (gy A B rw P l 0 dp (λx=>.c (aB encS x)) e b ((fY l [123] k).bind λ_ k=>ji l st l.length [] k)):=by
 have hlen:=hok.len;refine bN 47 func67 ?_;refine go 9 ?_;refine bC J call60 J (mO (A) _ _ _ l k b e 0 dp [123] V hok hk) ?_;rintro t1 s1 (⟨rfl,ha1,rfl,rfl⟩|⟨ha1,rfl,rfl⟩);focus
  refine go 5 ?_;refine aC false J (by rw [show eU .eql ((dp:Nat):Int) 24=some (decide (dp=24)) from pm (n:=24),decide_eq_false Y]) (go 9 ?_);refine bC J call86 J (gZ (A) _ _ _ l k b 0 0 dp [123] V hok hk V) ?_;rintro t3 s3 ⟨x3,k3,u3,e3,rfl,hr3,hk3,he3,rfl⟩;refine go 8 ?_;refine bJ J (go 12 ?_);refine fZ 120 11 ?_;refine ff (λg:List aL×aM×Nat×Nat×Nat=>(⟨47,aO g.2.1++[P],⟨A++⟨P,144,[aB dO l,aA (((g.2.2.1):Nat):Int),aA (((g.2.2.2.1):Nat):Int),aA (((g.2.2.2.2):Nat):Int),am 0,aA (((dp+1):Nat):Int)]⟩::B,⟨g.2.1,120,11,(g.1).length,(g.1).flatMap encS⟩::rw⟩,[(3,au g.2.1),(0,aE P)]⟩:AS)) (λg=>g.2.2.1<l.length /\ g.2.2.2.2<16 /\ (g.2.2.2.2=0 -> g.1.length <= g.2.2.1) /\ (g.2.2.2.2≠0 -> bh 0 b ((fY l [123] k).bind λ_ k=>ji l st l.length [] k) g.1 g.2.2.1 g.2.2.2.1 g.2.2.2.2) /\ (g.2.2.2.2=0 -> ∃n,l.length <= n+g.2.2.1 /\ ∀z k' b' e',bh 0 g.2.2.2.1 (ji l st n g.1 g.2.2.1) z k' b' e' -> bh 0 b ((fY l [123] k).bind λ_ k=>ji l st l.length [] k) z k' b' e')) (λg=>if g.2.2.2.2=0 then l.length-g.2.2.1+1 else 0) ([],.slice none 0 0,k3,u3,e3) (az (λ_ h=>h)) ⟨hk3,he3,λ_=>d2 _,λh=>hr3.bind (bh.skip h _ _ _),λh=>⟨l.length,xN _ _,λz k' b' e' h2=>hr3.bind (by rw [show e3=0 from h];exact h2)⟩⟩ ?_;rintro ⟨acc,v0,k0,b0,bm⟩ ⟨hk0,he0,ha0,hn0,hc0⟩;dsimp only at hk0 he0 ha0 hn0 hc0;show bo prog _ (⟨47,aO v0++[P],⟨A++⟨P,144,[aB dO l,aA (((k0):Nat):Int),aA (((b0):Nat):Int),aA (((bm):Nat):Int),am 0,aA (((dp+1):Nat):Int)]⟩::B,⟨v0,120,11,(acc).length,(acc).flatMap encS⟩::rw⟩,[(3,au v0),(0,aE P)]⟩:AS) _;by_cases h0:bm=0
  ·subst h0;have ha1:=ha0 J;obtain ⟨n0,hn1,hcont⟩:=hc0 rfl;refine go 7 ?_;refine aC true J jp (go 2 ?_);refine bC J call62 J (mV (A) _ _ _ l k0 b0 0 0 (dp+1) [125] V hok hk0) ?_;rintro t4 s4 (⟨-,ha4,hm4,rfl,rfl⟩|⟨ha4,rfl,rfl⟩)
   ·refine go 16 ?_;refine aF J (jE ((dp:Nat):Int)) (go 11 ?_);refine mS 2 J ?_;refine go 1 ?_;obtain ⟨m,rfl⟩:∃m,n0=m+1:=⟨n0-1,Y⟩;exact ⟨.inr J,_,(bY A B rw P l (k0+1) (b0) (0) (0) (dp)),(bT J (bM J)),aj (.refl _) (.refl _),⟨acc,k0+1,b0,0,J,hcont _ _ _ _ (by rw [ji,if_pos ha4];exact .ok _ _ _ rfl),hm4,V,J⟩⟩
   refine go 11 ?_;refine bC J call87 J (hstm (A) _ _ _ k0 b0 0 hk0 he0) ?_;rintro t7 s7 ⟨x7,k7,u7,e7,rfl,hr7,hk7,he7,rfl⟩;refine aW J (be (hf:=dU encS dW x7 (mg _) J J) zC ?_);refine aW J (uZ Tryz.t120 192 J J V J J underlying65 aQ J J J J V Gv V q5 q7 (@length_append _ acc [x7]).symm fi cb (d4 (f:=encS)).symm λv8=>?_);refine go 3 ?_;obtain ⟨m,rfl⟩:∃m,n0=m+1:=⟨n0-1,Y⟩;have hst:∀z k' b' e',bh e7 u7 (ji l st m (acc++[x7]) k7) z k' b' e' -> bh 0 b ((fY l [123] k).bind λ_ k=>ji l st l.length [] k) z k' b' e':=λz k' b' e' h=>hcont z k' b' e' (by rw [ji,if_neg EZ];exact hr7.bind h);have hgo:e7=0 -> k0<k7:=λh=>by have h9:=hin k0 hk0;rw [(hr7.good h).2.1] at h9;exact h9.1
   refine ⟨(acc++[x7],v8,k7,u7,e7),⟨hk7,he7,λh=>?_,λh=>hst _ _ _ _ (.skip h _ _ _),λh=>⟨m,?_,λz k' b' e' h2=>hst _ _ _ _ ?_⟩⟩,?_,az eZ⟩
   ·have:=hgo h;show (acc++[_]).length <= k7;simp;omega
   ·have:=hgo h;show l.length <= m+k7;omega
   ·rw [show e7=0 from h];exact h2
   show (if e7=0 then _ else _)<(if (0:Nat)=0 then _ else _);by_cases h:e7=0
   ·have:=hgo h;rw [if_pos h,if_pos rfl];show l.length-k7+1<l.length-k0+1;omega
   rw [if_neg h,if_pos rfl];show 0<l.length-k0+1;omega
 rotate_left;refine go 15 ?_;refine bC J call86 J (gZ (A) _ _ _ l k b e 0 dp [123] V hok hk he) ?_;rintro t11 s11 ⟨x11,k11,u11,e11,rfl,hr11,hk11,he11,rfl⟩;refine go 8 ?_;refine bJ J (go 12 ?_);refine fZ 120 11 ?_;refine ff (λg:List aL×aM×Nat×Nat×Nat=>(⟨47,aO g.2.1++[P],⟨A++⟨P,144,[aB dO l,aA (((g.2.2.1):Nat):Int),aA (((g.2.2.2.1):Nat):Int),aA (((g.2.2.2.2):Nat):Int),am 0,aA (((dp+1):Nat):Int)]⟩::B,⟨g.2.1,120,11,(g.1).length,(g.1).flatMap encS⟩::rw⟩,[(3,au g.2.1),(0,aE P)]⟩:AS)) (λg=>g.2.2.1<l.length /\ g.2.2.2.2<16 /\ (g.2.2.2.2=0 -> g.1.length <= g.2.2.1) /\ (g.2.2.2.2≠0 -> bh e b ((fY l [123] k).bind λ_ k=>ji l st l.length [] k) g.1 g.2.2.1 g.2.2.2.1 g.2.2.2.2) /\ (g.2.2.2.2=0 -> ∃n,l.length <= n+g.2.2.1 /\ ∀z k' b' e',bh 0 g.2.2.2.1 (ji l st n g.1 g.2.2.1) z k' b' e' -> bh e b ((fY l [123] k).bind λ_ k=>ji l st l.length [] k) z k' b' e')) (λg=>if g.2.2.2.2=0 then l.length-g.2.2.1+1 else 0) ([],.slice none 0 0,k11,u11,e11) (az (λ_ h=>h)) ⟨hk11,he11,λ_=>d2 _,λh=>hr11.bind (bh.skip h _ _ _),λh=>⟨l.length,xN _ _,λz k' b' e' h2=>hr11.bind (by rw [show e11=0 from h];exact h2)⟩⟩ ?_;rintro ⟨acc,v0,k0,b0,bm⟩ ⟨hk0,he0,ha0,hn0,hc0⟩;dsimp only at hk0 he0 ha0 hn0 hc0;show bo prog _ (⟨47,aO v0++[P],⟨A++⟨P,144,[aB dO l,aA (((k0):Nat):Int),aA (((b0):Nat):Int),aA (((bm):Nat):Int),am 0,aA (((dp+1):Nat):Int)]⟩::B,⟨v0,120,11,(acc).length,(acc).flatMap encS⟩::rw⟩,[(3,au v0),(0,aE P)]⟩:AS) _;by_cases h0:bm=0
 ·subst h0;have ha1:=ha0 J;obtain ⟨n0,hn1,hcont⟩:=hc0 rfl;refine go 7 ?_;refine aC true J jp (go 2 ?_);refine bC J call62 J (mV (A) _ _ _ l k0 b0 0 0 (dp+1) [125] V hok hk0) ?_;rintro t12 s12 (⟨-,ha12,hm12,rfl,rfl⟩|⟨ha12,rfl,rfl⟩)
  ·refine go 16 ?_;refine aF J (jE ((dp:Nat):Int)) (go 11 ?_);refine mS 2 J ?_;refine go 1 ?_;obtain ⟨m,rfl⟩:∃m,n0=m+1:=⟨n0-1,Y⟩;exact ⟨.inr J,_,(bY A B rw P l (k0+1) (b0) (0) (0) (dp)),(bT J (bM J)),aj (.refl _) (.refl _),⟨acc,k0+1,b0,0,J,hcont _ _ _ _ (by rw [ji,if_pos ha12];exact .ok _ _ _ rfl),hm12,V,J⟩⟩
  refine go 11 ?_;refine bC J call87 J (hstm (A) _ _ _ k0 b0 0 hk0 he0) ?_;rintro t15 s15 ⟨x15,k15,u15,e15,rfl,hr15,hk15,he15,rfl⟩;refine aW J (be (hf:=dU encS dW x15 (mg _) J J) zC ?_);refine aW J (uZ Tryz.t120 192 J J V J J underlying65 aQ J J J J V Gv V q5 q7 (@length_append _ acc [x15]).symm fi cb (d4 (f:=encS)).symm λv16=>?_);refine go 3 ?_;obtain ⟨m,rfl⟩:∃m,n0=m+1:=⟨n0-1,Y⟩;have hst:∀z k' b' e',bh e15 u15 (ji l st m (acc++[x15]) k15) z k' b' e' -> bh e b ((fY l [123] k).bind λ_ k=>ji l st l.length [] k) z k' b' e':=λz k' b' e' h=>hcont z k' b' e' (by rw [ji,if_neg (by rw [ha12 rfl];decide)];exact hr15.bind h);have hgo:e15=0 -> k0<k15:=λh=>by have h9:=hin k0 hk0;rw [(hr15.good h).2.1] at h9;exact h9.1
  refine ⟨(acc++[x15],v16,k15,u15,e15),⟨hk15,he15,λh=>?_,λh=>hst _ _ _ _ (.skip h _ _ _),λh=>⟨m,?_,λz k' b' e' h2=>hst _ _ _ _ ?_⟩⟩,?_,az eZ⟩
  ·have:=hgo h;show (acc++[_]).length <= k15;simp;omega
  ·have:=hgo h;show l.length <= m+k15;omega
  ·rw [show e15=0 from h];exact h2
  show (if e15=0 then _ else _)<(if (0:Nat)=0 then _ else _);by_cases h:e15=0
  ·have:=hgo h;rw [if_pos h,if_pos rfl];show l.length-k15+1<l.length-k0+1;omega
  rw [if_neg h,if_pos rfl];show 0<l.length-k0+1;omega
 all_goals
  refine go 7 ?_;refine aC false J (qp h0) (go 19 ?_);refine aF J (jE ((dp:Nat):Int)) (go 11 ?_);refine mS 2 J ?_;refine go 1 ?_;exact ⟨.inr J,_,(bY A B rw P l (k0) (b0) (bm) (0) (dp)),(bT J (bM J)),aj (.refl _) (.refl _),⟨acc,k0,b0,bm,J,hn0 h0,hk0,he0,J⟩⟩
def Gb(l:List Tok)(hok:gI l):∀(d:Nat),d <= 24 -> ∀(A B:List aT)(rw:List aS)(P:Nat)(k b e:Nat),k<l.length -> e<16 -> aR prog 67 [aE P] [P] (bY A B rw P l k b e 0 (24-d)) (gy A B rw P l 0 (24-d) (λx=>.c (aB encS x)) e b (j' l d k))
 |0,_,A,B,rw,P,k,b,e,hk,he=>NR A B rw P l k b e hok hk he
 |d+1,hd,A,B,rw,P,k,b,e,hk,he=>by
  have hb:∀k,k<l.length -> (j' l d k).In l k:=λk hk=>BR hok.last d k hk;have h:=VU A B rw P l k b e (24-(d+1)) (mF l (j' l d)) Y (λk hk=>J9 hok.last hb hk) (λA B rw P k b e hk he=>by
   have h9:=UD A B rw P l k b e (24-(d+1)+1) (j' l d) hok hk he (λA B rw P k b e hk he=>by
    have h8:=Gb l hok d Y A B rw P k b e hk he;have aa:24-(d+1)+1=24-d:=Y;rw [aa];exact h8)
   exact h9) hok hk he
  exact h
end
end Go.Proofs.YtjgeihmhppadaaaGreatDoor
