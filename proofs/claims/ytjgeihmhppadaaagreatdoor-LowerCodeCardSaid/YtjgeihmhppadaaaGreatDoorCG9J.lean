import Derived.Test.YtjgeihmhppadaaaGreatDoorCG8J
set_option linter.all false
set_option synthInstance.maxHeartbeats 1000000
set_option synthInstance.maxSize 1000000
set_option maxHeartbeats 1600000
set_option maxRecDepth 100000
namespace Go.Proofs.YtjgeihmhppadaaaGreatDoor
open Go.Proofs.Tryz
open List (length_append length_cons length_nil mem_append mem_cons not_mem_nil append_assoc getElem_mem take_of_length_le)
section
open Go.RowKit
def N7{D:Nat}{x:aL}(h:fC D x=true)(hk:x.kind=7∨x.kind=8):cn (D+1) x.thn=true /\ cn (D+1) x.els=true:=by
 obtain ⟨k,n,e,r,args,t,el⟩:=x;rw [fC] at h;simp only [cz,lT,decide_eq_true_eq] at h;obtain ⟨⟨-,h7⟩,h8⟩:=h;have hk:k=7∨k=8:=hk;rw [if_pos hk] at h7;refine ⟨h7,?_⟩;rcases h8 with h|h
 ·obtain rfl:el=[]:=h_.1 h;show cn (D+1) []=true;rw [sE] at h7⊢;simp only [cz,List.all_nil,and_true] at h7⊢;exact h7.1
 exact h.2
def CF:∀(N:Nat)(l:List aL)(D:Nat),N <= 9000000 -> bQ l <= N -> cn D l=true -> fA l -> ∀(A B:List aT)(W:Nat)(a:Option Addr)(v:aM)(bs:List UInt8)(rw:List aS),fc W a -> bs.length+(bH (tabs (D+1)) l).length <= 100000000000000 -> aR prog 125 [cC (aE W),.c (aB encS l)] (W::aO v) (cm A W D a v bs B rw) λt s'=>t=.tup [] /\ ∃a' v',fc W a' /\ s'=cm A W D a' v' (bs++bH (tabs (D+1)) l) B rw
 |0,l,D,hN,hw,hok,hs,A,B,W,a,v,bs,rw,ha,hb=>FH l A B W D a v bs rw ha (by rw [sE] at hok;simp only [cz,decide_eq_true_eq] at hok;omega) pP hb λk hk=>absurd (nY l) Y
 |N+1,l,D,hN,hw,hok,hs,A,B,W,a,v,bs,rw,ha,hb=>by
  have hok1:=hok;rw [sE] at hok1;simp only [cz,decide_eq_true_eq] at hok1;obtain ⟨hD,hall⟩:=hok1;refine FH l A B W D a v bs rw ha Y pP hb λk hk A B W a v bs rw ha hb=>?_;have hst:=d3.1 hall _ (getElem_mem hk);have hwk:=pE l k hk;have hwp:=hwk;rw [f6] at hwp;have hsk:=sA _ hs _ (getElem_mem hk);obtain ⟨-,-,-,-,hsth,hsf⟩:=pz hsk;refine Ub l[k] A B W (D+1) a v bs rw ha D hst hsk Y Y hb λhkind A B W a v bs rw ha hb=>?_;obtain ⟨o1,o2⟩:=N7 hst hkind;exact Oo l[k] A B W (D+1) a v bs rw ha D hst hsk Y Y hb hkind (λA B W a v bs rw ha hb=>CF N _ (D+1) Y Y o1 hsth A B W a v bs rw ha hb) (λA B W a v bs rw ha hb=>CF N _ (D+1) Y Y o2 hsf A B W a v bs rw ha hb)
def UO(l:List aL)(A B:List aT)(W m:Nat)(a:Option Addr)(v:aM)(bs:List UInt8)(rw:List aS)(ha:fc W a)(hm:m=0)(hok:cn 0 l=true)(hs:fA l)(hw:bQ l <= 9000000)(hb:bs.length+(bH [9] l).length <= 100000000000000):aR prog 125 [cC (aE W),.c (aB encS l)] (W::aO v) (cm A W m a v bs B rw) λt s'=>t=.tup [] /\ ∃a' v',fc W a' /\ s'=cm A W m a' v' (bs++bH [9] l) B rw:=by
 subst hm;exact CF _ l 0 hw (bW _) hok hs A B W a v bs rw ha hb
section
variable {m:Nat}
theorem M3{g:bw}(hm:m=0)(h:g.init=0):dF m [⟨#[118,97,114,32]⟩,g.name,⟨#[59]⟩]=cJ g:=by
 subst hm;unfold cJ dF;rw [if_pos h];simp only [cd,fg,iL,kO,append_assoc];rfl
theorem Jy{g:bw}(hm:m=0)(h:¬g.init=0):dF m [⟨#[118,97,114,32]⟩,g.name,⟨#[32,61,32]⟩,bytes (eM g.init),⟨#[59]⟩]=cJ g:=by
 subst hm;unfold cJ dF;rw [if_neg h];simp only [cd,fg,iL,kO,mT,append_assoc];rfl
theorem Gt{x:cq}(hm:m=0)(h:x.reentrant=true)(h0:¬0<x.size):dF m [⟨#[114,109,117,116,101,120,32]⟩,x.name,⟨#[59]⟩]=cX x:=by
 subst hm;unfold cX dF;rw [if_pos h,if_neg h0];simp only [cd,fg,iL,kO,append_assoc];rfl
theorem Hp{x:cq}(hm:m=0)(h:x.reentrant=false)(h0:¬0<x.size):dF m [⟨#[109,117,116,101,120,32]⟩,x.name,⟨#[59]⟩]=cX x:=by
 subst hm;unfold cX dF;rw [if_neg mb,if_neg h0];simp only [cd,fg,iL,kO,append_assoc];rfl
theorem Kf{x:cq}(hm:m=0)(h:x.reentrant=false)(h0:0<x.size):dF m [⟨#[109,117,116,101,120,32]⟩,x.name,⟨#[91]⟩,bytes (eM x.size),⟨#[93,59]⟩]=cX x:=by
 subst hm;unfold cX dF;rw [if_neg mb,if_pos h0];simp only [cd,fg,iL,kO,mT,append_assoc];rfl
theorem Hm{f:bE}(hm:m=0):dF m [⟨#[102,117,110,99,32]⟩,f.name,⟨#[40]⟩,bytes (ct eF f.params),⟨#[41,32,123]⟩]++bH [9] f.body++dF m [⟨#[125]⟩]=funcText f:=by
 subst hm;unfold funcText dF;simp only [cd,fg,iL,kO,mT,append_assoc];rfl
end
def L3{x:cq}(h:g_ x=true)(hr:x.reentrant=true):¬0<x.size:=λh0=>by
 unfold g_ at h;rw [hr,decide_eq_true h0] at h;simp at h
def ul{bs:List UInt8}{m:Nat}{ps:List aG}{v:aM}:oh (bs++dF m ps) v:=λh=>absurd h (Uh bs m ps)
def oS{x y:List UInt8}{v:aM}(h:x=y)(hz:oh x v):oh y v:=h▸hz
def Ei{α:Type}(f:α -> List UInt8)(l:List α)(k:Nat)(h:k<l.length):(((l.take k).map f).flatten).length+(f l[k]).length <= ((l.map f).flatten).length:=by
 have h1:=uP f l (k+1);rw [lD f l k h,length_append] at h1;exact h1
def iO(x:bp):ByteArray:=bytes (eF x)
def QM{x:bp}(h:x.mutex=true):bytes ([109,117,116,101,120,32]++x.name.data.toList)=iO x:=by unfold iO;rw [BC h]
def PH{x:bp}(h:x.mutex=false):x.name=iO x:=by unfold iO;rw [B_ h];exact back _
def Ow(l:List bp)(hN:l.length <= 10000000)(hlen:(ct eF l).length <= 100000000000000)(s:aH):aR prog 124 [.c (.sl (l.map iO).length ((l.map iO).map λx=>ae x)),cB ⟨#[44,32]⟩] [] s λt s'=>t=cB (bytes (ct eF l)) /\ s'=s:=by
 have hmap:(l.map iO).map (·.data.toList)=l.map eF:=E6
 have h:=Mx (l.map iO) ⟨#[44,32]⟩ (by rw [fW];exact hN) (by rw [hmap];rw [show (⟨#[44,32]⟩:aG).data.toList=[44,32] from rfl,yw];exact hlen) s;rw [hmap,show (⟨#[44,32]⟩:aG).data.toList=[44,32] from rfl,yw] at h;exact h
def V0(p:aZ)(A B:List aT)(W m:Nat)(a:Option Addr)(v:aM)(bs:List UInt8)(rw:List aS)(ha:fc W a)(hz:oh bs v)(hm:m=0)(hv:iR p=true)(hs:p.sane)(hw:p.wt <= 9000000)(hb:bs.length+(gG p).length <= 100000000000000):aR prog 92 [cC (aE W),.agg (eA p)] (W::aO v) (cm A W m a v bs B rw) λt s'=>t=.tup [] /\ ∃a' v',(fc W a' /\ oh (bs++gG p) v') /\ s'=cm A W m a' v' (bs++gG p) B rw:=by
 have hb1:=hb;unfold gG at hb1;simp only [length_append] at hb1;have hv0:=hv;unfold iR at hv;simp only [cz,d3,decide_eq_true_eq] at hv;obtain ⟨⟨⟨hcnt,hvg⟩,hvm⟩,hvf⟩:=hv;have hv:True /\ (∀x∈p.mutexes,g_ x=true) /\ True:=⟨trivial,hvm,trivial⟩;unfold aZ.wt at hw;refine bN 113 func92 ?_;refine go 15 λb1=>?_;refine ir (α:=Option Addr×aM) (λk g=>fc W g.1 /\ oh (bs++((p.globals.take k).map cJ).flatten) g.2) (p.globals.length) 16 (λg=>aO g.2++[W]) (λk g=>cm (⟨b1,27,(eA p)⟩::A) W m g.1 g.2 (bs++((p.globals.take k).map cJ).flatten) B rw) (λk=>[(0,cC (aE W)),(3,aE b1),(14,.c (aB ak p.globals)),(15,aX p.globals.length)]) (a,v) ⟨ha,oS (aK:bs=(bs++((p.globals.take 0).map cJ).flatten)) hz⟩ (lV (h:=ao J) (.refl _) (iC (A:=(_::A)) (aK:bs=(bs++((p.globals.take 0).map cJ).flatten)))) ?_;rintro k ⟨a1,v1⟩ hk hC1;dsimp only at hC1
 try dsimp only
 obtain ⟨hC1,hZ⟩:=hC1;refine go 2 ?_;by_cases h2:((k:Nat):Int)<((p.globals.length:Nat):Int)
 ·refine aC true J (ck h2) (go 10 ?_);have hkl:k<p.globals.length:=Y;have hgs:=hs.globals _ (getElem_mem hkl);have hcn:=Ei cJ p.globals k hkl;refine aF J (bS ak ak p.globals nD (λ_=>J) k J J J J Y V runUnderlying23 sizeOf63) (go 10 λb2=>?_);by_cases h4:p.globals[k].init=0
  ·refine aC true J (bg h4) (go 5 ?_);have hle:=congrArg List.length (M3 (g:=p.globals[k]) hm Y);refine go 3 ?_;refine aW J (be (r:=cZ [(⟨#[118,97,114,32]⟩:aG),p.globals[k].name,(⟨#[59]⟩:aG)]) (hps:=(.cons J (.cons J (.cons J .nil)))) sO ?_);refine aW J (jS J call122 J (kA [(⟨#[118,97,114,32]⟩:aG),p.globals[k].name,(⟨#[59]⟩:aG)] (_::_::A) B W m a1 v1 (bs++((p.globals.take k).map cJ).flatten) rw hC1 (ez J) ig) aK cb jV λa6 v6 hC6=>?_);refine go 7 ?_;refine bJ J (go 2 ?_);exact ⟨Y,(a6,v6),⟨hC6,oS (Kq:((bs++((p.globals.take k).map cJ).flatten)++dF m [(⟨#[118,97,114,32]⟩:aG),p.globals[k].name,(⟨#[59]⟩:aG)])=(bs++((p.globals.take (k+1)).map cJ).flatten)) ul⟩,lV (.cons _ (.refl _)) (iC (A:=(_::A)) (Kq:((bs++((p.globals.take k).map cJ).flatten)++dF m [(⟨#[118,97,114,32]⟩:aG),p.globals[k].name,(⟨#[59]⟩:aG)])=(bs++((p.globals.take (k+1)).map cJ).flatten)))⟩
  refine aC false J (bZ h4) (go 5 ?_);refine b_ [b2,b1] ?_;have hle:=congrArg List.length (Jy (g:=p.globals[k]) hm Y);refine aY [0,1,2,3,4] 3 (go 6 ?_);refine an 5 J J (nd 0 [] J J V call123 J J (Hv p.globals[k].init hgs.1 _) dL dL (λ_=>dL) ?_);rintro _ _ ⟨rfl,rfl⟩;refine an 6 J J (be (r:=cZ [(⟨#[118,97,114,32]⟩:aG),p.globals[k].name,(⟨#[32,61,32]⟩:aG),(bytes (eM p.globals[k].init)),(⟨#[59]⟩:aG)]) (hps:=(.cons J (.cons J (.cons J (.cons J (.cons J .nil)))))) zu ?_);refine an 7 J J (jS J call122 J (kA [(⟨#[118,97,114,32]⟩:aG),p.globals[k].name,(⟨#[32,61,32]⟩:aG),(bytes (eM p.globals[k].init)),(⟨#[59]⟩:aG)] (_::_::A) B W m a1 v1 (bs++((p.globals.take k).map cJ).flatten) rw hC1 (ez J) ig) aK cb (λhn=>⟨rL hn,λb hb=>gL hn hb⟩) λa9 v9 hC9=>?_);refine bG (go 3 ?_);refine bJ J (go 2 ?_);exact ⟨Y,(a9,v9),⟨hC9,oS (He:((bs++((p.globals.take k).map cJ).flatten)++dF m [(⟨#[118,97,114,32]⟩:aG),p.globals[k].name,(⟨#[32,61,32]⟩:aG),(bytes (eM p.globals[k].init)),(⟨#[59]⟩:aG)])=(bs++((p.globals.take (k+1)).map cJ).flatten)) ul⟩,lV (.cons _ (.refl _)) (iC (A:=(_::A)) (He:((bs++((p.globals.take k).map cJ).flatten)++dF m [(⟨#[118,97,114,32]⟩:aG),p.globals[k].name,(⟨#[32,61,32]⟩:aG),(bytes (eM p.globals[k].init)),(⟨#[59]⟩:aG)])=(bs++((p.globals.take (k+1)).map cJ).flatten)))⟩
 refine aC false J (cg h2) (go 12 ?_);obtain rfl:k=p.globals.length:=Y;rw [gq] at hZ⊢;refine go 7 ?_;refine ir (α:=Option Addr×aM) (λi g=>fc W g.1 /\ oh ((bs++((p.globals.map cJ).flatten))++((p.mutexes.take i).map cX).flatten) g.2) (p.mutexes.length) 40 (λg=>aO g.2++[W]) (λi g=>cm (⟨b1,27,(eA p)⟩::A) W m g.1 g.2 ((bs++((p.globals.map cJ).flatten))++((p.mutexes.take i).map cX).flatten) B rw) (λi=>[(0,cC (aE W)),(3,aE b1),(38,.c (aB aU p.mutexes)),(39,aX p.mutexes.length)]) (a1,v1) ⟨hC1,oS (aK:(bs++((p.globals.map cJ).flatten))=((bs++((p.globals.map cJ).flatten))++((p.mutexes.take 0).map cX).flatten)) hZ⟩ (lV (h:=ao J) (.refl _) (iC (A:=(_::A)) (aK:(bs++((p.globals.map cJ).flatten))=((bs++((p.globals.map cJ).flatten))++((p.mutexes.take 0).map cX).flatten)))) ?_;rintro i ⟨a11,v11⟩ hi hC11;dsimp only at hC11
 try dsimp only
 obtain ⟨hC11,hZ⟩:=hC11;refine go 2 ?_;by_cases h12:((i:Nat):Int)<((p.mutexes.length:Nat):Int)
 ·refine aC true J (ck h12) (go 10 ?_);have hil:i<p.mutexes.length:=Y;have hms:=hs.mutexes _ (getElem_mem hil);have hmok:=hv.2.1 _ (getElem_mem hil);have hcn:=Ei cX p.mutexes i hil;refine aF J (bS aU aU p.mutexes kI (λ_=>J) i J J J J Y V runUnderlying24 sizeOf60) (go 9 λb3=>?_);rcases bq (p.mutexes[i].reentrant) with h14|h14
  ·refine aF J (cI (bF h14) (ca [] isAgg4 sizeOf4)) (go 5 ?_);have hle:=congrArg List.length (Gt (x:=p.mutexes[i]) hm h14 (L3 hmok h14));refine go 3 ?_;refine aW J (be (r:=cZ [(⟨#[114,109,117,116,101,120,32]⟩:aG),p.mutexes[i].name,(⟨#[59]⟩:aG)]) (hps:=(.cons J (.cons J (.cons J .nil)))) sO ?_);refine aW J (jS J call122 J (kA [(⟨#[114,109,117,116,101,120,32]⟩:aG),p.mutexes[i].name,(⟨#[59]⟩:aG)] (_::_::A) B W m a11 v11 ((bs++((p.globals.map cJ).flatten))++((p.mutexes.take i).map cX).flatten) rw hC11 (ez J) ig) aK cb jV λa16 v16 hC16=>?_);refine go 5 ?_;refine bJ J (go 2 ?_);exact ⟨Y,(a16,v16),⟨hC16,oS (Ku:(((bs++((p.globals.map cJ).flatten))++((p.mutexes.take i).map cX).flatten)++dF m [(⟨#[114,109,117,116,101,120,32]⟩:aG),p.mutexes[i].name,(⟨#[59]⟩:aG)])=((bs++((p.globals.map cJ).flatten))++((p.mutexes.take (i+1)).map cX).flatten)) ul⟩,lV (.cons _ (.refl _)) (iC (A:=(_::A)) (Ku:(((bs++((p.globals.map cJ).flatten))++((p.mutexes.take i).map cX).flatten)++dF m [(⟨#[114,109,117,116,101,120,32]⟩:aG),p.mutexes[i].name,(⟨#[59]⟩:aG)])=((bs++((p.globals.map cJ).flatten))++((p.mutexes.take (i+1)).map cX).flatten)))⟩
  refine aF J (cI (bF h14) (ca [] isAgg4 sizeOf4)) (go 8 ?_);by_cases h18:(0:Int)<p.mutexes[i].size
  ·refine aC true J (ek h18) (go 4 ?_);refine b_ [b3,b1] ?_;have hle:=congrArg List.length (Kf (x:=p.mutexes[i]) hm h14 Y);refine aY [0,1,2,3,4] 3 (go 6 ?_);refine an 5 J J (nd 0 [] J J V call123 J J (Hv p.mutexes[i].size hms.1 _) dL dL (λ_=>dL) ?_);rintro _ _ ⟨rfl,rfl⟩;refine an 6 J J (be (r:=cZ [(⟨#[109,117,116,101,120,32]⟩:aG),p.mutexes[i].name,(⟨#[91]⟩:aG),(bytes (eM p.mutexes[i].size)),(⟨#[93,59]⟩:aG)]) (hps:=(.cons J (.cons J (.cons J (.cons J (.cons J .nil)))))) zu ?_);refine an 7 J J (jS J call122 J (kA [(⟨#[109,117,116,101,120,32]⟩:aG),p.mutexes[i].name,(⟨#[91]⟩:aG),(bytes (eM p.mutexes[i].size)),(⟨#[93,59]⟩:aG)] (_::_::A) B W m a11 v11 ((bs++((p.globals.map cJ).flatten))++((p.mutexes.take i).map cX).flatten) rw hC11 (ez J) ig) aK cb (λhn=>⟨rL hn,λb hb=>gL hn hb⟩) λa21 v21 hC21=>?_);refine bG (go 4 ?_);refine bJ J (go 2 ?_);exact ⟨Y,(a21,v21),⟨hC21,oS (KX:(((bs++((p.globals.map cJ).flatten))++((p.mutexes.take i).map cX).flatten)++dF m [(⟨#[109,117,116,101,120,32]⟩:aG),p.mutexes[i].name,(⟨#[91]⟩:aG),(bytes (eM p.mutexes[i].size)),(⟨#[93,59]⟩:aG)])=((bs++((p.globals.map cJ).flatten))++((p.mutexes.take (i+1)).map cX).flatten)) ul⟩,lV (.cons _ (.refl _)) (iC (A:=(_::A)) (KX:(((bs++((p.globals.map cJ).flatten))++((p.mutexes.take i).map cX).flatten)++dF m [(⟨#[109,117,116,101,120,32]⟩:aG),p.mutexes[i].name,(⟨#[91]⟩:aG),(bytes (eM p.mutexes[i].size)),(⟨#[93,59]⟩:aG)])=((bs++((p.globals.map cJ).flatten))++((p.mutexes.take (i+1)).map cX).flatten)))⟩
  refine aC false J (em h18) (go 5 ?_);have hle:=congrArg List.length (Hp (x:=p.mutexes[i]) hm h14 Y);refine go 3 ?_;refine aW J (be (r:=cZ [(⟨#[109,117,116,101,120,32]⟩:aG),p.mutexes[i].name,(⟨#[59]⟩:aG)]) (hps:=(.cons J (.cons J (.cons J .nil)))) sO ?_);refine aW J (jS J call122 J (kA [(⟨#[109,117,116,101,120,32]⟩:aG),p.mutexes[i].name,(⟨#[59]⟩:aG)] (_::_::A) B W m a11 v11 ((bs++((p.globals.map cJ).flatten))++((p.mutexes.take i).map cX).flatten) rw hC11 (ez J) ig) aK cb jV λa23 v23 hC23=>?_);refine go 5 ?_;refine bJ J (go 2 ?_);exact ⟨Y,(a23,v23),⟨hC23,oS (Ix:(((bs++((p.globals.map cJ).flatten))++((p.mutexes.take i).map cX).flatten)++dF m [(⟨#[109,117,116,101,120,32]⟩:aG),p.mutexes[i].name,(⟨#[59]⟩:aG)])=((bs++((p.globals.map cJ).flatten))++((p.mutexes.take (i+1)).map cX).flatten)) ul⟩,lV (.cons _ (.refl _)) (iC (A:=(_::A)) (Ix:(((bs++((p.globals.map cJ).flatten))++((p.mutexes.take i).map cX).flatten)++dF m [(⟨#[109,117,116,101,120,32]⟩:aG),p.mutexes[i].name,(⟨#[59]⟩:aG)])=((bs++((p.globals.map cJ).flatten))++((p.mutexes.take (i+1)).map cX).flatten)))⟩
 refine aC false J (cg h12) (go 11 ?_);obtain rfl:i=p.mutexes.length:=Y;rw [gq] at hZ⊢;refine go 7 ?_;refine ir (α:=Option Addr×aM) (λf g=>fc W g.1 /\ oh (((bs++((p.globals.map cJ).flatten))++((p.mutexes.map cX).flatten))++((p.funcs.take f).map funcText).flatten) g.2) (p.funcs.length) 73 (λg=>aO g.2++[W]) (λf g=>cm (⟨b1,27,(eA p)⟩::A) W m g.1 g.2 (((bs++((p.globals.map cJ).flatten))++((p.mutexes.map cX).flatten))++((p.funcs.take f).map funcText).flatten) B rw) (λf=>[(0,cC (aE W)),(3,aE b1),(71,.c (aB ac p.funcs)),(72,aX p.funcs.length)]) (a11,v11) ⟨hC11,oS (aK:((bs++((p.globals.map cJ).flatten))++((p.mutexes.map cX).flatten))=(((bs++((p.globals.map cJ).flatten))++((p.mutexes.map cX).flatten))++((p.funcs.take 0).map funcText).flatten)) hZ⟩ (lV (h:=ao J) (.refl _) (iC (A:=(_::A)) (aK:((bs++((p.globals.map cJ).flatten))++((p.mutexes.map cX).flatten))=(((bs++((p.globals.map cJ).flatten))++((p.mutexes.map cX).flatten))++((p.funcs.take 0).map funcText).flatten)))) ?_;rintro f ⟨a25,v25⟩ hf hC25;dsimp only at hC25
 try dsimp only
 obtain ⟨hC25,hZ⟩:=hC25;refine go 2 ?_;by_cases h26:((f:Nat):Int)<((p.funcs.length:Nat):Int)
 ·refine aC true J (ck h26) (go 10 ?_);have hfl:f<p.funcs.length:=Y;have hfs:=hs.funcs _ (getElem_mem hfl);have hcn:=Ei funcText p.funcs f hfl;have hle:=congrArg List.length (Hm (f:=p.funcs[f]) hm);simp only [length_append] at hle;have hft:=congrArg List.length (CH p.funcs[f]);simp only [length_append] at hft;have hfw:=pT bE.wt p.funcs f hfl;rw [show bE.wt p.funcs[f]=1+p.funcs[f].params.length+bQ p.funcs[f].body from rfl] at hfw;have hfb:=A4 hv0 _ (getElem_mem hfl);refine aF J (bS ac ac p.funcs mI (λ_=>J) f J J J J Y V runUnderlying25 sizeOf67) (go 20 λb4=>?_);refine fZ 9 1 ?_;refine D2 (λj=>True) (p.funcs[f].params.length) 80 10 9 1 (λj=>((p.funcs[f].params.take j).map iO).length) (λj=>cZ ((p.funcs[f].params.take j).map iO)) (b4::(aO v25++[W])) (λj=>[(0,cC (aE W)),(3,aE b1),(9,aE b4),(71,.c (aB ac p.funcs)),(72,aX p.funcs.length),(73,aX f),(78,.c (aB cG p.funcs[f].params)),(79,bB ((p.funcs[f].params.length:Nat):Int))]) trivial (az (by intro x hx;simp only [aO,Value.ownBlock,Option.toList,dw] at hx;exact hx)) λj vp hj _=>?_;show bo prog _ ⟨113,_,⟨_,⟨_,_,_,((p.funcs[f].params.take j).map iO).length,cZ ((p.funcs[f].params.take j).map iO)⟩::_⟩,(80,aX j)::(10,au vp)::[(0,cC (aE W)),(3,aE b1),(9,aE b4),(71,.c (aB ac p.funcs)),(72,aX p.funcs.length),(73,aX f),(78,.c (aB cG p.funcs[f].params)),(79,bB ((p.funcs[f].params.length:Nat):Int))]⟩ _;refine go 2 ?_;by_cases h28:((j:Nat):Int)<((p.funcs[f].params.length:Nat):Int)
  ·refine aC true J (ck h28) (go 10 ?_);have hjl:j<p.funcs[f].params.length:=Y;have hcl:((p.funcs[f].params.take j).map iO).length <= j:=M';have hpn:p.funcs[f].params[j].name.data.toList.length <= 4611686018427387904:=hfs.2.1 _ (getElem_mem hjl);refine aF J (bS cG cG p.funcs[f].params gx (λ_=>J) j J J J J Y V runUnderlying64 sizeOf69) (go 9 λb5=>?_);rcases bq (p.funcs[f].params[j].mutex) with h30|h30;focus
    refine aF J (cI (bF h30) (ca [] isAgg4 sizeOf4)) (go 8 ?_);refine aF J (cI (fH (show (bytes (([109,117,116,101,120,32]:List UInt8)++p.funcs[f].params[j].name.data.toList))=(iO p.funcs[f].params[j]) by exact QM h30)) (cF ([109,117,116,101,120,32]:List UInt8) p.funcs[f].params[j].name.data.toList J J J J (back _))) ?_;refine aW J (be (r:=cZ [(iO p.funcs[f].params[j])]) iM ?_);refine aW J (dR [] nG J J V c_ Y (@length_append _ ((p.funcs[f].params.take j).map iO) [(iO p.funcs[f].params[j])]).symm fi cb (ed (f:=λx=>aN.val (.string x))).symm λw6=>?_);refine go 8 ?_
   rotate_left;refine aF J (cI (bF h30) (ca [] isAgg4 sizeOf4)) (go 8 ?_);refine aF J (cI (fH (show p.funcs[f].params[j].name=(iO p.funcs[f].params[j]) by exact PH h30)) (ca [] isAgg9 sizeOf9)) ?_;refine aW J (be (r:=cZ [(iO p.funcs[f].params[j])]) iM ?_);refine aW J (dR [] nG J J V c_ Y (@length_append _ ((p.funcs[f].params.take j).map iO) [(iO p.funcs[f].params[j])]).symm fi cb (ed (f:=λx=>aN.val (.string x))).symm λw7=>?_);refine go 5 ?_;all_goals
    refine bJ J (go 2 ?_);rw [show ((p.funcs[f].params.take j).map iO)++[iO p.funcs[f].params[j]]=(p.funcs[f].params.take (j+1)).map iO by rw [ga Y,ed];rfl];exact ⟨Y,trivial,_,az (h1:=(.cons _ (.refl _))) (h:=av J (bv Y) (ao J)) eZ⟩
  refine aC false J (cg h28) (go 10 ?_);obtain rfl:j=p.funcs[f].params.length:=Y;rw [gq];refine mS 10 J ?_;refine b_ [b4,b1] (aY [0,1,2,3] 3 (go 5 ?_));refine an 4 J J (fX J J V call124 J (Ow p.funcs[f].params Y Y _) ?_);rintro _ _ ⟨rfl,rfl⟩;refine an 5 J J (be (r:=cZ [(⟨#[102,117,110,99,32]⟩:aG),p.funcs[f].name,(⟨#[40]⟩:aG),(bytes (ct eF p.funcs[f].params)),(⟨#[41,32,123]⟩:aG)]) (hps:=(.cons J (.cons J (.cons J (.cons J (.cons J .nil)))))) zu ?_);refine an 6 J J (jS J call122 J (kA [(⟨#[102,117,110,99,32]⟩:aG),p.funcs[f].name,(⟨#[40]⟩:aG),(bytes (ct eF p.funcs[f].params)),(⟨#[41,32,123]⟩:aG)] (_::_::A) B W m a25 v25 (((bs++((p.globals.map cJ).flatten))++((p.mutexes.map cX).flatten))++((p.funcs.take f).map funcText).flatten) rw hC25 (ez J) ig) aK cb (λhn=>⟨rL hn,λb hb=>gL hn hb⟩) λa35 v35 hC35=>?_);refine bG (go 6 ?_);refine aW J (uY 0 J call125 J (UO p.funcs[f].body (_::_::A) B W m a35 v35 ((((bs++((p.globals.map cJ).flatten))++((p.mutexes.map cX).flatten))++((p.funcs.take f).map funcText).flatten)++dF m [(⟨#[102,117,110,99,32]⟩:aG),p.funcs[f].name,(⟨#[40]⟩:aG),(bytes (ct eF p.funcs[f].params)),(⟨#[41,32,123]⟩:aG)]) rw hC35 hm hfb.1 hfs.2.2 Y ig) aK cb jV λa36 v36 hC36=>?_);refine go 4 ?_;refine aW J (be (r:=cZ [(⟨#[125]⟩:aG)]) iM ?_);refine aW J (jS J call122 J (kA [(⟨#[125]⟩:aG)] (_::_::A) B W m a36 v36 (((((bs++((p.globals.map cJ).flatten))++((p.mutexes.map cX).flatten))++((p.funcs.take f).map funcText).flatten)++dF m [(⟨#[102,117,110,99,32]⟩:aG),p.funcs[f].name,(⟨#[40]⟩:aG),(bytes (ct eF p.funcs[f].params)),(⟨#[41,32,123]⟩:aG)])++bH [9] p.funcs[f].body) rw hC36 (ez J) ig) aK cb jV λa37 v37 hC37=>?_);refine go 4 ?_;refine bJ J (go 2 ?_);exact ⟨Y,(a37,v37),⟨hC37,oS (Kz:((((((bs++((p.globals.map cJ).flatten))++((p.mutexes.map cX).flatten))++((p.funcs.take f).map funcText).flatten)++dF m [(⟨#[102,117,110,99,32]⟩:aG),p.funcs[f].name,(⟨#[40]⟩:aG),(bytes (ct eF p.funcs[f].params)),(⟨#[41,32,123]⟩:aG)])++bH [9] p.funcs[f].body)++dF m [(⟨#[125]⟩:aG)])=(((bs++((p.globals.map cJ).flatten))++((p.mutexes.map cX).flatten))++((p.funcs.take (f+1)).map funcText).flatten)) ul⟩,lV (.cons _ (.refl _)) (iC (A:=(_::A)) (Kz:((((((bs++((p.globals.map cJ).flatten))++((p.mutexes.map cX).flatten))++((p.funcs.take f).map funcText).flatten)++dF m [(⟨#[102,117,110,99,32]⟩:aG),p.funcs[f].name,(⟨#[40]⟩:aG),(bytes (ct eF p.funcs[f].params)),(⟨#[41,32,123]⟩:aG)])++bH [9] p.funcs[f].body)++dF m [(⟨#[125]⟩:aG)])=(((bs++((p.globals.map cJ).flatten))++((p.mutexes.map cX).flatten))++((p.funcs.take (f+1)).map funcText).flatten)))⟩
 refine aC false J (cg h26) (go 8 ?_);obtain rfl:f=p.funcs.length:=Y;rw [gq] at hZ⊢;exact ⟨.inl J,_,cm A W m a25 v25 _ B rw,e_ J,aj (.cons _ (.refl _)) (.refl _),J,a25,v25,⟨hC25,oS (by unfold gG;simp only [append_assoc]) hZ⟩,iC (by unfold gG;simp only [append_assoc])⟩
end
section
open Go.RowKit
def QY(w:aV)(g n:Nat):cH [g] w (w.freeze ⟨g,0,none⟩ n):=by
 unfold World.freeze;split
 ·exact cH.refl _ _
 exact ⟨J,J,J,aK,λi hi hn=>by
  simp only [yE];rw [if_neg (by intro h;subst h;exact hn aK)]⟩
section
variable {P:Program}{U T:List Nat}{o:Oper}{n d:Nat}{ts:List (Nat×AT)}{K:AS -> Prop}{st:AS}{bx:List aT}{rw:List aS}
theorem Pl{x:bc}{t:bA}{k c:Nat}(ho:o.op=.call {callee:=.builtin .unsafeSliceData,args:=#[x],argTypes:=#[t]})(hx:ay st x=some (au (.slice none k c))):cf P U o st (au (.pointer none)):=
 iF rfl λa w hs w'=>by
  simp only [execOp,ho,resolve,km,cd,fg,hs.val hx];simp [go_sem,invoke,builtin,Lib.run_unsafeSliceData_nil]
theorem UH{x:bc}{t:bA}{q:Addr}{k c:Nat}(ho:o.op=.call {callee:=.builtin .unsafeSliceData,args:=#[x],argTypes:=#[t]})(hx:ay st x=some (au (.slice (some q) k c)))(hc:c≠0):cf P U o st (au (.pointer (some q))):=
 iF rfl λa w hs w'=>by
  simp only [execOp,ho,resolve,km,cd,fg,hs.val hx];simp [go_sem,invoke,builtin,Lib.run_unsafeSliceData_row _ _ _ _ _ _ hc]
theorem Qp{x y:bc}{pt it:bA}{q:Option Addr}(ho:o.op=.call {callee:=.builtin .unsafeString,args:=#[x,y],argTypes:=#[pt,it]})(hx:ay st x=some (au (.pointer q)))(hy:ay st y=some (bB 0)):cf P U o st (cB .empty):=
 iF rfl λa w hs w'=>by
  simp only [execOp,ho,resolve,km,cd,fg,hs.val hx,hs.val hy];simp [go_sem,invoke,builtin,Lib.run_unsafeString_none]
theorem OM{x y:bc}{pt it E:bA}{g cap:Nat}{l:List UInt8}(ho:o.op=.call {callee:=.builtin .unsafeString,args:=#[x,y],argTypes:=#[pt,it]})(hd:o.dst=some d)(hn:d<n)
  (hx:ay ⟨n,T,⟨bx,⟨.slice (some ⟨g,0,none⟩) l.length cap,E,1,l.length,cT l⟩::rw⟩,ts⟩ x=some (aE g)) (hy:ay ⟨n,T,⟨bx,⟨.slice (some ⟨g,0,none⟩) l.length cap,E,1,l.length,cT l⟩::rw⟩,ts⟩ y=some (aX l.length))
  (hp:P.underlying pt=some (.pointer E)) (hc:P.cellsOf E=1) (h0:l≠[]) (h63:l.length <= 9223372036854775807) (hT:g∈T) (hU:(⟨bx,⟨.slice (some ⟨g,0,none⟩) l.length cap,E,1,l.length,cT l⟩::rw⟩:aH).bl.Nodup -> g∈U)
  (h:K ⟨n,T,⟨bx,rw⟩,(d,cB (bytes l))::ts⟩):dN P U o ⟨n,T,⟨bx,⟨.slice (some ⟨g,0,none⟩) l.length cap,E,1,l.length,cT l⟩::rw⟩,ts⟩ K:=by
 intro a w hs KK QQ hK;obtain ⟨us,hownR,hrep⟩:=hs.mem.row ⟨.slice (some ⟨g,0,none⟩) l.length cap,E,1,l.length,cT l⟩ aK;obtain ⟨-,hown⟩:=hownR.row0 rfl;rcases hown with ⟨h1,-⟩|⟨g',cap',cur,hv,-,hh,hkc,hcm,hcs,htk⟩
 ·cases h1
 cases hv;dsimp only at hh hkc hcs htk hrep;obtain rfl:us=dI l:=wD (vs:=dI l) (by rw [show (dI l).map aN.val=cT l by simp [dI,cT]];exact hrep);simp only [nz] at hcs htk;have hsh:w.shape? g=some (E,cap):=by unfold World.shape?;rw [hh];simp [hcs]
 have hcell:∀j x,l[j]?=some x -> w.cell? ((⟨g,0,none⟩:Addr).add j)=some (.int .u8 x.toNat):=λj x hj=>by
  have hjl:j<l.length:=(mM.1 hj).1;have aa:(⟨g,0,none⟩:Addr).add j=⟨g,j,none⟩:=xp;rw [aa];have e2:cur[j]?=some (.int .u8 x.toNat):=by
   have h9:=congrArg (λq:List aM=>q[j]?) htk;simp only [m0,if_pos hjl,dI,mD,hj,nt,ly] at h9;exact h9
  unfold World.cell?;simp only [hh,e0];exact e2
 have hkF:=QY w g l.length;have hnd:=hs.mem.nodup;have hg:g∉(⟨bx,rw⟩:aH).bl:=λhm=>by
  unfold aH.bl at hnd hm;simp only [fD] at hnd;have hnd2:=du.1 hnd;rcases mem_append.1 hm with hm|hm
  ·exact hnd2.2.2 g hm g kq J
  exact (du.1 hnd2.2.1).2.2 g kq g hm J
 have hsub:∀b,b∈(⟨bx,rw⟩:aH).bl -> b∈(⟨bx,⟨.slice (some ⟨g,0,none⟩) l.length cap,E,1,l.length,cT l⟩::rw⟩:aH).bl:=λb hb=>by
  unfold aH.bl at hb⊢;rcases mem_append.1 hb with hb|hb
  ·exact fj _ hb
  exact f7 _ (by simp only [fD];exact f7 _ hb)
 have hgf:g∈(⟨bx,⟨.slice (some ⟨g,0,none⟩) l.length cap,E,1,l.length,cT l⟩::rw⟩:aH).bl:=Ee;have hu:fl (bi (⟨bx,⟨.slice (some ⟨g,0,none⟩) l.length cap,E,1,l.length,cT l⟩::rw⟩:aH).bl w) (bi (⟨bx,rw⟩:aH).bl (w.freeze ⟨g,0,none⟩ l.length)):=kR hkF (λx hx=>by simp at hx;subst hx;exact hgf) (λb hb=>.inl (hsub b hb));have hne:∀b,b∈(⟨bx,rw⟩:aH).bl -> (w.freeze ⟨g,0,none⟩ l.length).heap[b]?=w.heap[b]?:=λb hb=>hkF.block b (hs.mem.lt b (hsub b hb)) (by simp;intro he;subst he;exact hg hb);have hsl:(⟨bx,rw⟩:aH).bl.Sublist (⟨bx,⟨.slice (some ⟨g,0,none⟩) l.length cap,E,1,l.length,cT l⟩::rw⟩:aH).bl:=zn (tS _) (Mu _ (List.Sublist.cons _ (tS _)));have hm1:Mem ⟨bx,rw⟩ (w.freeze ⟨g,0,none⟩ l.length):=by
  refine ⟨hsl.nodup hs.mem.nodup,λb hb=>k_ (hs.mem.lt b (hsub b hb)) hkF.size,λx hx=>?_,λr hr=>?_⟩
  ·obtain ⟨us,aa,e2⟩:=hs.mem.box x hx;exact ⟨us,by rw [hne _ (fj _ (gH.2 ⟨x,hx,rfl⟩))];exact aa,e2.mono hu⟩
  obtain ⟨us,aa,e2⟩:=hs.mem.row r (dT _ hr);exact ⟨us,aa.keep λq hq=>hne q (f7 _ (jv.2 ⟨r,hr,hq⟩)),e2.mono hu⟩
 unfold Oper.wp;have hrun2:(execOp a.eval o).run P w=.ok (.value (.string (bytes l))) (w.freeze ⟨g,0,none⟩ l.length):=by
  simp only [execOp,ho,resolve,km,cd,fg,hs.val hx,hs.val hy];simp [go_sem,invoke,builtin,Lib.run_unsafeString_row w pt it _ E hp hc g cap hsh l h0 hkc h63 hcell]
  rfl
 rw [hrun2,Oper.upon_value,hd];exact hK _ _ _ h ((hs.step T (hkF.mono (by simp;exact hgf)) hm1 (λb hb=>.inl (hsub b hb))).put hn (cN.c _ _ (.val _ J))) ⟨hkF.mono (by simp;exact hgf),hkF.mono vR,λb hb=>.inl (hsub b hb),λb hb=>.inl hb⟩ (hkF.mono vI)
end
def Rs(p:aZ)(B:List aT)(W:Nat)(rw:List aS)(hv:iR p=true)(hs:p.sane)(hw:p.wt <= 9000000)(hb:(gG p).length <= 100000000000000):aR prog 92 [cC (aE W),.agg (eA p)] (W::aO (.slice none 0 0)) (cm [] W 0 none (.slice none 0 0) [] B rw) (λt s'=>t=.tup [] /\ ∃a' v',(fc W a' /\ oh (gG p) v') /\ s'=cm [] W 0 a' v' (gG p) B rw):=
 V0 p [] B W 0 none (.slice none 0 0) [] rw (.inl rfl) (λ_=>rfl) rfl hv hs hw tk
def Qs(A B:List aT)(W m:Nat)(a:Option Addr)(rw:List aS):aR prog 93 [aE W] [] (cm A W m a (.slice none 0 0) [] B rw) λt s'=>t=cB (bytes []) /\ s'=⟨A++⟨W,181,[.val (.pointer a),aI,am m]⟩::B,rw⟩:=by
 refine bN 14 func93 ?_;refine go 6 ?_;refine b_ [W] (aY [0,1,2,3] 8 (go 5 ?_));refine ab 4 J (Pl J J) (aY [5,6,7,8,9] 2 (go 6 ?_));refine ab 10 J (Qp J J J) (aY [11] 0 (go 2 ?_));refine bG (go 2 ?_);exact ⟨.inr J,_,⟨A++⟨W,181,[.val (.pointer a),aI,am m]⟩::B,rw⟩,bT J (bM J),aj (.refl _) (.cons _ (.refl _)),J,J⟩
def QL(A B:List aT)(W m:Nat)(a:Option Addr)(bs:List UInt8)(rw:List aS)(g cap:Nat)(hc:cap≠0)(h0:bs≠[])(h63:bs.length <= 9223372036854775807):aR prog 93 [aE W] [g] (cm A W m a (.slice (some ⟨g,0,none⟩) bs.length cap) bs B rw) λt s'=>t=cB (bytes bs) /\ s'=⟨A++⟨W,181,[.val (.pointer a),.val (.slice (some ⟨g,0,none⟩) bs.length cap),am m]⟩::B,rw⟩:=by
 refine bN 14 func93 ?_;refine go 6 ?_;refine b_ [W] (aY [0,1,2,3] 8 (go 5 ?_));refine ab 4 J (UH J J hc) (aY [5,6,7,8,9] 2 (go 6 ?_));refine an 10 J J (OM J J V J J underlying206 aQ h0 h63 kq (λhn=>gL hn kq) ?_);refine aY [11] 0 (go 2 ?_);refine bG (go 2 ?_);exact ⟨.inr J,_,⟨A++⟨W,181,[.val (.pointer a),.val (.slice (some ⟨g,0,none⟩) bs.length cap),am m]⟩::B,rw⟩,bT J (bM J),aj (.refl _) (.refl _),J,J⟩
def OX(A B:List aT)(W m:Nat)(a:Option Addr)(v:aM)(bs:List UInt8)(rw:List aS)(hz:oh bs v)(hb:bs.length <= 9223372036854775807):aR prog 93 [aE W] (aO v) (cm A W m a v bs B rw) λt s'=>t=cB (bytes bs) /\ s'=⟨A++⟨W,181,[.val (.pointer a),.val v,am m]⟩::B,rw⟩:=by
 intro vs w hm hT hl hr;obtain ⟨us,hownR,hrep⟩:=hm.row ⟨v,5,1,bs.length,cT bs⟩ aK;obtain ⟨hlen,hown⟩:=hownR.row Nat.zero_lt_one;dsimp only at hlen hown hrep;rcases hown with ⟨rfl,h0⟩|⟨g,cap,cur,rfl,-,hh,hkc,hcm,hcs,htk⟩
 ·obtain rfl:bs=[]:=h_.1 h0;exact Qs A B W m a rw vs w hm hT hl hr
 by_cases h0:bs=[]
 ·have:=hz h0;cases this
 exact QL A B W m a bs rw g cap (by have:bs.length≠0:=(by simpa using h0);omega) h0 hb vs w hm hT hl hr
def Vz{p:aZ}(h1:lW p=true)(h2:(p.funcs.any λf=>!gB f)=false):iR p=true:=by
 rw [show iR p=(lW p && p.funcs.all gB) from rfl,h1,nc h2];rfl
def Ki{p:aZ}(h1:lW p=false):iR p=false:=by rw [show iR p=(lW p && p.funcs.all gB) from rfl,h1];rfl
def HQ{p:aZ}(h2:(p.funcs.any λf=>!gB f)=true):iR p=false:=by rw [show iR p=(lW p && p.funcs.all gB) from rfl,xG h2,pQ]
abbrev uw(p:aZ):List UInt8:=if iR p=true then gG p else []
abbrev CP(p:aZ):AT:=.tup [cB (bytes (uw p)),ap (gE p)]
def ED{p:aZ}{x:aG}{b:Bool}(h1:bytes (uw p)=x)(h2:gE p=b):(AT.tup [cB x,ap b])=CP p:=by unfold CP;rw [h1,h2]
def Pd(p:aZ)(hs:p.sane)(hw:p.wt <= 9000000)(s:aH):aR prog 68 [cC (.agg (eA p))] [] s λt s'=>t=CP p /\ s'=s:=by
 obtain ⟨bx,rw⟩:=s;refine bN 36 func68 ?_;refine go 11 λb1=>?_;rcases bq (lW p) with h1|h1
 ·refine dl 0 J call88 J (G9 p hs Y _) h1 (go 4 ?_);rcases bq (p.funcs.any λf=>!gB f) with h2|h2
  ·refine dl 0 J call89 J (KR (λf=>!gB f) p.funcs 90 #[] _ Hu call90 Gs) h2 (go 12 ?_);exact ⟨.inr J,_,⟨bx,rw⟩,iP J (bM J) (bM J),aj (.cons _ (.refl _)) (.refl _),ED (by unfold uw;rw [if_neg (by rw [HQ h2];decide)];rfl) (by rw [r8,HQ h2];rfl),J⟩
  refine dl 0 J call89 J (KR (λf=>!gB f) p.funcs 90 #[] _ Hu call90 Gs) h2 (go 8 ?_);have hv:iR p=true:=Vz h1 h2;refine go 7 λb2=>?_;refine sy 5 1 ?_;refine go 2 ?_;refine aW J (uY 0 J call92 J (Rs p _ b2 rw hv hs hw (by have:=Ap hs hv;omega)) aK oU (λ_=>⟨aK,λb hb=>B'⟩) λa2 v2 hC2=>?_);refine go 7 ?_;refine aW J (bj (aO v2) J J V call93 J (OX [] _ b2 0 a2 v2 (gG p) rw hC2.2 (by have:=Ap hs hv;omega)) cb (λb hb=>by simp [aH.bl,hb]) fi ?_);rintro _ _ ⟨rfl,rfl⟩;refine go 6 ?_;refine aW J (za J J V J underlying9 underlying58 underlying5 (by rw [wh];have:=Ap hs hv;omega) (N:=(gG p).length) J (cs:=cT (gG p)) J ?_);refine aW J (Cy 0 [] J J V call94 J J (λm=>B3 (gG p) m _) dL dL (λ_=>dL) ?_);rintro _ _ ⟨(⟨tl5,hlx5,rfl,htl5⟩|⟨p5,e5,hlx5,rfl,he5⟩),rfl⟩;focus
   refine go 13 ?_;refine aC true J ge (go 5 ?_)
  rotate_left;refine go 13 ?_;refine aC false J (bZ Y) (go 5 ?_);all_goals
   exact ⟨.inr J,_,⟨bx,rw⟩,iP J (bM J) (bM J),aj (.cons _ (.cons _ (.refl _))) (.refl _),ED (by unfold uw;rw [if_pos hv]) (by rw [r8,hv,hlx5];rfl),J⟩
 refine dl 0 J call88 J (G9 p hs Y _) h1 (go 17 ?_);exact ⟨.inr J,_,⟨bx,rw⟩,iP J (bM J) (bM J),aj (.cons _ (.refl _)) (.refl _),ED (by unfold uw;rw [if_neg (by rw [Ki h1];decide)];rfl) (by rw [r8,Ki h1];rfl),J⟩
def Lx(p:aZ)(hs:p.sane)(hw:p.wt <= 9000000)(s:aH):aR prog 31 [cC (.agg (eA p))] [] s λt s'=>t=ap (gE p) /\ s'=s:=by
 obtain ⟨bx,rw⟩:=s;refine bN 11 func31 ?_;refine go 9 λb1=>?_;refine jR 0 J call68 J (Pd p hs hw _) (go 14 ?_);exact aw (s':=⟨bx,rw⟩) J cM ⟨bU J,J⟩
end
section
open Go.RowKit
mutual
def aL.cnt:aL -> Nat|.mk _ _ _ _ _ t e=>1+Dc t+Dc e
def Dc:List aL -> Nat
 |[]=>0
 |s::r=>s.cnt+Dc r
end
end
section
structure ke (x y:ah) (m c:Nat):Prop where
 code:y.code.length=x.code.length+c
 n:y.n=x.n+m
 loc:x.locals <= y.locals
 sites:∃t:List Int,y.sites=x.sites++t /\ (∀a,a∈t -> (x.n:Int) <= a /\ a<(y.n:Int)) /\ ∀k:Nat,x.n <= k -> k<y.n -> (k:Int)∈t
 sl:x.sites.length=x.code.length -> y.sites.length=y.code.length
 jmp:(∀i,i∈x.code -> (i.op=6∨i.op=7) -> i.target <= x.code.length) -> ∀i,i∈y.code -> (i.op=6∨i.op=7) -> i.target <= y.code.length
def ke.refl(x:ah):ke x x 0 0:=⟨rfl,rfl,bW _,⟨[],(eC _).symm,(λa h=>gM),(λk h1 h2=>Y)⟩,λh=>h,λh=>h⟩
def ke.trans{x y z:ah}{m c m' c':Nat}(h:ke x y m c)(h':ke y z m' c'):ke x z (m+m') (c+c'):=by
 obtain ⟨t,e,b,v⟩:=h.sites;obtain ⟨t',e',b',v'⟩:=h'.sites;have h1:=h.n;have h2:=h'.n;refine ⟨by rw [h'.code,h.code];omega,Y,gb h.loc h'.loc,⟨t++t',by rw [e',e,append_assoc],λa ha=>?_,λk hk hk'=>?_⟩,λhl=>h'.sl (h.sl hl),λhj=>h'.jmp (h.jmp hj)⟩
 ·rcases mem_append.1 ha with ha|ha
  ·have:=b a ha;omega
  have:=b' a ha;omega
 by_cases hy:k<y.n
 ·exact fj _ (v k hk hy)
 exact f7 _ (v' k Y hk')
def ke.put{x y:ah}{m c:Nat}(h:ke x y m c)(i:ic)(s:Nat)(h1:x.n <= s)(h2:s<y.n)(hi:(i.op=6∨i.op=7) -> i.target <= y.code.length+1):ke x (y.put i s) m (c+1):=by
 obtain ⟨t,e,b,v⟩:=h.sites;have hc:=h.code;refine ⟨xD,h.n,h.loc,⟨t++[(s:Int)],by show y.sites++[(s:Int)]=_;rw [e,append_assoc],λa ha=>?_,λk hk hk'=>fj _ (v k hk hk')⟩,λhl=>(by show (y.sites++[(s:Int)]).length=(y.code++[i]).length;rw [length_append,length_append,h.sl hl];rfl),λhj j hm ho=>?_⟩
 ·rcases mem_append.1 ha with ha|ha
  ·exact b a ha
  obtain rfl:=jw.1 ha;exact ⟨Y,by show (s:Int)<((y.n:Nat):Int);omega⟩
 rw [lB];rcases mem_append.1 (show j∈y.code++[i] from hm) with hm|hm
 ·have:=h.jmp hj j hm ho;omega
 obtain rfl:=jw.1 hm;exact hi ho
def E9{α:Type}{f:α -> α}:∀{l:List α} {b:Nat} {i:α},i∈l.modify b f -> i∈l∨∃j,j∈l /\ i=f j
 |[],_,_,h=>by rw [List.modify_nil] at h;cases h
 |a::l,0,i,h=>by
  rw [List.modify_zero_cons] at h;rcases mem_cons.1 h with rfl|h
  ·exact .inr ⟨a,jm,J⟩
  ·exact .inl (dT _ h)
 |a::l,b+1,i,h=>by
  rw [List.modify_succ_cons] at h;rcases mem_cons.1 h with rfl|h
  ·exact .inl jm
  rcases E9 h with h|⟨j,h,e⟩
  ·exact .inl (dT _ h)
  exact .inr ⟨j,dT _ h,e⟩
def ke.patch{x y:ah}{m c:Nat}(h:ke x y m c)(b:Nat):ke x (y.patch b) m c:=by
 refine ⟨by rw [jj];exact h.code,h.n,h.loc,h.sites,λhl=>(by rw [jj];exact h.sl hl),λhj i hm ho=>?_⟩;rw [jj];rcases E9 (show i∈y.code.modify b (λi=>i.to y.code.length) from hm) with hm|⟨j,hm,rfl⟩
 ·exact h.jmp hj i hm ho
 exact bW _
def ke.back{x y:ah}{m c:Nat}(h:ke x y m c)(w:ah):ke x (w.back y) m c:=⟨h.code,h.n,h.loc,h.sites,h.sl,h.jmp⟩
def ke.one{x:ah}(y:ah){i:ic}(hc:y.code=x.code++[i])(hn:y.n=x.n+1)(hl:x.locals <= y.locals)(hs:y.sites=x.sites++[(x.n:Int)])(hi:(i.op=6∨i.op=7) -> i.target=0):ke x y 1 1:=by
 refine ⟨by rw [hc,length_append];rfl,hn,hl,⟨[(x.n:Int)],hs,λa ha=>?_,λk h1 h2=>?_⟩,λhl=>(by rw [hs,hc,length_append,length_append,hl];rfl),λhj j hm ho=>?_⟩
 ·obtain rfl:=jw.1 ha;rw [hn];omega
 ·obtain rfl:k=x.n:=Y;exact jw.2 J
 rw [hc] at hm⊢;rw [length_append];rcases mem_append.1 hm with hm|hm
 ·have:=hj j hm ho;omega
 obtain rfl:=jw.1 hm;rw [hi ho];omega
def IB{p:aZ}:∀(l:List bE)(k:Nat),kF p l k=(0,0,0) -> ∀f,f∈l -> (jY p f).1=0
 |[],_,_,f,hf=>by cases hf
 |a::l,k,h,f,hf=>by
  rw [kF] at h;split at h
  ·rename_i h0;rcases mem_cons.1 hf with rfl|hf
   ·exact h0
   exact IB l (k+1) h f hf
  rename_i h0;exact absurd (congrArg (λx=>x.2.2) h) h0
def SU{p:aZ}(h:gJ p=(0,0,0)):gE p=true /\ jJ [] (ba p)=none /\ me p=true /\ ∀f,f∈p.funcs -> (jY p f).1=0:=by
 unfold gJ at h;split at h
 ·exact absurd (congrArg (λx=>x.2.2) h) (by show ¬(10:Nat)=0;decide)
 rename_i hv;split at h
 ·exact absurd (congrArg (λx=>x.2.2) h) (by show ¬(5:Nat)=0;decide)
 rename_i hb;split at h
 ·rename_i hm;exact ⟨by simpa using hv,hb,hm,IB _ _ h⟩
 exact absurd (congrArg (λx=>x.2.2) h) (by show ¬(9:Nat)=0;decide)
end
section
def Kb:∀(ow:List aG)(v:bd),co v -> co (ow.foldl d_ v) /\ (∀s,s∈ow -> bO (ow.foldl d_ v) s=0) /\ ∀s,s∉ow -> bO (ow.foldl d_ v) s=bO v s
 |[],v,h=>⟨h,λs hs=>absurd hs not_mem_nil,λs _=>rfl⟩
 |k::ow,v,h=>by
  obtain ⟨h1,h2,h3⟩:=Kb ow (d_ v k) (h.del k);refine ⟨h1,λs hs=>?_,λs hs=>?_⟩
  ·rw [o'];by_cases hm:s∈ow
   ·exact h2 s hm
   rw [h3 s hm,rX h];rcases mem_cons.1 hs with rfl|hs
   ·rw [if_pos rfl]
   exact absurd hs hm
  simp only [mem_cons,not_or] at hs;rw [o',h3 s hs.2,rX h,if_neg (λe=>hs.1 e.symm)]
def xd{fs:dC}{r:Nat×List aG×dt}{v:bd}(h0:r.1=0)(hk:co r.2.2.vis)(h1:∀q,q∈r.2.1 -> bO v q=0)(h2:∀q,q∉r.2.1 -> bO r.2.2.vis q=bO v q):co (gR r).2.vis /\ ∀q,bO (gR r).2.vis q=bO v q:=by
 obtain ⟨ep,fS,oo⟩:=Kb r.2.1 r.2.2.vis hk;unfold gR;rw [if_pos h0];refine ⟨ep,λq=>?_⟩;by_cases hm:q∈r.2.1
 ·rw [h1 q hm];exact fS q hm
 rw [←h2 q hm];exact oo q hm
def sw(r:Nat×List aG×dt):(gR r).1=r.1:=by unfold gR;split<;>simp_all
def SC(r:Nat×List aG×dt):(gR r).2.at_=r.2.2.at_:=by unfold gR;split<;>rfl
mutual
def Ou(fs:dC):∀(s:aL)(x:dt),co x.vis -> (fP fs s x).1=0 -> co (fP fs s x).2.vis /\ (∀q,(s.kind=1 -> s.name≠q) -> bO (fP fs s x).2.vis q=bO x.vis q) /\ (s.kind=1 -> bO x.vis s.name=0)
 |.mk k name e r args t f,x,hk,h=>by
  have hb:co (hG (.mk k name e r args t f) x).vis /\ ∀q,(k=1 -> name≠q) -> bO (hG (.mk k name e r args t f) x).vis q=bO x.vis q:=by
   show co (if k=1 then cc x.vis name 1 else x.vis) /\ ∀q,_ -> bO (if k=1 then cc x.vis name 1 else x.vis) q=_;by_cases h1:k=1
   ·rw [if_pos h1];exact ⟨hk.put _ _,λq hq=>by rw [kx,if_neg (hq h1)]⟩
   rw [if_neg h1];exact ⟨hk,λq _=>rfl⟩
  rw [fP] at h⊢;by_cases hp:jW x.vis fs (.mk k name e r args t f)=0
  ·rw [if_pos hp] at h⊢;by_cases ht:(gR (dP fs t [] (hG (.mk k name e r args t f) x))).1=0
   ·rw [if_pos ht] at h⊢;obtain ⟨a1,a2,a3⟩:=vZ fs t [] _ hb.1 (by rw [←sw];exact ht);obtain ⟨b1,b2⟩:=xd (fs:=fs) (by rw [←sw];exact ht) a1 (λq hq=>(a2 q hq).resolve_left not_mem_nil) a3;obtain ⟨c1,c2,c3⟩:=vZ fs f [] _ b1 (by rw [←sw];exact h);obtain ⟨ep,fS⟩:=xd (fs:=fs) (by rw [←sw];exact h) c1 (λq hq=>(c2 q hq).resolve_left not_mem_nil) c3;refine ⟨ep,λq hq=>by rw [fS,b2];exact hb.2 q hq,λh1=>?_⟩;have h1:k=1:=h1;have hp:(if k=1 then (if bO x.vis name=0 then _ else 5) else _)=0:=hp;rw [if_pos h1] at hp;split at hp
    ·rename_i h9;exact h9
    cases hp
   rw [if_neg ht] at h;exact absurd h ht
  rw [if_neg hp] at h;exact absurd h hp
def vZ(fs:dC):∀(l:List aL)(own:List aG)(x:dt),co x.vis -> (dP fs l own x).1=0 -> co (dP fs l own x).2.2.vis /\ (∀q,q∈(dP fs l own x).2.1 -> q∈own∨bO x.vis q=0) /\ (∀q,q∉(dP fs l own x).2.1 -> bO (dP fs l own x).2.2.vis q=bO x.vis q)
 |[],own,x,hk,_=>by rw [dP];exact ⟨hk,λq hq=>.inl hq,λq _=>rfl⟩
 |s::l,own,x,hk,h=>by
  rw [dP] at h⊢;by_cases h0:(fP fs s x).1=0
  ·rw [if_pos h0] at h⊢;obtain ⟨a1,a2,a3⟩:=Ou fs s x hk h0;obtain ⟨b1,b2,b3⟩:=vZ fs l (m7 s own) _ a1 h;have hsub:=K0 fs l (m7 s own) (fP fs s x).2;refine ⟨b1,λq hq=>?_,λq hq=>?_⟩
   ·by_cases hn:s.kind=1 /\ s.name=q
    ·obtain ⟨hn1,rfl⟩:=hn;exact .inr (a3 hn1)
    have hn':s.kind=1 -> s.name≠q:=λh1 h2=>hn ⟨h1,h2⟩;rcases b2 q hq with h9|h9
    ·unfold m7 at h9;split at h9
     ·rename_i h1;rcases mem_append.1 h9 with h9|h9
      ·exact .inl h9
      exact absurd (jw.1 h9).symm (hn' h1)
     exact .inl h9
    rw [a2 q hn'] at h9;exact .inr h9
   rw [b3 q hq];refine a2 q λh1 h2=>hq (hsub q ?_);unfold m7;rw [if_pos h1,←h2];simp
  rw [if_neg h0] at h;exact absurd h h0
def K0(fs:dC):∀(l:List aL)(own:List aG)(x:dt),∀q,q∈own -> q∈(dP fs l own x).2.1
 |[],own,x,q,hq=>by rw [dP];exact hq
 |s::l,own,x,q,hq=>by
  rw [dP];split
  ·exact K0 fs l _ _ q (by unfold m7;split<;>simp [hq])
  exact hq
end
def j9.same{p:aZ}{fs:dC}{v v':bd}{l:List bK}(h:j9 p fs v l)(hk:co v')(hv:∀q,bO v' q=bO v q):j9 p fs v' l:=⟨hk,λs=>by rw [hv];exact h.get s,h.fn⟩
def j9.put{p:aZ}{fs:dC}{v:bd}{l:List bK}(h:j9 p fs v l){s:aG}(h0:bO v s=0){x:bK}(hx:x.name=s){a:Int}(ha:fk p x=a)(h3:x.kind≠3):j9 p fs (cc v s a) (l++[x]):=by
 have hn:bI l s=none:=by
  have h1:=h.get s;rw [h0] at h1;rcases hf:bI l s with _|y
  ·rfl
  rw [hf] at h1;exact absurd h1.symm (sk p y)
 refine ⟨h.kn.put _ _,λq=>?_,λq y hf hy=>?_⟩
 ·rw [kx,lF];by_cases hq:s=q
  ·subst hq;rw [if_pos rfl,hn];dsimp only;rw [if_pos hx];exact ha.symm
  rw [if_neg hq,h.get q];rcases bI l q with _|y
  ·dsimp only;rw [if_neg (by rw [hx];exact hq)]
  rfl
 rw [lF] at hf;split at hf
 ·rename_i hf2;cases hf;exact h.fn q _ hf2 hy
 split at hf
 ·cases hf;exact absurd hy h3
 cases hf
structure m3 (p:aZ) (fs:dC) (x:dt) (y:ah):Prop where
 rel:j9 p fs x.vis y.ents
 n:x.n=y.n
 q:y.q.1=0
def Step(p:aZ)(fs:dC)(e:Nat)(x':dt)(y':ah):Prop:=(e=0 -> m3 p fs x' y') /\ (e≠0 -> y'.q=(e,x'.at_))
end
section
section
variable {p:aZ}{fs:dC}
theorem m3.mod{x:dt}{y y':ah}(h:m3 p fs x y)(h1:y'.ents=y.ents)(h2:y'.n=y.n)(h3:y'.q=y.q):m3 p fs x y':=⟨by rw [h1];exact h.rel,by rw [h2];exact h.n,by rw [h3];exact h.q⟩
theorem Step.mod{e:Nat}{x:dt}{y y':ah}(h:Step p fs e x y)(h1:y'.ents=y.ents)(h2:y'.n=y.n)(h3:y'.q=y.q):Step p fs e x y':=⟨λh0=>(h.1 h0).mod h1 h2 h3,λh0=>by rw [h3];exact h.2 h0⟩
theorem BE{l:List aL}{x:dt}{y:ah}(hS:Step p fs (dP fs l [] x).1 (dP fs l [] x).2.2 (cE p l y))(he:m3 p fs x y):Step p fs (gR (dP fs l [] x)).1 (gR (dP fs l [] x)).2 (aJ p l y):=by
 refine ⟨λh0=>?_,λh0=>?_⟩
 ·rw [sw] at h0;have h1:=hS.1 h0;obtain ⟨a1,a2,a3⟩:=vZ fs l [] x he.rel.kn h0;obtain ⟨b1,b2⟩:=xd (fs:=fs) h0 a1 (λq hq=>(a2 q hq).resolve_left not_mem_nil) a3;exact ⟨he.rel.same b1 b2,by rw [wF];exact h1.n,h1.q⟩
 rw [sw] at h0⊢;rw [SC];exact hS.2 h0
theorem xn(x:dt):gR (dP fs [] [] x)=(0,x):=by rw [dP];rfl
theorem Oa{s:aL}{x:dt}{y:ah}(he:m3 p fs x y)(h1:s.kind≠1)(e:aP)(hq:cO y.ents e=0):m3 p fs (hG s x) (y.branch e):=by
 have hv:(hG s x).vis=x.vis:=by show (if s.kind=1 then _ else x.vis)=_;rw [if_neg h1]
 refine ⟨by rw [hv];exact he.rel,by show x.n+1=y.n+1;rw [he.n],?_⟩;show (cP y.q (cO y.ents e) y.n).1=0;rw [hq,mo];exact he.q
mutual
theorem O9:∀(s:aL)(x:dt)(y:ah),wZ s -> m3 p fs x y -> Step p fs (fP fs s x).1 (fP fs s x).2 (ci p s y)
 |.mk k name e r args t f,x,y,hsh,he=>by
  rw [wZ] at hsh;obtain ⟨h5,ha,ht,hf,hst,hsf⟩:=hsh;have hp:jW x.vis fs (.mk k name e r args t f)=sM p y.ents (.mk k name e r args t f):=Qb he.rel _ h5 ha;have hbq:∀bm,cO y.ents e=bm -> (y.branch e).q=cP y.q bm y.n:=λe0 h=>by show cP y.q (cO y.ents e) y.n=_;rw [h]
  rw [fP];by_cases h0:jW x.vis fs (.mk k name e r args t f)=0
  ·rw [if_pos h0];rw [hp] at h0;by_cases h78:k=7∨k=8
   ·have hex:cO y.ents e=0:=by
     have h9:(if k=1 then _ else if k=2 then _ else if k=5∨k=6 then _ else if k=3∨k=4 then _ else if k=7∨k=8 then cO y.ents e else 0)=0:=h0;rw [if_neg Y,if_neg Y,if_neg Y,if_neg Y,if_pos h78] at h9;exact h9
    have hbe:m3 p fs (hG (.mk k name e r args t f) x) (y.branch e):=Oa he DG e hex;have HT:=BE (AA t [] _ _ hst hbe) hbe;rw [ci];by_cases hT:(gR (dP fs t [] (hG (.mk k name e r args t f) x))).1=0
    ·rw [if_pos hT];have hE1:=HT.1 hT;by_cases h7:k=7
     ·rw [if_pos h7];by_cases hfl:f.length=0
      ·obtain rfl:=h_.1 hfl;rw [if_pos hfl,xn];exact ⟨λ_=>hE1.mod J J J,λh=>absurd J h⟩
      rw [if_neg hfl];have hE2:m3 p fs (gR (dP fs t [] (hG (.mk k name e r args t f) x))).2 ((((y.branch e).back (cE p t (y.branch e))).put (bf 7 .zero) y.n).patch y.code.length):=hE1.mod J J J;have HF:=BE (AA f [] _ _ hsf hE2) hE2;exact HF.mod J J J
     rw [if_neg h7,if_pos (Y:k=8)];obtain rfl:=hf h7;rw [xn];exact ⟨λ_=>hE1.mod J J J,λh=>absurd J h⟩
    rw [if_neg hT];have hq:=HT.2 hT;refine ⟨λh=>absurd h hT,λ_=>?_⟩;have hne:(aJ p t (y.branch e)).q.1≠0:=by rw [hq];exact hT
    by_cases h7:k=7
    ·rw [if_pos h7];by_cases hfl:f.length=0
     ·rw [if_pos hfl];exact hq
     rw [if_neg hfl];show (cE p f _).q=_;rw [rF p f _ (by show (cE p t (y.branch e)).q.1≠0;exact hne)];exact hq
    rw [if_neg h7,if_pos (Y:k=8)];exact hq
   ·have h7:k≠7:=λh=>h78 (.inl h);have h8:k≠8:=λh=>h78 (.inr h);obtain rfl:=ht h7 h8;obtain rfl:=hf h7;rw [xn];dsimp only;rw [if_pos rfl,xn,ci,if_neg h7,if_neg h8];obtain ⟨s1,s2,s3⟩:=A6 p (.mk k name e r args [] []) y h7 h8;refine ⟨λ_=>⟨?_,by rw [s2];show x.n+1=_;rw [he.n],by rw [s1,h0,mo];exact he.q⟩,λh=>absurd J h⟩;rw [s3];show j9 p fs (if k=1 then cc x.vis name 1 else x.vis) (if k=1 then y.ents++[⟨name,4,y.locals⟩] else y.ents);by_cases h1:k=1
    ·rw [if_pos h1,if_pos h1];have h9:(if k=1 then dE (ey y.ents name) (cO y.ents e) else _)=0:=h0;rw [if_pos h1] at h9;have hd:ey y.ents name=0:=by unfold dE at h9;split at h9<;>assumption
     have hn:bI y.ents name=none:=by
      unfold ey at hd;rcases hfd:bI y.ents name with _|z
      ·rfl
      rw [hfd] at hd;cases hd
     exact he.rel.put (s:=name) (x:=⟨name,4,y.locals⟩) (a:=1) (by rw [he.rel.get,hn];rfl) J (by unfold fk;rw [if_pos (.inr rfl)]) vH
    rw [if_neg h1,if_neg h1];exact he.rel
  rw [if_neg h0];refine ⟨λh=>absurd h h0,λ_=>?_⟩;rw [hp] at h0⊢;show (ci p _ y).q=(sM p y.ents _,(x.n:Int));rw [he.n];by_cases h78:k=7∨k=8
  ·have hpe:sM p y.ents (.mk k name e r args t f)=cO y.ents e:=by
    show (if k=1 then _ else if k=2 then _ else if k=5∨k=6 then _ else if k=3∨k=4 then _ else if k=7∨k=8 then cO y.ents e else 0)=_;rw [if_neg Y,if_neg Y,if_neg Y,if_neg Y,if_pos h78]
   rw [hpe] at h0⊢;have hb:(y.branch e).q=(cO y.ents e,(y.n:Int)):=HH he.q h0 _;have hne:(y.branch e).q.1≠0:=by rw [hb];exact h0
   have hq:(cE p t (y.branch e)).q=(cO y.ents e,(y.n:Int)):=by rw [rF p t _ hne,hb]
   rw [ci];by_cases h7:k=7
   ·rw [if_pos h7];by_cases hfl:f.length=0
    ·rw [if_pos hfl];exact hq
    rw [if_neg hfl];show (cE p f _).q=_;rw [rF p f _ (by show (cE p t (y.branch e)).q.1≠0;rw [hq];exact h0)];exact hq
   rw [if_neg h7,if_pos (Y:k=8)];exact hq
  ·have h7:k≠7:=λh=>h78 (.inl h);have h8:k≠8:=λh=>h78 (.inr h);rw [ci,if_neg h7,if_neg h8,(A6 p (.mk k name e r args t f) y h7 h8).1];exact HH he.q h0 _
theorem AA:∀(l:List aL)(own:List aG)(x:dt)(y:ah),mf l -> m3 p fs x y -> Step p fs (dP fs l own x).1 (dP fs l own x).2.2 (cE p l y)
 |[],own,x,y,_,he=>by rw [dP,cE];exact ⟨λ_=>he,λh=>absurd rfl h⟩
 |s::l,own,x,y,hsh,he=>by
  rw [mf] at hsh;have h1:=O9 s x y hsh.1 he;rw [dP,cE];by_cases h0:(fP fs s x).1=0
  ·rw [if_pos h0];exact AA l _ _ _ hsh.2 (h1.1 h0)
  rw [if_neg h0];refine ⟨λh=>absurd h h0,λ_=>?_⟩;have hq:=h1.2 h0;rw [rF p l _ (by rw [hq];exact h0)];exact hq
end
end
end
section
section
variable {p:aZ}{fs:dC}
theorem B2:∀(ps:List bp)(v:bd)(l:List bK)(i m:Nat),j9 p fs v l -> (hY ps l i m=none -> (eW ps v).1=false) /\ ∀l' i' m',hY ps l i m=some (l',i',m') -> (eW ps v).1=true /\ j9 p fs (eW ps v).2 l'
 |[],v,l,i,m,h=>by
  rw [hY,eW];exact ⟨λh=>gM,λl' i' m' e=>by cases e;exact ⟨rfl,h⟩⟩
 |x::r,v,l,i,m,h=>by
  rw [hY,eW,h.get x.name];rcases hf:bI l x.name with _|y
  ·have hz:bO v x.name=0:=by rw [h.get,hf];rfl
   rw [if_neg V,if_pos (show q6 p none=0 from rfl)];by_cases hm:x.mutex=true
   ·rw [if_pos hm];have hs:lU x=4:=if_pos hm;rw [hs];exact B2 r _ _ i (m+1) (h.put (s:=x.name) (x:=⟨x.name,5,m⟩) (a:=4) hz J (by unfold fk;rfl) Co)
   rw [if_neg hm];have hs:lU x=1:=if_neg hm;rw [hs];exact B2 r _ _ (i+1) m (h.put (s:=x.name) (x:=⟨x.name,4,i⟩) (a:=1) hz J (by unfold fk;rfl) vH)
  rw [if_pos jp,if_neg (show ¬q6 p (some y)=0 from sk p y)];exact ⟨λ_=>J,λl' i' m' e=>by cases e⟩
theorem FX:∀(ps:List bp)(v:bd),co v -> (eW ps v).1=true -> co (eW ps v).2 /\ (∀x,x∈ps -> bO v x.name=0) /\ ∀q,(∀x,x∈ps -> x.name≠q) -> bO (eW ps v).2 q=bO v q
 |[],v,hk,_=>⟨hk,λx hx=>absurd hx not_mem_nil,λq _=>rfl⟩
 |x::r,v,hk,h=>by
  rw [eW] at h⊢;by_cases h0:bO v x.name=0
  ·rw [if_pos h0] at h⊢;obtain ⟨a1,a2,a3⟩:=FX r _ (hk.put _ _) h;refine ⟨a1,λy hy=>?_,λq hq=>?_⟩
   ·rcases mem_cons.1 hy with rfl|hy
    ·exact h0
    have h9:=a2 y hy;rw [kx] at h9;split at h9
    ·unfold lU at h9;split at h9<;>cases h9
    exact h9
   rw [a3 q λy hy=>hq y (dT _ hy),kx,if_neg (hq x jm)]
  rw [if_neg h0] at h;cases h
theorem GW:∀(ps:List bp)(v:bd),co v -> co (jn ps v) /\ (∀x,x∈ps -> bO (jn ps v) x.name=0) /\ ∀q,(∀x,x∈ps -> x.name≠q) -> bO (jn ps v) q=bO v q
 |[],v,h=>⟨h,λx hx=>absurd hx not_mem_nil,λs _=>rfl⟩
 |y::ps,v,h=>by
  obtain ⟨h1,h2,h3⟩:=GW ps (d_ v y.name) (h.del y.name);have e:jn (y::ps) v=jn ps (d_ v y.name):=J;refine ⟨h1,λx hx=>?_,λq hq=>?_⟩
  ·rw [e];by_cases hm:∃z,z∈ps /\ z.name=x.name
   ·obtain ⟨z,hz,hn⟩:=hm;rw [←hn];exact h2 z hz
   rw [h3 _ (λz hz hn=>hm ⟨z,hz,hn⟩),rX h];rcases mem_cons.1 hx with rfl|hx
   ·rw [if_pos rfl]
   exact absurd ⟨x,hx,J⟩ hm
  rw [e,h3 q λz hz=>hq z (dT _ hz),rX h,if_neg (hq y jm)]
theorem T4{f:bE}{v:bd}(h:j9 p fs v (ba p))(hsh:mf f.body):(gw fs f v).1=(jY p f).1 /\ ((gw fs f v).1≠0 -> (gw fs f v).2.at_=(jY p f).2) /\ ((gw fs f v).1=0 -> j9 p fs (gw fs f v).2.vis (ba p)):=by
 obtain ⟨p1,p2⟩:=B2 f.params v (ba p) 0 0 h;unfold gw jY;rcases hq:hY f.params (ba p) 0 0 with _|⟨l,i,m⟩
 ·rw [p1 hq,if_neg V];exact ⟨J,λ_=>J,λh=>gM⟩
 obtain ⟨q1,q2⟩:=p2 l i m hq;rw [q1,if_pos rfl];have he:m3 p fs ⟨(eW f.params v).2,0,-1⟩ (ah.init l i):=⟨q2,J,J⟩;have hb:Step p fs (iU fs f.body ⟨(eW f.params v).2,0,-1⟩).1 (iU fs f.body ⟨(eW f.params v).2,0,-1⟩).2 (aJ p f.body (ah.init l i)):=BE (AA f.body [] _ _ hsh he) he;have hbq:(tI p f l i).q=(aJ p f.body (ah.init l i)).q:=J;dsimp only;rw [hbq];by_cases h0:(iU fs f.body ⟨(eW f.params v).2,0,-1⟩).1=0
 ·have hE:=hb.1 h0;refine ⟨by rw [h0];exact hE.q.symm,λh=>absurd h0 h,λ_=>?_⟩;obtain ⟨a1,a2,a3⟩:=FX f.params v h.kn q1;have h0':=h0;unfold iU at h0';rw [sw] at h0';obtain ⟨b1,b2,b3⟩:=vZ fs f.body [] _ q2.kn h0';obtain ⟨c1,c2⟩:=xd (fs:=fs) h0' b1 (λq hq=>(b2 q hq).resolve_left not_mem_nil) b3;obtain ⟨ep,fS,oo⟩:=GW f.params _ c1;refine h.same ep λq=>?_;by_cases hm:∃x,x∈f.params /\ x.name=q
  ·obtain ⟨x,hx,rfl⟩:=hm;rw [a2 x hx];exact fS x hx
  have hm':∀x,x∈f.params -> x.name≠q:=λx hx hn=>hm ⟨x,hx,hn⟩;rw [←a3 q hm',←c2 q];exact oo q hm'
 have hq2:=hb.2 h0;rw [hq2];exact ⟨J,λ_=>J,λh=>absurd h h0⟩
theorem Hd:∀(l:List bE)(i:Nat)(v:bd),j9 p fs v (ba p) -> (∀f,f∈l -> mf f.body) -> lP fs l i v=kF p l i
 |[],i,v,_,_=>rfl
 |f::r,i,v,h,hs=>by
  obtain ⟨b1,b2,b3⟩:=T4 h (hs f jm);rw [lP,kF,←b1];by_cases h0:(gw fs f v).1=0
  ·rw [if_pos h0,if_pos h0];exact Hd r (i+1) _ (b3 h0) λg hg=>hs g (dT _ hg)
  rw [if_neg h0,if_neg h0,b2 h0]
end
def LP{p:aZ}:∀(es:List bK)(v:bd)(l:List bK),co v -> (∀s,bO v s=q6 p (bI l s)) -> (∀i,jJ l es=some i -> (fM (es.map λx=>(x.name,fk p x)) v l.length).1=some i) /\ (jJ l es=none -> (fM (es.map λx=>(x.name,fk p x)) v l.length).1=none /\ co (fM (es.map λx=>(x.name,fk p x)) v l.length).2 /\ ∀s,bO (fM (es.map λx=>(x.name,fk p x)) v l.length).2 s=q6 p (bI (l++es) s))
 |[],v,l,hk,hg=>by
  rw [jJ];exact ⟨λi h=>gM,λ_=>⟨J,hk,λs=>by rw [eC];exact hg s⟩⟩
 |x::es,v,l,hk,hg=>by
  rw [jJ,cd,fM,hg x.name];rcases hf:bI l x.name with _|y
  ·rw [if_neg V,if_pos (show q6 p none=0 from rfl)];have hr:∀s,bO (cc v x.name (fk p x)) s=q6 p (bI (l++[x]) s):=λs=>by
    rw [kx,lF];by_cases hq:x.name=s
    ·subst hq;rw [if_pos rfl,hf];dsimp only;rw [if_pos rfl];rfl
    rw [if_neg hq,hg s];rcases bI l s with _|z
    ·dsimp only;rw [if_neg hq]
    rfl
   have h9:=LP es _ (l++[x]) (hk.put _ _) hr;rw [length_append,append_assoc] at h9;exact h9
  rw [if_pos jp,if_neg (show ¬q6 p (some y)=0 from sk p y)];exact ⟨λi h=>h,λh=>gM⟩
def TM(p:aZ):eR p=(ba p).map λx=>(x.name,fk p x):=by
 unfold eR ba;rw [ed,ed]
 congr 1
 ·apply lw
  ·simp
  intro i h1 h2;simp [fk]
 congr 1
 ·apply lw
  ·simp
  intro i h1 h2;simp only [fW] at h1;simp only [nK,List.getElem_mapIdx];unfold fk mY;rw [xA h1];rfl
 apply lw
 ·simp
 intro i h1 h2;simp [fk]
end
section
def Ez:∀{l:List bK} {s:aG} {v:bK},bI l s=some v -> v∈l /\ v.name=s
 |[],_,_,h=>gM
 |x::l,s,v,h=>by
  rw [bI] at h;split at h
  ·rename_i hx;cases h;exact ⟨jm,hx⟩
  exact ⟨dT _ (Ez h).1,(Ez h).2⟩
def FG:∀{l:List bK} {x:bK},(l.map bK.name).Nodup -> x∈l -> bI l x.name=some x
 |[],_,_,h=>absurd h not_mem_nil
 |y::l,x,hd,h=>by
  simp only [cd,kE] at hd;rw [bI];rcases mem_cons.1 h with rfl|h
  ·rw [if_pos rfl]
  rw [if_neg (λe=>hd.1 (by rw [e];exact List.mem_map_of_mem h))];exact FG hd.2 h
def D7:∀(es l:List bK),jJ l es=none -> (es.map bK.name).Nodup /\ ∀x,x∈es -> bI l x.name=none
 |[],l,_=>⟨aK,λx hx=>absurd hx not_mem_nil⟩
 |x::es,l,h=>by
  rw [jJ] at h;rcases hf:bI l x.name with _|y
  ·rw [hf,if_neg V] at h;obtain ⟨h1,h2⟩:=D7 es _ h;have h3:∀y,y∈es -> bI l y.name=none /\ x.name≠y.name:=λy hy=>by
    have h9:=h2 y hy;rw [lF] at h9;split at h9
    ·cases h9
    rename_i h8;exact ⟨h8,λe=>by rw [if_pos e] at h9;cases h9⟩
   refine ⟨?_,λy hy=>?_⟩
   ·simp only [cd,kE];refine ⟨λhm=>?_,h1⟩;obtain ⟨y,hy,e⟩:=gH.1 hm;exact (h3 y hy).2 e.symm
   rcases mem_cons.1 hy with rfl|hy
   ·exact hf
   exact (h3 y hy).1
  rw [hf,if_pos jp] at h;cases h
def GG:∀(l:List bE)(m:dC)(s:aG),s∉l.map bE.name -> dG (l.foldl (λm f=>cc m f.name f) m) s=dG m s
 |[],m,s,_=>rfl
 |f::l,m,s,h=>by
  simp only [cd,mem_cons,not_or] at h;rw [o',GG l _ s h.2,mG,if_neg (λe=>h.1 e.symm)]
def GY:∀(l:List bE)(m:dC),(l.map bE.name).Nodup -> ∀f,f∈l -> dG (l.foldl (λm f=>cc m f.name f) m) f.name=some f
 |[],_,_,f,h=>absurd h not_mem_nil
 |g::l,m,hd,f,h=>by
  simp only [cd,kE] at hd;rw [o'];rcases mem_cons.1 h with rfl|h
  ·rw [GG l _ _ hd.1,mG,if_pos rfl]
  exact GY l _ hd.2 f h
def NA:∀(l:List bE)(m:dC)(s:aG)(f:bE),dG (l.foldl (λm f=>cc m f.name f) m) s=some f -> (f∈l /\ f.name=s)∨dG m s=some f
 |[],m,s,f,h=>.inr h
 |g::l,m,s,f,h=>by
  rw [o'] at h;rcases NA l _ s f h with h|h
  ·exact .inl ⟨dT _ h.1,h.2⟩
  rw [mG] at h;split at h
  ·rename_i hg;cases h;exact .inl ⟨jm,hg⟩
  exact .inr h
def Nk{p:aZ}{x:bK}(h:x∈ba p)(h3:x.kind=3):∃(i:Nat) (hi:i<p.funcs.length),x=⟨p.funcs[i].name,3,i⟩:=by
 unfold ba at h;rcases mem_append.1 h with h|h
 ·obtain ⟨i,hi,rfl⟩:=oP.1 h;exact absurd h3 C8
 rcases mem_append.1 h with h|h
 ·obtain ⟨i,hi,rfl⟩:=oP.1 h;exact absurd h3 D4
 obtain ⟨i,hi,rfl⟩:=oP.1 h;exact ⟨i,hi,J⟩
def O4{p:aZ}{f:bE}(h:f∈p.funcs):∃i:Nat,(⟨f.name,3,i⟩:bK)∈ba p:=by
 obtain ⟨i,hi,rfl⟩:=jQ h;refine ⟨i,?_⟩;unfold ba;exact f7 _ (f7 _ (oP.2 ⟨i,hi,J⟩))
def NW{p:aZ}(h:((ba p).map bK.name).Nodup):(p.funcs.map bE.name).Nodup:=by
 unfold ba at h;rw [ed,ed] at h;have h1:=(du.1 (du.1 h).2.1).2.1;have e:(p.funcs.mapIdx λi f=>(⟨f.name,3,i⟩:bK)).map bK.name=p.funcs.map bE.name:=by
  apply lw
  ·simp
  intro i h1 h2;simp
 rw [e] at h1;exact h1
section
variable {p:aZ}(hn:((ba p).map bK.name).Nodup)
include hn
theorem Gc(s:aG)(x:bK)(hf:bI (ba p) s=some x)(h3:x.kind=3):∃f,dG (fO p.funcs) s=some f /\ iy p x.n=f.params:=by
 obtain ⟨h1,h2⟩:=Ez hf;obtain ⟨i,hi,rfl⟩:=Nk h1 h3;refine ⟨p.funcs[i],?_,zS hi⟩;rw [←h2];exact GY p.funcs [] (NW hn) _ (getElem_mem hi)
theorem I4(s:aG)(h:∀x,bI (ba p) s=some x -> x.kind≠3):dG (fO p.funcs) s=none:=by
 rcases hl:dG (fO p.funcs) s with _|f
 ·rfl
 exfalso;rcases NA p.funcs [] s f hl with ⟨h1,h2⟩|h1
 ·obtain ⟨i,hi⟩:=O4 h1;have h9:=FG hn hi;exact h _ (by rw [←h2];exact h9) J
 cases h1
theorem RU:nN p=me p:=by
 unfold nN me;rw [show ta=d7 from rfl];rcases hf:bI (ba p) d7 with _|x
 ·rw [I4 hn d7 (λx h=>by rw [hf] at h;cases h)]
 by_cases h3:x.kind=3
 ·obtain ⟨f,h1,h2⟩:=Gc hn d7 x hf h3;rw [h1];dsimp only;rw [h2,decide_eq_true h3,xH]
 rw [I4 hn d7 (λy h=>by rw [hf] at h;cases h;exact h3)];dsimp only;rw [decide_eq_false h3,AN]
end
def DV(p:aZ):mP p=gJ p:=by
 unfold mP gJ;by_cases hv:gE p=false
 ·rw [if_pos hv,if_pos hv]
 rw [if_neg hv,if_neg hv,TM];obtain ⟨ep,fS⟩:=LP (p:=p) (ba p) [] [] (by unfold co;simp) (λs=>rfl);rw [length_nil] at ep fS;rcases hb:jJ [] (ba p) with _|i
 ·obtain ⟨aa,e2,e3⟩:=fS hb;rw [aa];dsimp only;obtain ⟨hn,-⟩:=D7 _ _ hb;rw [RU hn];by_cases hm:me p=true
  ·rw [if_pos hm,if_pos hm];refine Hd p.funcs 0 _ ⟨e2,λs=>by rw [e3];rfl,Gc hn⟩ λf hf=>?_;have hvt:gE p=true:=by simpa using hv
   rw [r8,cz] at hvt;exact xZ 0 f.body (A4 hvt.1 f hf).1
  rw [if_neg hm,if_neg hm]
 rw [ep i hb]
end
section
def xm{α:Type}(nm:α -> aG)(l:List α)(hd:(l.map nm).Nodup):∀k,k <= l.length -> ∀i (h:i<l.length),i<k -> dG (d6 nm l k) (nm l[i])=some ((i:Nat):Int)
 |0,_,i,_,hi=>absurd hi (Nat.not_lt_zero i)
 |k+1,hk,i,h,hi=>by
  rw [←yR nm l k Y,mG];by_cases e:i=k
  ·subst e;rw [if_pos rfl]
  rw [if_neg,xm nm l hd k Y i h Y];have:=List.pairwise_iff_getElem.1 hd i k zE zE Y;rw [nK,nK] at this;exact λh=>this h.symm
def Jx:∀{l:List bK} {s:aG} {v:bK},bI l s=some v -> v.name=s
 |[],_,_,h=>gM
 |x::l,s,v,h=>by
  rw [bI] at h;split at h
  ·rename_i h1;cases h;exact h1
  exact Jx h
def PC(p:aZ):(ba p).map bK.name=p.globals.map bw.name++(p.mutexes.map cq.name++p.funcs.map bE.name):=by
 have e:∀{α:Type} (f:Nat -> α -> bK) (nm:α -> aG) (h:∀i a,(f i a).name=nm a) (l:List α),(l.mapIdx f).map bK.name=l.map nm:=λf nm h l=>by
  apply lw aK
  intro i h1 h2;simp [h]
 unfold ba;rw [ed,ed,e _ bw.name (λ_ _=>rfl),e _ cq.name (λ_ _=>rfl),e _ bE.name (λ_ _=>rfl)]
def Jv{p:aZ}{v:bK}(h:v∈ba p):(∃i,∃(h:i<p.globals.length),v=⟨p.globals[i].name,1,i⟩)∨(∃i,∃(h:i<p.mutexes.length),v=⟨p.mutexes[i].name,2,i⟩)∨∃i,∃(h:i<p.funcs.length),v=⟨p.funcs[i].name,3,i⟩:=by
 unfold ba at h;rcases mem_append.1 h with h|h
 ·obtain ⟨i,hi,rfl⟩:=oP.1 h;exact .inl ⟨i,hi,rfl⟩
 rcases mem_append.1 h with h|h
 ·obtain ⟨i,hi,rfl⟩:=oP.1 h;exact .inr (.inl ⟨i,hi,rfl⟩)
 obtain ⟨i,hi,rfl⟩:=oP.1 h;exact .inr (.inr ⟨i,hi,rfl⟩)
def VH{p:aZ}(hb:jJ [] (ba p)=none):db (d6 bw.name p.globals p.globals.length) (d6 cq.name p.mutexes p.mutexes.length) (d6 bE.name p.funcs p.funcs.length) [] [] (ba p):=by
 have hn:=(D7 _ _ hb).1;rw [PC] at hn;obtain ⟨h1,h23,-⟩:=du.1 hn;obtain ⟨h2,h3,-⟩:=du.1 h23;have no:∀(k:Int)(hk:k=4∨k=5)(s:aG),(none:Option Int)=(match bI (ba p) s with|some v=>if v.kind=k then some ((v.n:Nat):Int) else none|none=>none):=λk hk s=>by
  rcases hf:bI (ba p) s with _|v
  ·rfl
  dsimp only;rw [if_neg];rcases Jv (vB hf) with ⟨i,hi,rfl⟩|⟨i,hi,rfl⟩|⟨i,hi,rfl⟩
  ·show ¬(1:Int)=k;omega
  ·show ¬(2:Int)=k;omega
  show ¬(3:Int)=k;omega
 refine ⟨no 4 (.inl J),no 5 (.inr J),λs v hv hk=>?_,λs v hv hk=>?_,λs v hv hk=>?_⟩;all_goals
  have hs:=Jx hv;rcases Jv (vB hv) with ⟨i,hi,rfl⟩|⟨i,hi,rfl⟩|⟨i,hi,rfl⟩
 ·subst hs;exact xm bw.name p.globals h1 _ (bW _) i hi hi
 ·exact absurd hk (by show ¬(2:Int)=1;decide)
 ·exact absurd hk (by show ¬(3:Int)=1;decide)
 ·exact absurd hk (by show ¬(1:Int)=2;decide)
 ·subst hs;exact xm cq.name p.mutexes h2 _ (bW _) i hi hi
 ·exact absurd hk (by show ¬(3:Int)=2;decide)
 ·exact absurd hk C8
 ·exact absurd hk D4
 subst hs;exact xm bE.name p.funcs h3 _ (bW _) i hi hi
def Fe{p:aZ}(h:gJ p=(0,0,0)):gE p=true /\ db (d6 bw.name p.globals p.globals.length) (d6 cq.name p.mutexes p.mutexes.length) (d6 bE.name p.funcs p.funcs.length) [] [] (ba p) /\ (∀f,f∈p.funcs -> (jY p f).1=0 /\ kg f.body) /\ bO (d6 bE.name p.funcs p.funcs.length) d7=(((bL (ba p) d7).n:Nat):Int):=by
 obtain ⟨h1,h2,h3,h4⟩:=SU h;have hm:=VH h2;refine ⟨h1,hm,λf hf=>⟨h4 f hf,?_⟩,?_⟩
 ·have hv:=h1;unfold gE at hv;simp only [cz] at hv;have h5:=d3.1 hv.1.2 f hf;unfold gB at h5;simp only [cz] at h5;exact zX 0 f.body h5.1.2
 unfold me at h3;unfold bO bL;rcases hf:bI (ba p) d7 with _|v
 ·rw [hf] at h3;cases h3
 rw [hf] at h3;simp only [cz,decide_eq_true_eq] at h3;rw [hm.fs _ v hf h3.1];rfl
end
section
open Go.RowKit
def K3(A B:List aT)(C gv gf:Nat)(p:aZ)(vis:bd)(fs:dC)(n at_:Int)(R rw:List aS)(hgf:ai gf 3 ac fs∈R)(x:aG):aR prog 129 [aE C,cB x] [] ⟨A++⟨C,98,[aB ak p.globals,aB aU p.mutexes,aB ac p.funcs,aD gv,aD gf,aA n,aA at_]⟩::B,R++ai gv 0 a_ vis::rw⟩ λt s'=>t=bB ((lr vis x:Nat):Int) /\ s'=⟨A++⟨C,98,[aB ak p.globals,aB aU p.mutexes,aB ac p.funcs,aD gv,aD gf,aA n,aA at_]⟩::B,R++ai gv 0 a_ vis::rw⟩:=by
 refine bN 15 func129 ?_;refine go 13 ?_;refine aF J (nF vis J J J aK underlying95 underlying9 zeroValue157 gr) (go 5 ?_);by_cases h1:(bO vis x)=0
 ·refine aC true J (bg h1) (go 12 ?_);exact ⟨.inr J,_,⟨A++⟨C,98,[aB ak p.globals,aB aU p.mutexes,aB ac p.funcs,aD gv,aD gf,aA n,aA at_]⟩::B,R++ai gv 0 a_ vis::rw⟩,bT J (bM J),aj (.refl _) (.refl _),fI (by simp [lr,h1]),J⟩
 refine aC false J (bZ h1) (go 6 ?_);by_cases h4:(bO vis x)=1;focus
  refine aC true J (bg h4) (go 12 ?_)
 rotate_left;refine aC false J (bZ h4) (go 13 ?_);all_goals
  exact ⟨.inr J,_,⟨A++⟨C,98,[aB ak p.globals,aB aU p.mutexes,aB ac p.funcs,aD gv,aD gf,aA n,aA at_]⟩::B,R++ai gv 0 a_ vis::rw⟩,bT J (bM J),aj (.refl _) (.refl _),fI (by simp [lr,h1,h4]),J⟩
def L_(v:bd):∀(l:List aP)(k:Nat)(h:k<l.length),iI v (l.take k)=0 -> gA v l[k]=0 -> iI v (l.take (k+1))=0
 |e::l,0,_,_,h=>by rw [jI,iI,if_pos iW,lM,iI]
 |e::l,k+1,hk,h1,h2=>by
  rw [jI,iI] at h1;rw [jI,iI];split at h1
  ·rename_i h3;rw [if_pos h3];exact L_ v l k nS h1 mR
  rename_i h3;exact absurd h1 h3
def J8(v:bd):∀(l:List aP)(k:Nat)(h:k<l.length),iI v (l.take k)=0 -> gA v l[k]≠0 -> iI v l=gA v l[k]
 |e::l,0,_,_,h=>by rw [iI,if_neg iW];rfl
 |e::l,k+1,hk,h1,h2=>by
  rw [jI,iI] at h1;rw [iI];split at h1
  ·rename_i h3;rw [if_pos h3];exact J8 v l k nS h1 mR
  rename_i h3;exact absurd h1 h3
def BJ(v:bd)(e:aP):gA v e=if e.op=2 then lr v e.name else iI v e.args:=by cases e;rw [gA];rfl
def Np(A B:List aT)(C gv gf:Nat)(p:aZ)(vis:bd)(fs:dC)(n at_:Int)(R rw:List aS)(hgf:ai gf 3 ac fs∈R)(e:aP)(hN:e.nodes <= 1000000000)(ih:∀k (h:k<e.args.length) (A:List aT),aR prog 128 [aE C,.agg (bb e.args[k])] [] ⟨A++⟨C,98,[aB ak p.globals,aB aU p.mutexes,aB ac p.funcs,aD gv,aD gf,aA n,aA at_]⟩::B,R++ai gv 0 a_ vis::rw⟩ λt s'=>t=bB ((gA vis e.args[k]:Nat):Int) /\ s'=⟨A++⟨C,98,[aB ak p.globals,aB aU p.mutexes,aB ac p.funcs,aD gv,aD gf,aA n,aA at_]⟩::B,R++ai gv 0 a_ vis::rw⟩):aR prog 128 [aE C,.agg (bb e)] [] ⟨A++⟨C,98,[aB ak p.globals,aB aU p.mutexes,aB ac p.funcs,aD gv,aD gf,aA n,aA at_]⟩::B,R++ai gv 0 a_ vis::rw⟩ λt s'=>t=bB ((gA vis e:Nat):Int) /\ s'=⟨A++⟨C,98,[aB ak p.globals,aB aU p.mutexes,aB ac p.funcs,aD gv,aD gf,aA n,aA at_]⟩::B,R++ai gv 0 a_ vis::rw⟩:=by
 have hlen:=qc e;refine bN 29 func128 ?_;refine go 11 λb1=>?_;by_cases h1:e.op=2
 ·refine aC true J (bg h1) (go 8 ?_);refine cy J call129 J (K3 (_::A) B C gv gf p vis fs _ _ R rw hgf e.name) ?_;rintro _ _ ⟨rfl,rfl⟩;refine go 5 ?_;exact ⟨.inr J,_,⟨A++⟨C,98,[aB ak p.globals,aB aU p.mutexes,aB ac p.funcs,aD gv,aD gf,aA n,aA at_]⟩::B,R++ai gv 0 a_ vis::rw⟩,bT J (bM J),aj (.cons _ (.refl _)) (.refl _),fI (by rw [BJ,if_pos Y]),J⟩
 refine aC false J (bZ h1) (go 15 ?_);refine jO (λk=>iI vis (e.args.take k)=0) (e.args.length) 18 (λk=>[(0,aE C),(3,aE b1),(4,bB 0),(16,.c (aB bR e.args)),(17,aX e.args.length)]) J (ao J) λk hk hvk=>?_;replace hvk:iI vis (e.args.take k)=0:=hvk
 try dsimp only
 refine go 2 ?_;by_cases h5:((k:Nat):Int)<((e.args.length:Nat):Int)
 ·refine aC true J (ck h5) (go 10 ?_);refine aF J (bS bR bb e.args fw ei k J J J J Y V runUnderlying85 sizeOf87) (go 9 λb2=>?_);refine cy J call128 J (ih k Y (_::_::A)) ?_;rintro _ _ ⟨rfl,rfl⟩;refine go 6 ?_;by_cases h8:((gA vis e.args[k]:Nat):Int)=0
  ·refine aC false J (dv h8) (go 7 ?_);refine bJ J (go 2 ?_);exact ⟨Y,(L_ vis _ k Y hvk Y),az (h1:=(.cons _ (.refl _))) (h:=av J (bv Y) (ao J)) (λb hb=>dT _ (hb))⟩
  refine aC true J (fe h8) (go 15 ?_);exact ⟨.inr J,_,⟨A++⟨C,98,[aB ak p.globals,aB aU p.mutexes,aB ac p.funcs,aD gv,aD gf,aA n,aA at_]⟩::B,R++ai gv 0 a_ vis::rw⟩,bT J (bM J),aj (.cons _ (.cons _ (.refl _))) (.refl _),fI (by rw [BJ,if_neg Y,J8 vis _ k Y hvk Y]),J⟩
 refine aC false J (cg h5) (go 15 ?_);exact ⟨.inr J,_,⟨A++⟨C,98,[aB ak p.globals,aB aU p.mutexes,aB ac p.funcs,aD gv,aD gf,aA n,aA at_]⟩::B,R++ai gv 0 a_ vis::rw⟩,bT J (bM J),aj (.cons _ (.refl _)) (.refl _),fI (by rw [take_of_length_le Y] at hvk;rw [BJ,if_neg Y,hvk];rfl),J⟩
def IQ:∀(N:Nat)(e:aP),e.nodes <= N -> N <= 1000000000 -> ∀(A B:List aT)(C gv gf:Nat)(p:aZ)(vis:bd)(fs:dC)(n at_:Int)(R rw:List aS)(hgf:ai gf 3 ac fs∈R),aR prog 128 [aE C,.agg (bb e)] [] ⟨A++⟨C,98,[aB ak p.globals,aB aU p.mutexes,aB ac p.funcs,aD gv,aD gf,aA n,aA at_]⟩::B,R++ai gv 0 a_ vis::rw⟩ λt s'=>t=bB ((gA vis e:Nat):Int) /\ s'=⟨A++⟨C,98,[aB ak p.globals,aB aU p.mutexes,aB ac p.funcs,aD gv,aD gf,aA n,aA at_]⟩::B,R++ai gv 0 a_ vis::rw⟩
 |0,e,h,_=>pd
 |N+1,e,h,hN=>λA B C gv gf p vis fs n at_ R rw hgf=>Np A B C gv gf p vis fs n at_ R rw hgf e Y λk hk A=>IQ N e.args[k] pH Y A B C gv gf p vis fs n at_ R rw hgf
def tg(e:aP)(h:e.nodes <= 1000000000)(A B:List aT)(C gv gf:Nat)(p:aZ)(vis:bd)(fs:dC)(n at_:Int)(R rw:List aS)(hgf:ai gf 3 ac fs∈R):aR prog 128 [aE C,.agg (bb e)] [] ⟨A++⟨C,98,[aB ak p.globals,aB aU p.mutexes,aB ac p.funcs,aD gv,aD gf,aA n,aA at_]⟩::B,R++ai gv 0 a_ vis::rw⟩ λt s'=>t=bB ((gA vis e:Nat):Int) /\ s'=⟨A++⟨C,98,[aB ak p.globals,aB aU p.mutexes,aB ac p.funcs,aD gv,aD gf,aA n,aA at_]⟩::B,R++ai gv 0 a_ vis::rw⟩:=IQ _ e h (bW _) A B C gv gf p vis fs n at_ R rw hgf
def zA(v:bd)(l:List aP)(h:0<l.length):yr v l=gA v l[0]:=by
 cases l with
 |nil=>simp at h
 |cons e l=>rfl
def B6(A B:List aT)(C gv gf:Nat)(p:aZ)(vis:bd)(fs:dC)(n at_:Int)(R rw:List aS)(hgf:ai gf 3 ac fs∈R)(r:cD)(hN:dD r.index <= 1000000000):aR prog 130 [aE C,.agg (encR r)] [] ⟨A++⟨C,98,[aB ak p.globals,aB aU p.mutexes,aB ac p.funcs,aD gv,aD gf,aA n,aA at_]⟩::B,R++ai gv 0 a_ vis::rw⟩ λt s'=>t=bB ((lO vis r:Nat):Int) /\ s'=⟨A++⟨C,98,[aB ak p.globals,aB aU p.mutexes,aB ac p.funcs,aD gv,aD gf,aA n,aA at_]⟩::B,R++ai gv 0 a_ vis::rw⟩:=by
 have hix:∀h:0<r.index.length,r.index[0].nodes <= 1000000000:=λh=>by have:=oG r.index 0 h;omega
 refine bN 43 func130 ?_;refine go 7 λb1=>?_;refine b_ [b1,C,gv,gf] (aY [0,1,2,3,4,5] 2 (go 7 ?_));refine ab 6 J (nF vis J J J aK underlying95 underlying9 zeroValue157 mB) (aY [7] 0 (go 2 ?_));refine bG (go 6 ?_);by_cases h1:(bO vis r.name)=0
 ·refine aC true J (bg h1) (go 12 ?_);exact ⟨.inr J,_,⟨A++⟨C,98,[.sl p.globals.length (p.globals.flatMap ak),.sl p.mutexes.length (p.mutexes.flatMap aU),.sl p.funcs.length (p.funcs.flatMap ac),.val (.map (some gv)),.val (.map (some gf)),.val (.int .i64 n),.val (.int .i64 at_)]⟩::B,R++ai gv 0 a_ vis::rw⟩,bT J (bM J),aj (.cons _ (.refl _)) (.refl _),fI (by unfold lO pX;simp [h1]<;>first|(split<;>omega)|exact h_.1 Y|(rw [if_neg y5,zA _ _ Y])|(rw [if_pos (h_.1 Y)];rfl)),rfl⟩
 refine aC false J (bZ h1) (go 8 ?_);by_cases h4:(bO vis r.name)=2
 ·refine aC false J (dv h4) (go 14 ?_);refine aC false J (bZ Y) (go 3 ?_);by_cases h6:(0:Int)<((r.index.length:Nat):Int);focus
   refine aC true J (ek h6) ?_;refine aF J (io true J J J runUnderlying4 J) (go 12 ?_)
  rotate_left;refine aC false J (em h6) ?_;refine aF J (io false J J J runUnderlying4 J) (go 7 ?_);refine aC false J (bZ Y) (go 13 ?_);all_goals
   exact ⟨.inr J,_,⟨A++⟨C,98,[.sl p.globals.length (p.globals.flatMap ak),.sl p.mutexes.length (p.mutexes.flatMap aU),.sl p.funcs.length (p.funcs.flatMap ac),.val (.map (some gv)),.val (.map (some gf)),.val (.int .i64 n),.val (.int .i64 at_)]⟩::B,R++ai gv 0 a_ vis::rw⟩,bT J (bM J),aj (.cons _ (.refl _)) (.refl _),fI (by unfold lO pX;simp [h1,h4,h6]<;>first|(split<;>omega)|exact h_.1 Y|(rw [if_neg y5,zA _ _ Y])|(rw [if_pos (h_.1 Y)];rfl)),rfl⟩
 refine aC true J (fe h4) (go 2 ?_);by_cases h10:(bO vis r.name)=3;focus
  refine aC false J (dv h10) (go 11 ?_);refine aC true J (bg h10) (go 3 ?_);by_cases h17:(0:Int)<((r.index.length:Nat):Int);focus
   refine aC true J (ek h17) ?_;refine aF J (io false J J J runUnderlying4 J) (go 7 ?_);refine aC true J (bg h10) (go 9 ?_);refine aF J (bS bR bb r.index fw ei 0 J J J J Y V runUnderlying85 sizeOf87) (go 1 ?_);refine cy J call128 J (tg r.index[0] (hix Y) (_::A) B C gv gf p vis fs _ _ R rw hgf) ?_;rintro _ _ ⟨rfl,rfl⟩;refine go 6 ?_
  rotate_left;refine aC false J (em h17) ?_;refine aF J (io true J J J runUnderlying4 J) (go 12 ?_)
 rotate_left 2;refine aC true J (fe h10) (go 3 ?_);by_cases h17:(bO vis r.name)=4
 ·refine aC false J (dv h17) (go 7 ?_);refine aC false J (bZ h10) (go 3 ?_);by_cases h19:(0:Int)<((r.index.length:Nat):Int);focus
   refine aC true J (ek h19) ?_;refine aF J (io true J J J runUnderlying4 J) (go 12 ?_)
  rotate_left;refine aC false J (em h19) ?_;refine aF J (io false J J J runUnderlying4 J) (go 7 ?_);refine aC false J (bZ h10) (go 13 ?_);all_goals
   exact ⟨.inr J,_,⟨A++⟨C,98,[.sl p.globals.length (p.globals.flatMap ak),.sl p.mutexes.length (p.mutexes.flatMap aU),.sl p.funcs.length (p.funcs.flatMap ac),.val (.map (some gv)),.val (.map (some gf)),.val (.int .i64 n),.val (.int .i64 at_)]⟩::B,R++ai gv 0 a_ vis::rw⟩,bT J (bM J),aj (.cons _ (.refl _)) (.refl _),fI (by unfold lO pX;simp [h1,h4,h10,h17,h19]<;>first|(split<;>omega)|exact h_.1 Y|(rw [if_neg y5,zA _ _ Y])|(rw [if_pos (h_.1 Y)];rfl)),rfl⟩
 refine aC true J (fe h17) (go 16 ?_);all_goals
  exact ⟨.inr J,_,⟨A++⟨C,98,[.sl p.globals.length (p.globals.flatMap ak),.sl p.mutexes.length (p.mutexes.flatMap aU),.sl p.funcs.length (p.funcs.flatMap ac),.val (.map (some gv)),.val (.map (some gf)),.val (.int .i64 n),.val (.int .i64 at_)]⟩::B,R++ai gv 0 a_ vis::rw⟩,bT J (bM J),aj (.cons _ (.refl _)) (.refl _),fI (by unfold lO pX;simp [h1,h4,h10,h17]<;>first|(split<;>omega)|exact h_.1 Y|(rw [if_neg y5,zA _ _ Y])|(rw [if_pos (h_.1 Y)];rfl)),rfl⟩
def BL(v:bd):∀(l:List cK)(xs:List bp)(k:Nat)(h:k<l.length)(h2:k<xs.length),gW v (l.take k) (xs.take k)=0 -> kp v l[k] xs[k]=0 -> gW v (l.take (k+1)) (xs.take (k+1))=0
 |a::l,x::xs,0,_,_,_,h=>by rw [jI,jI,gW,if_pos iW,lM,lM,gW];intros;simp_all
 |a::l,x::xs,k+1,hk,hk2,h1,h2=>by
  rw [jI,jI,gW] at h1;rw [jI,jI,gW];split at h1
  ·rename_i h3;rw [if_pos h3];exact BL v l xs k nS (by simpa using hk2) h1 mR
  rename_i h3;exact absurd h1 h3
def Fa(v:bd):∀(l:List cK)(xs:List bp)(k:Nat)(h:k<l.length)(h2:k<xs.length),gW v (l.take k) (xs.take k)=0 -> kp v l[k] xs[k]≠0 -> gW v l xs=kp v l[k] xs[k]
 |a::l,x::xs,0,_,_,_,h=>by rw [gW,if_neg iW];rfl
 |a::l,x::xs,k+1,hk,hk2,h1,h2=>by
  rw [jI,jI,gW] at h1;rw [gW];split at h1
  ·rename_i h3;rw [if_pos h3];exact Fa v l xs k nS (by simpa using hk2) h1 mR
  rename_i h3;exact absurd h1 h3
def FP(A B:List aT)(C gv gf:Nat)(p:aZ)(vis:bd)(fs:dC)(n at_:Int)(R rw:List aS)(hgf:ai gf 3 ac fs∈R)(s:aL)(hw:s.wt <= 900000000)(hfo:dz vis fs):aR prog 131 [aE C,.agg (dW s)] [] ⟨A++⟨C,98,[aB ak p.globals,aB aU p.mutexes,aB ac p.funcs,aD gv,aD gf,aA n,aA at_]⟩::B,R++ai gv 0 a_ vis::rw⟩ λt s'=>t=bB ((oL vis fs s.name s.args:Nat):Int) /\ s'=⟨A++⟨C,98,[aB ak p.globals,aB aU p.mutexes,aB ac p.funcs,aD gv,aD gf,aA n,aA at_]⟩::B,R++ai gv 0 a_ vis::rw⟩:=by
 have hwp:=f6 s;have hal:=oj s.args;have hak:∀k (h:k<s.args.length),s.args[k].expr.nodes <= 900000000 /\ dD s.args[k].ref.index <= 900000000:=λk h=>by have h1:=rN s.args k h;unfold cK.wt cD.wt at h1;omega
 refine bN 66 func131 ?_;refine go 8 λb1=>?_;refine b_ [b1,C,gv,gf] (aY [0,1,2,3,4,5] 1 (go 7 ?_));refine ab 6 J (nF vis J J J aK underlying95 underlying9 zeroValue157 mB) ?_;refine bG (go 4 ?_);by_cases h1:(bO vis s.name)=0
 ·refine aC true J (bg h1) (go 12 ?_);exact ⟨.inr J,_,⟨A++⟨C,98,[aB ak p.globals,aB aU p.mutexes,aB ac p.funcs,aD gv,aD gf,aA n,aA at_]⟩::B,R++ai gv 0 a_ vis::rw⟩,bT J (bM J),aj (.cons _ (.refl _)) (.refl _),fI (by unfold oL;simp [h1]),J⟩
 refine aC false J (bZ h1) (go 6 ?_);by_cases h4:(bO vis s.name)=5
 ·refine aC true J (bg h4) (go 8 ?_);refine b_ [b1,C,gv,gf] ?_;obtain ⟨f,hf⟩:=hfo.2 s.name Y;refine aY [0,1,2,3,4,5] 3 (go 7 ?_);refine ab 6 J (R1 (m:=3) (ev:=ac) fs J J J rS V (λ_=>J) underlying96 underlying9 zeroValue67 mB hf) (aY [7,8] 0 (go 3 ?_));refine bG (go 9 ?_);by_cases h6:((s.args.length:Nat):Int)=((f.params.length:Nat):Int)
  ·refine aC false J (dv h6) (go 15 ?_);refine jO (λk=>gW vis (s.args.take k) (f.params.take k)=0) (s.args.length) 37 (λk=>[(0,aE C),(3,aE b1),(4,bB 0),(5,.c (aB cG f.params)),(35,.c (aB dA s.args)),(36,aX s.args.length)]) (by simp [gW]) (ao J) λk hk hvk=>?_;replace hvk:gW vis (s.args.take k) (f.params.take k)=0:=hvk
   try dsimp only
   refine go 2 ?_;by_cases h8:((k:Nat):Int)<((s.args.length:Nat):Int)
   ·refine aC true J (ck h8) (go 11 ?_);refine aF J (bS dA dA s.args mj (λ_=>J) k J J J J Y V runUnderlying118 sizeOf135) (go 14 λb2=>?_);refine b_ [b2,b1,C] (aY [0] 8 (go 2 ?_));rcases bq (s.args[k].mutex) with h10|h10;focus
     refine ab 1 J (cI (bF h10) (ca (hU:=λ_ h=>(gK.1 h).2 aK) [] isAgg4 sizeOf4)) (aY [2,3] 5 (go 3 ?_));refine ab 4 J (bS cG cG f.params gx (λ_=>J) k J J J J Y V runUnderlying64 sizeOf69) (aY [5] 3 (go 2 ?_));rcases bq (f.params[k].mutex) with h11|h11;focus
      refine ab 6 J (cI (bF h11) (jh J J isAgg4 sizeOf4 J)) ?_;refine ab 7 J (io false J J J runUnderlying4 J) (aY [8] 0 (go 2 ?_));refine bG (go 5 ?_);refine aF J (cI (bF h10) (ca [] isAgg4 sizeOf4)) (go 8 ?_);refine cy J call130 J (B6 (_::_::A) B C gv gf p vis fs _ _ R rw hgf s.args[k].ref uh) ?_;rintro _ _ ⟨rfl,rfl⟩;refine go 6 ?_;have ha29:kp vis s.args[k] f.params[k]=lO vis s.args[k].ref:=by unfold kp;rw [h10,h11];rfl
      refine go 1 ?_;by_cases h16:((lO vis s.args[k].ref:Nat):Int)=0
      ·refine aC false J (dv h16) (go 7 ?_);refine bJ J (go 2 ?_);exact ⟨Y,(BL vis _ _ k Y Y hvk (by rw [ha29];omega)),az (h1:=(.cons _ (.refl _))) (h:=av J (bv Y) (ao J)) (λb hb=>dT _ (hb))⟩
      refine aC true J (fe h16) (go 15 ?_)
     rotate_left;refine ab 6 J (cI (bF h11) (jh J J isAgg4 sizeOf4 J)) ?_;refine ab 7 J (io true J J J runUnderlying4 J) (aY [8] 0 (go 2 ?_));refine bG (go 7 ?_);have ha29:kp vis s.args[k] f.params[k]=8:=by unfold kp;rw [h10,h11];rfl
     refine go 1 ?_;refine aC true J J (go 15 ?_)
    rotate_left 2;focus
     refine ab 1 J (cI (bF h10) (ca (hU:=λ_ h=>(gK.1 h).2 aK) [] isAgg4 sizeOf4)) (aY [2,3] 5 (go 3 ?_));refine ab 4 J (bS cG cG f.params gx (λ_=>J) k J J J J Y V runUnderlying64 sizeOf69) (aY [5] 3 (go 2 ?_));rcases bq (f.params[k].mutex) with h22|h22;focus
      refine ab 6 J (cI (bF h22) (jh J J isAgg4 sizeOf4 J)) ?_;refine ab 7 J (io true J J J runUnderlying4 J) (aY [8] 0 (go 2 ?_));refine bG (go 7 ?_);have ha29:kp vis s.args[k] f.params[k]=8:=by unfold kp;rw [h10,h22];rfl
      refine go 1 ?_;refine aC true J J (go 15 ?_)
     rotate_left;refine ab 6 J (cI (bF h22) (jh J J isAgg4 sizeOf4 J)) ?_;refine ab 7 J (io false J J J runUnderlying4 J) (aY [8] 0 (go 2 ?_));refine bG (go 5 ?_);refine aF J (cI (bF h10) (ca [] isAgg4 sizeOf4)) (go 8 ?_);refine cy J call128 J (tg s.args[k].expr uh (_::_::A) B C gv gf p vis fs _ _ R rw hgf) ?_;rintro _ _ ⟨rfl,rfl⟩;refine go 6 ?_;have ha29:kp vis s.args[k] f.params[k]=gA vis s.args[k].expr:=by unfold kp;rw [h10,h22];rfl
     refine go 1 ?_;by_cases h30:((gA vis s.args[k].expr:Nat):Int)=0
     ·refine aC false J (dv h30) (go 7 ?_);refine bJ J (go 2 ?_);exact ⟨Y,(BL vis _ _ k Y Y hvk (by rw [ha29];omega)),az (h1:=(.cons _ (.refl _))) (h:=av J (bv Y) (ao J)) (λb hb=>dT _ (hb))⟩
     refine aC true J (fe h30) (go 15 ?_)
    all_goals
     exact ⟨.inr J,_,⟨A++⟨C,98,[aB ak p.globals,aB aU p.mutexes,aB ac p.funcs,aD gv,aD gf,aA n,aA at_]⟩::B,R++ai gv 0 a_ vis::rw⟩,bT J (bM J),aj (.cons _ (.cons _ (.refl _))) (.refl _),fI (by unfold oL;rw [if_neg Y,if_pos Y,hf];show (((if s.args.length=f.params.length then gW vis s.args f.params else 7:Nat):Int))=_;rw [if_pos Y,Fa vis s.args f.params k Y Y hvk (by rw [ha29];omega),ha29]<;>rfl),rfl⟩
   refine aC false J (cg h8) (go 15 ?_);exact ⟨.inr J,_,⟨A++⟨C,98,[aB ak p.globals,aB aU p.mutexes,aB ac p.funcs,aD gv,aD gf,aA n,aA at_]⟩::B,R++ai gv 0 a_ vis::rw⟩,bT J (bM J),aj (.cons _ (.refl _)) (.refl _),fI (by unfold oL;rw [if_neg Y,if_pos Y,hf];show (((if s.args.length=f.params.length then gW vis s.args f.params else 7:Nat):Int))=_;rw [take_of_length_le Y,take_of_length_le Y] at hvk;rw [if_pos Y,hvk];rfl),J⟩
  refine aC true J (fe h6) (go 10 ?_);exact ⟨.inr J,_,⟨A++⟨C,98,[aB ak p.globals,aB aU p.mutexes,aB ac p.funcs,aD gv,aD gf,aA n,aA at_]⟩::B,R++ai gv 0 a_ vis::rw⟩,bT J (bM J),aj (.cons _ (.refl _)) (.refl _),fI (by unfold oL;rw [if_neg Y,if_pos Y,hf];show (((if s.args.length=f.params.length then gW vis s.args f.params else 7:Nat):Int))=_;rw [if_neg Y];rfl),J⟩
 refine aC false J (bZ h4) (go 12 ?_);exact ⟨.inr J,_,⟨A++⟨C,98,[aB ak p.globals,aB aU p.mutexes,aB ac p.funcs,aD gv,aD gf,aA n,aA at_]⟩::B,R++ai gv 0 a_ vis::rw⟩,bT J (bM J),aj (.cons _ (.refl _)) (.refl _),fI (by unfold oL;simp [h1,h4]),J⟩
def Ns(A B:List aT)(C gv gf:Nat)(p:aZ)(vis:bd)(fs:dC)(n at_:Int)(R rw:List aS)(hgf:ai gf 3 ac fs∈R)(s:aL)(hw:s.wt <= 900000000)(hfo:dz vis fs):aR prog 95 [aE C,.agg (dW s)] [] ⟨A++⟨C,98,[aB ak p.globals,aB aU p.mutexes,aB ac p.funcs,aD gv,aD gf,aA n,aA at_]⟩::B,R++ai gv 0 a_ vis::rw⟩ λt s'=>t=bB ((jW vis fs s:Nat):Int) /\ s'=⟨A++⟨C,98,[aB ak p.globals,aB aU p.mutexes,aB ac p.funcs,aD gv,aD gf,aA n,aA at_]⟩::B,R++ai gv 0 a_ vis::rw⟩:=by
 have hwp:=f6 s;unfold cD.wt at hwp;refine bN 55 func95 ?_;refine go 16 λb1=>?_;by_cases h1:s.kind=1
 ·refine aC true J (bg h1) (go 6 ?_);refine b_ [b1,C,gv,gf] (aY [0,1,2,3,4,5] 2 (go 7 ?_));refine ab 6 J (nF vis J J J aK underlying95 underlying9 zeroValue157 mB) ?_;by_cases h3:(bO vis s.name)=0;focus
   refine ab 7 J (ej false J J J (dv h3)) ?_;refine bG (go 9 ?_);refine cy J call128 J (tg s.expr Y (_::A) B C gv gf p vis fs _ _ R rw hgf) ?_;rintro _ _ ⟨rfl,rfl⟩;refine go 6 ?_
  rotate_left;refine ab 7 J (ej true J J J (fe h3)) ?_;refine bG (go 11 ?_);all_goals
   exact ⟨.inr J,_,⟨A++⟨C,98,[aB ak p.globals,aB aU p.mutexes,aB ac p.funcs,aD gv,aD gf,aA n,aA at_]⟩::B,R++ai gv 0 a_ vis::rw⟩,bT J (bM J),aj (.cons _ (.refl _)) (.refl _),fI (by unfold jW;simp [h1,h3]<;>(split<;>omega)),rfl⟩
 refine aC false J (bZ h1) (go 6 ?_);by_cases h8:s.kind=2
 ·refine aC true J (bg h8) (go 10 ?_);refine cy J call129 J (K3 (_::A) B C gv gf p vis fs _ _ R rw hgf s.name) ?_;rintro _ _ ⟨rfl,rfl⟩;refine go 6 ?_;by_cases h11:((lr vis s.name:Nat):Int)=0;focus
   refine aC false J (dv h11) (go 10 ?_);refine cy J call128 J (tg s.expr Y (_::A) B C gv gf p vis fs _ _ R rw hgf) ?_;rintro _ _ ⟨rfl,rfl⟩;refine go 6 ?_
  rotate_left;refine aC true J (fe h11) (go 13 ?_);all_goals
   exact ⟨.inr J,_,⟨A++⟨C,98,[aB ak p.globals,aB aU p.mutexes,aB ac p.funcs,aD gv,aD gf,aA n,aA at_]⟩::B,R++ai gv 0 a_ vis::rw⟩,bT J (bM J),aj (.cons _ (.refl _)) (.refl _),fI (by unfold jW;simp [h1,h8,h11]<;>(split<;>omega)),rfl⟩
 refine aC false J (bZ h8) (go 7 ?_);by_cases h16:s.kind=5
 ·refine aC true J (bg h16) (go 12 ?_);refine cy J call130 J (B6 (_::A) B C gv gf p vis fs _ _ R rw hgf s.ref Y) ?_;rintro _ _ ⟨rfl,rfl⟩;refine go 6 ?_;exact ⟨.inr J,_,⟨A++⟨C,98,[aB ak p.globals,aB aU p.mutexes,aB ac p.funcs,aD gv,aD gf,aA n,aA at_]⟩::B,R++ai gv 0 a_ vis::rw⟩,bT J (bM J),aj (.cons _ (.refl _)) (.refl _),fI (by unfold jW;simp [h1,h8,h16]<;>(split<;>omega)),rfl⟩
 refine aC false J (bZ h16) (go 5 ?_);by_cases h21:s.kind=6
 ·refine aC true J (bg h21) (go 9 ?_);refine cy J call130 J (B6 (_::A) B C gv gf p vis fs _ _ R rw hgf s.ref Y) ?_;rintro _ _ ⟨rfl,rfl⟩;refine go 6 ?_;exact ⟨.inr J,_,⟨A++⟨C,98,[aB ak p.globals,aB aU p.mutexes,aB ac p.funcs,aD gv,aD gf,aA n,aA at_]⟩::B,R++ai gv 0 a_ vis::rw⟩,bT J (bM J),aj (.cons _ (.refl _)) (.refl _),fI (by unfold jW;simp [h1,h8,h16,h21]<;>(split<;>omega)),rfl⟩
 refine aC false J (bZ h21) (go 7 ?_);by_cases h25:s.kind=3
 ·refine aC true J (bg h25) (go 11 ?_);refine cy J call131 J (FP (_::A) B C gv gf p vis fs _ _ R rw hgf s hw hfo) ?_;rintro _ _ ⟨rfl,rfl⟩;refine go 6 ?_;exact ⟨.inr J,_,⟨A++⟨C,98,[aB ak p.globals,aB aU p.mutexes,aB ac p.funcs,aD gv,aD gf,aA n,aA at_]⟩::B,R++ai gv 0 a_ vis::rw⟩,bT J (bM J),aj (.cons _ (.refl _)) (.refl _),fI (by unfold jW;simp [h1,h8,h16,h21,h25]<;>(split<;>omega)),rfl⟩
 refine aC false J (bZ h25) (go 5 ?_);by_cases h30:s.kind=4
 ·refine aC true J (bg h30) (go 8 ?_);refine cy J call131 J (FP (_::A) B C gv gf p vis fs _ _ R rw hgf s hw hfo) ?_;rintro _ _ ⟨rfl,rfl⟩;refine go 6 ?_;exact ⟨.inr J,_,⟨A++⟨C,98,[aB ak p.globals,aB aU p.mutexes,aB ac p.funcs,aD gv,aD gf,aA n,aA at_]⟩::B,R++ai gv 0 a_ vis::rw⟩,bT J (bM J),aj (.cons _ (.refl _)) (.refl _),fI (by unfold jW;simp [h1,h8,h16,h21,h25,h30]<;>(split<;>omega)),rfl⟩
 refine aC false J (bZ h30) (go 7 ?_);by_cases h34:s.kind=7
 ·refine aC true J (bg h34) (go 12 ?_);refine cy J call128 J (tg s.expr Y (_::A) B C gv gf p vis fs _ _ R rw hgf) ?_;rintro _ _ ⟨rfl,rfl⟩;refine go 6 ?_;exact ⟨.inr J,_,⟨A++⟨C,98,[aB ak p.globals,aB aU p.mutexes,aB ac p.funcs,aD gv,aD gf,aA n,aA at_]⟩::B,R++ai gv 0 a_ vis::rw⟩,bT J (bM J),aj (.cons _ (.refl _)) (.refl _),fI (by unfold jW;simp [h1,h8,h16,h21,h25,h30,h34]<;>(split<;>omega)),rfl⟩
 refine aC false J (bZ h34) (go 5 ?_);by_cases h39:s.kind=8;focus
  refine aC true J (bg h39) (go 9 ?_);refine cy J call128 J (tg s.expr Y (_::A) B C gv gf p vis fs _ _ R rw hgf) ?_;rintro _ _ ⟨rfl,rfl⟩;refine go 6 ?_
 rotate_left;refine aC false J (bZ h39) (go 13 ?_);all_goals
  exact ⟨.inr J,_,⟨A++⟨C,98,[aB ak p.globals,aB aU p.mutexes,aB ac p.funcs,aD gv,aD gf,aA n,aA at_]⟩::B,R++ai gv 0 a_ vis::rw⟩,bT J (bM J),aj (.cons _ (.refl _)) (.refl _),fI (by unfold jW;simp [h1,h8,h16,h21,h25,h30,h34,h39]<;>(split<;>omega)),rfl⟩
def td{fs:dC}{l:List aL}{own:List aG}{st x:dt}{k:Nat}(hk:k<l.length)(h:dP fs (l.drop k) own st=dP fs l [] x):
  ((fP fs l[k] st).1≠0 -> iU fs l x=fP fs l[k] st) /\ ((fP fs l[k] st).1=0 -> dP fs (l.drop (k+1)) (m7 l[k] own) (fP fs l[k] st).2=dP fs l [] x):=by
 rw [iK hk,dP] at h;refine ⟨λh0=>?_,λh0=>?_⟩
 ·rw [if_neg h0] at h;unfold iU;rw [←h];unfold gR;rw [if_neg h0]
 rw [if_pos h0] at h;exact h
def TS{fs:dC}{l:List aL}{own:List aG}{st x:dt}{k:Nat}(hk:k=l.length)(h:dP fs (l.drop k) own st=dP fs l [] x):iU fs l x=(0,⟨own.foldl d_ st.vis,st.n,st.at_⟩):=by
 rw [ka Y,dP] at h;unfold iU;rw [←h];rfl
def TU(l:List aL)(k:Nat)(h:k<l.length):bQ (l.drop k)=l[k].wt+bQ (l.drop (k+1)):=by rw [iK h,bQ]
def Nf(own:List aG)(v:bd)(j:Nat)(h:j<own.length):d_ ((own.take j).foldl d_ v) own[j]=(own.take (j+1)).foldl d_ v:=by
 rw [ga h,y_];rfl
def HY(l:List aL)(ih1:∀k (h:k<l.length) (A B:List aT) (C gv gf:Nat) (p:aZ) (fs:dC) (R rw:List aS) (hgf:ai gf 3 ac fs∈R) (z:Int) (x:dt) (hz:z=((x.n:Nat):Int)) (hfo:dz x.vis fs) (hn:x.n+bQ l[k].thn <= 900000000),aR prog 70 [aE C,.c (aB encS l[k].thn)] [C,gv] ⟨A++⟨C,98,[aB ak p.globals,aB aU p.mutexes,aB ac p.funcs,aD gv,aD gf,aA z,aA x.at_]⟩::B,R++ai gv 0 a_ x.vis::rw⟩ λt s'=>∃(e:Nat) (y:dt),iU fs l[k].thn x=(e,y) /\ t=aX e /\ s'=⟨A++⟨C,98,[aB ak p.globals,aB aU p.mutexes,aB ac p.funcs,aD gv,aD gf,am y.n,aA y.at_]⟩::B,R++ai gv 0 a_ y.vis::rw⟩)(ih2:∀k (h:k<l.length) (A B:List aT) (C gv gf:Nat) (p:aZ) (fs:dC) (R rw:List aS) (hgf:ai gf 3 ac fs∈R) (z:Int) (x:dt) (hz:z=((x.n:Nat):Int)) (hfo:dz x.vis fs) (hn:x.n+bQ l[k].els <= 900000000),aR prog 70 [aE C,.c (aB encS l[k].els)] [C,gv] ⟨A++⟨C,98,[aB ak p.globals,aB aU p.mutexes,aB ac p.funcs,aD gv,aD gf,aA z,aA x.at_]⟩::B,R++ai gv 0 a_ x.vis::rw⟩ λt s'=>∃(e:Nat) (y:dt),iU fs l[k].els x=(e,y) /\ t=aX e /\ s'=⟨A++⟨C,98,[aB ak p.globals,aB aU p.mutexes,aB ac p.funcs,aD gv,aD gf,am y.n,aA y.at_]⟩::B,R++ai gv 0 a_ y.vis::rw⟩)(A B:List aT)(C gv gf:Nat)(p:aZ)(fs:dC)(R rw:List aS)(hgf:ai gf 3 ac fs∈R)(z:Int)(x:dt)(hz:z=((x.n:Nat):Int))(hfo:dz x.vis fs)(hn:x.n+bQ l <= 900000000):aR prog 70 [aE C,.c (aB encS l)] [C,gv] ⟨A++⟨C,98,[aB ak p.globals,aB aU p.mutexes,aB ac p.funcs,aD gv,aD gf,aA z,aA x.at_]⟩::B,R++ai gv 0 a_ x.vis::rw⟩ λt s'=>∃(e:Nat) (y:dt),iU fs l x=(e,y) /\ t=aX e /\ s'=⟨A++⟨C,98,[aB ak p.globals,aB aU p.mutexes,aB ac p.funcs,aD gv,aD gf,am y.n,aA y.at_]⟩::B,R++ai gv 0 a_ y.vis::rw⟩:=by
 subst hz;obtain ⟨x0,rfl⟩:∃y,y=x:=⟨_,rfl⟩;have hln:=nY l;refine bN 80 func70 ?_;refine go 19 ?_;refine fZ 9 1 ?_;refine ff (λg:Nat×aM×List aG×dt=>(⟨80,aO g.2.1++[C,gv],⟨A++⟨C,98,[aB ak p.globals,aB aU p.mutexes,aB ac p.funcs,aD gv,aD gf,am g.2.2.2.n,aA g.2.2.2.at_]⟩::B,⟨g.2.1,9,1,g.2.2.1.length,cZ g.2.2.1⟩::R++ai gv 0 a_ g.2.2.2.vis::rw⟩,[(15,aX g.1),(5,au g.2.1),(0,aE C),(4,bB 0),(13,.c (aB encS l)),(14,aX l.length)]⟩:AS)) (λg=>g.1 <= l.length /\ dP fs (l.drop g.1) g.2.2.1 g.2.2.2=dP fs l [] x0 /\ dz g.2.2.2.vis fs /\ g.2.2.2.n+bQ (l.drop g.1) <= 900000000 /\ g.2.2.1.length <= g.1) (λg=>l.length-g.1) (0,.slice none 0 0,[],x0) (az (by intro b hb;simpa [aO,Value.ownBlock] using hb)) ⟨d2 _,J,hfo,hn,bW _⟩ ?_;rintro ⟨k,v,own,⟨vis,n,at_⟩⟩ ⟨hk,hst,hfk,hnk,hol⟩;dsimp only at hk hst hfk hnk hol
 try dsimp only
 refine go 2 ?_;by_cases h1:((k:Nat):Int)<((l.length:Nat):Int)
 ·refine aC true J (ck h1) (go 10 ?_);refine aF J (bS encS dW l nj mg k J J J J Y V runUnderlying65 sizeOf120) (go 23 λb1=>?_);refine bJ J (go 10 ?_);have hwk:=pE l k Y;have hwd:=TU l k Y;have hwq:=f6 l[k];obtain ⟨bm,hpa⟩:∃e,jW vis fs l[k]=e:=⟨_,rfl⟩;refine cy J call95 J (Ns (_::A) B C gv gf p vis fs _ _ (_::R) rw rS l[k] Y hfk) ?_;rintro _ _ ⟨rfl,rfl⟩;rw [hpa];refine go 6 ?_;by_cases h3:((bm:Nat):Int)=0
  ·refine aC false J (dv h3) (go 10 ?_);by_cases h5:l[k].kind=1;focus
    refine aC true J (bg h5) (go 4 ?_);refine b_ [b1,C] (aY [0,1,2,3,4,5] 1 (go 7 ?_));refine an 6 J J (ou vis (_::R) J J J J J underlying95 underlying9 aK pZ ?_);refine bG (go 5 ?_);refine aW J (be (r:=cZ [l[k].name]) iM ?_);refine aW J (dR [] nG J J V c_ Y (@length_append _ own [l[k].name]).symm fi cb (r:=cZ (own++[l[k].name])) (by simp [cZ]) λw2=>?_);refine go 9 ?_;obtain rfl:bm=0:=Y;have hbg:hG l[k] ⟨vis,n,at_⟩=⟨(cc vis l[k].name 1),n+1,n⟩:=by unfold hG;dsimp only;rw [if_pos h5]
    have hf0:dz (cc vis l[k].name 1) fs:=hfk.put _ V;refine aW J (bj [C,gv] J J V call70 J (ih1 k Y (_::A) B C gv gf p fs (_::R) rw rS _ ⟨(cc vis l[k].name 1),n+1,n⟩ Kh hf0 LA) im ln ky ?_);rintro _ _ ⟨aa,⟨vis1,n1,at1⟩,hy1,rfl,rfl⟩;have hb1:=xw fs l[k].thn ⟨(cc vis l[k].name 1),n+1,n⟩;rw [hy1] at hb1;have hf1:=vO (l:=l[k].thn) (x:=⟨(cc vis l[k].name 1),n+1,n⟩) hf0;rw [hy1] at hf1;dsimp only at hb1 hf1;refine go 6 ?_;by_cases h14:((aa:Nat):Int)=0
    ·refine aC false J (dv h14) (go 10 ?_);refine aW J (bj [C,gv] J J V call70 J (ih2 k Y (_::A) B C gv gf p fs (_::R) rw rS _ ⟨vis1,n1,at1⟩ Ge hf1 Km) im ln ky ?_);rintro _ _ ⟨e2,⟨vis2,n2,at2⟩,hy2,rfl,rfl⟩;have hb2:=xw fs l[k].els ⟨vis1,n1,at1⟩;rw [hy2] at hb2;have hf2:=vO (l:=l[k].els) (x:=⟨vis1,n1,at1⟩) hf1;rw [hy2] at hf2;dsimp only at hb2 hf2;refine go 6 ?_;by_cases h9:((e2:Nat):Int)=0
     ·refine aC false J (dv h9) (go 7 ?_);refine bJ J (go 2 ?_);have hs9:fP fs l[k] ⟨vis,n,at_⟩=(0,⟨vis2,n2,at2⟩):=Jp;have hnx:=(td Y hst).2 (by rw [hs9]);rw [hs9] at hnx;rw [show m7 l[k] own=(own++[l[k].name]) from if_pos h5] at hnx;exact ⟨(k+1,w2,(own++[l[k].name]),⟨vis2,n2,at2⟩),⟨by show k+1 <= l.length;omega,hnx,hf2,Fw,by show (own++[l[k].name]).length <= k+1;rw [length_append];simp only [List.length_singleton];omega⟩,by show l.length-(k+1)<l.length-k;omega,az (h1:=(.cons _ (.refl _))) (h:=av J (bv Y) (ao J)) j4⟩
     refine aC true J (fe h9) (go 15 ?_);have hs9:fP fs l[k] ⟨vis,n,at_⟩=(e2,⟨vis2,n2,at2⟩):=Gd;have hbk:=(td Y hst).1 (by rw [hs9];show e2≠0;omega);rw [hs9] at hbk;exact ⟨.inr J,_,⟨A++⟨C,98,[aB ak p.globals,aB aU p.mutexes,aB ac p.funcs,aD gv,aD gf,am n2,aA at2]⟩::B,R++ai gv 0 a_ vis2::rw⟩,bT J (bM J),aj (.cons _ (.refl _)) (.cons _ (.refl _)),e2,⟨vis2,n2,at2⟩,hbk,J,J⟩
   rotate_left;refine aC false J (bZ h5) (go 11 ?_);obtain rfl:bm=0:=Y;have hbg:hG l[k] ⟨vis,n,at_⟩=⟨vis,n+1,n⟩:=by unfold hG;dsimp only;rw [if_neg h5]
   have hf0:dz vis fs:=hfk;refine aW J (bj [C,gv] J J V call70 J (ih1 k Y (_::A) B C gv gf p fs (_::R) rw rS _ ⟨vis,n+1,n⟩ Kh hf0 LA) im ln ky ?_);rintro _ _ ⟨aa,⟨vis1,n1,at1⟩,hy1,rfl,rfl⟩;have hb1:=xw fs l[k].thn ⟨vis,n+1,n⟩;rw [hy1] at hb1;have hf1:=vO (l:=l[k].thn) (x:=⟨vis,n+1,n⟩) hf0;rw [hy1] at hf1;dsimp only at hb1 hf1;refine go 6 ?_;by_cases h14:((aa:Nat):Int)=0
   ·refine aC false J (dv h14) (go 10 ?_);refine aW J (bj [C,gv] J J V call70 J (ih2 k Y (_::A) B C gv gf p fs (_::R) rw rS _ ⟨vis1,n1,at1⟩ Ge hf1 Km) im ln ky ?_);rintro _ _ ⟨e2,⟨vis2,n2,at2⟩,hy2,rfl,rfl⟩;have hb2:=xw fs l[k].els ⟨vis1,n1,at1⟩;rw [hy2] at hb2;have hf2:=vO (l:=l[k].els) (x:=⟨vis1,n1,at1⟩) hf1;rw [hy2] at hf2;dsimp only at hb2 hf2;refine go 6 ?_;by_cases h16:((e2:Nat):Int)=0
    ·refine aC false J (dv h16) (go 7 ?_);refine bJ J (go 2 ?_);have hs9:fP fs l[k] ⟨vis,n,at_⟩=(0,⟨vis2,n2,at2⟩):=Jp;have hnx:=(td Y hst).2 (by rw [hs9]);rw [hs9] at hnx;rw [show m7 l[k] own=own from if_neg h5] at hnx;exact ⟨(k+1,v,own,⟨vis2,n2,at2⟩),⟨by show k+1 <= l.length;omega,hnx,hf2,Fw,by show own.length <= k+1;omega⟩,by show l.length-(k+1)<l.length-k;omega,az (h1:=(.cons _ (.refl _))) (h:=av J (bv Y) (ao J)) j4⟩
    refine aC true J (fe h16) (go 15 ?_);have hs9:fP fs l[k] ⟨vis,n,at_⟩=(e2,⟨vis2,n2,at2⟩):=Gd;have hbk:=(td Y hst).1 (by rw [hs9];show e2≠0;omega);rw [hs9] at hbk;exact ⟨.inr J,_,⟨A++⟨C,98,[aB ak p.globals,aB aU p.mutexes,aB ac p.funcs,aD gv,aD gf,am n2,aA at2]⟩::B,R++ai gv 0 a_ vis2::rw⟩,bT J (bM J),aj (.cons _ (.refl _)) (.cons _ (.refl _)),e2,⟨vis2,n2,at2⟩,hbk,J,J⟩
   all_goals
    refine aC true J (fe h14) (go 16 ?_);have hs9:fP fs l[k] ⟨vis,n,at_⟩=(aa,⟨vis1,n1,at1⟩):=by rw [rb,if_pos hpa,hbg,hy1];show (if aa=0 then _ else _)=_;rw [if_neg Y]
    have hbk:=(td Y hst).1 (by rw [hs9];show aa≠0;omega);rw [hs9] at hbk;exact ⟨.inr J,_,⟨A++⟨C,98,[aB ak p.globals,aB aU p.mutexes,aB ac p.funcs,aD gv,aD gf,am n1,aA at1]⟩::B,R++ai gv 0 a_ vis1::rw⟩,bT J (bM J),aj (.cons _ (.refl _)) (.cons _ (.refl _)),aa,⟨vis1,n1,at1⟩,hbk,J,J⟩
  refine aC true J (fe h3) (go 16 ?_);have hs9:fP fs l[k] ⟨vis,n,at_⟩=(bm,⟨vis,n+1,n⟩):=by rw [rb,if_neg (by rw [hpa];omega),hpa]
  have hbk:=(td Y hst).1 (by rw [hs9];show bm≠0;omega);rw [hs9] at hbk;exact ⟨.inr J,_,⟨A++⟨C,98,[aB ak p.globals,aB aU p.mutexes,aB ac p.funcs,aD gv,aD gf,aA ((n+1:Nat):Int),am n]⟩::B,R++ai gv 0 a_ vis::rw⟩,bT J (bM J),aj (.cons _ (.refl _)) (.cons _ (.refl _)),bm,⟨vis,n+1,n⟩,hbk,J,J⟩
 refine aC false J (cg h1) (go 11 ?_);obtain rfl:k=l.length:=Y;have hb9:=TS J hst;refine mS 5 J ?_;refine go 7 ?_;refine ff (λj:Nat=>(⟨80,[C,gv],⟨A++⟨C,98,[aB ak p.globals,aB aU p.mutexes,aB ac p.funcs,aD gv,aD gf,am n,aA at_]⟩::B,R++ai gv 0 a_ ((own.take j).foldl d_ vis)::rw⟩,[(70,aX j),(0,aE C),(4,bB 0),(68,.c (.sl own.length (cZ own))),(69,aX own.length)]⟩:AS)) (λj=>j <= own.length) (λj=>own.length-j) 0 (az im) (d2 _) ?_;intro j hj
 try dsimp only
 refine go 2 ?_;by_cases h22:((j:Nat):Int)<((own.length:Nat):Int)
 ·refine aC true J (ck h22) (go 10 ?_);refine aF J (l9 (λx=>ae x) own j J J J J Y runUnderlying61 sizeOf9) (go 10 ?_);refine aW J (E8 ((own.take j).foldl d_ vis) R J J J J underlying95 underlying9 aK wn ?_);refine go 4 ?_;refine bJ J (go 2 ?_);rw [Nf own vis j Y];exact ⟨j+1,Y,by show own.length-(j+1)<own.length-j;omega,az (h:=av J (bv Y) (ao J)) (λb hb=>hb)⟩
 refine aC false J (cg h22) (go 15 ?_);obtain rfl:j=own.length:=Y;rw [take_of_length_le (bW _)];exact ⟨.inr J,_,⟨A++⟨C,98,[aB ak p.globals,aB aU p.mutexes,aB ac p.funcs,aD gv,aD gf,am n,aA at_]⟩::B,R++ai gv 0 a_ (own.foldl d_ vis)::rw⟩,bT J (bM J),aj (.refl _) (.refl _),0,⟨own.foldl d_ vis,n,at_⟩,hb9,J,J⟩
def EH:∀(N:Nat)(l:List aL),bQ l <= N -> ∀(A B:List aT) (C gv gf:Nat) (p:aZ) (fs:dC) (R rw:List aS) (hgf:ai gf 3 ac fs∈R) (z:Int) (x:dt) (hz:z=((x.n:Nat):Int)) (hfo:dz x.vis fs) (hn:x.n+bQ l <= 900000000),aR prog 70 [aE C,.c (aB encS l)] [C,gv] ⟨A++⟨C,98,[aB ak p.globals,aB aU p.mutexes,aB ac p.funcs,aD gv,aD gf,aA z,aA x.at_]⟩::B,R++ai gv 0 a_ x.vis::rw⟩ λt s'=>∃(e:Nat) (y:dt),iU fs l x=(e,y) /\ t=aX e /\ s'=⟨A++⟨C,98,[aB ak p.globals,aB aU p.mutexes,aB ac p.funcs,aD gv,aD gf,am y.n,aA y.at_]⟩::B,R++ai gv 0 a_ y.vis::rw⟩
 |0,l,h=>λA B C gv gf p fs R rw hgf z x hz hfo hn=>HY l (λk hk=>pP) (λk hk=>pP) A B C gv gf p fs R rw hgf z x hz hfo hn
 |N+1,l,h=>λA B C gv gf p fs R rw hgf z x hz hfo hn=>HY l
   (λk hk=>EH N l[k].thn tB)
   (λk hk=>EH N l[k].els tB) A B C gv gf p fs R rw hgf z x hz hfo hn
def EV{fs:dC}:∀(l:List bp) {v:bd},dz v fs -> dz (eW l v).2 fs
 |[],_,h=>h
 |x::l,v,h=>by
  rw [eW];split
  ·exact EV l (h.put _ (by unfold lU;split<;>decide))
  exact h
def G7{fs:dC}:∀(l:List bp) {v:bd},dz v fs -> dz (jn l v) fs
 |[],_,h=>h
 |x::l,v,h=>G7 l (h.del x.name)
def Oj{fs:dC}(f:bE){v:bd}(h:dz v fs):dz (gw fs f v).2.vis fs:=by
 unfold gw;split
 ·exact G7 _ (vO (EV _ h))
 exact EV _ h
def CE{l:List bp}{v v0:bd}{k:Nat}(hk:k<l.length)(h:eW (l.drop k) v=eW l v0):
  (bO v l[k].name=0 -> eW (l.drop (k+1)) (cc v l[k].name (lU l[k]))=eW l v0) /\ (bO v l[k].name≠0 -> eW l v0=(false,v)):=by
 rw [iK hk,eW] at h;refine ⟨λh0=>?_,λh0=>?_⟩
 ·rw [if_pos h0] at h;exact h
 rw [if_neg h0] at h;exact h.symm
def PK(l:List bp)(v:bd)(j:Nat)(h:j<l.length):d_ (jn (l.take j) v) l[j].name=jn (l.take (j+1)) v:=by
 unfold jn;rw [ga h,y_];rfl
def TT(A B:List aT)(C gv gf:Nat)(p:aZ)(fs:dC)(R rw:List aS)(hgf:ai gf 3 ac fs∈R)(n0 a0:Int)(v0:bd)(f:bE)(hfo:dz v0 fs)(hw:f.wt <= 900000000):aR prog 33 [aE C,.agg (ac f)] [C,gv] ⟨A++⟨C,98,[aB ak p.globals,aB aU p.mutexes,aB ac p.funcs,aD gv,aD gf,aA n0,aA a0]⟩::B,R++ai gv 0 a_ v0::rw⟩ λt s'=>∃(e:Nat) (y:dt),gw fs f v0=(e,y) /\ t=aX e /\ s'=⟨A++⟨C,98,[aB ak p.globals,aB aU p.mutexes,aB ac p.funcs,aD gv,aD gf,am y.n,aA y.at_]⟩::B,R++ai gv 0 a_ y.vis::rw⟩:=by
 unfold bE.wt at hw;refine bN 65 func33 ?_;refine go 28 λb1=>?_;refine ff (λg:Nat×bd=>(⟨65,[b1,C,gv],⟨⟨b1,67,ac f⟩::A++⟨C,98,[aB ak p.globals,aB aU p.mutexes,aB ac p.funcs,aD gv,aD gf,am 0,aA (-1)]⟩::B,R++ai gv 0 a_ g.2::rw⟩,[(19,aX g.1),(0,aE C),(3,aE b1),(4,bB 0),(17,.c (aB cG f.params)),(18,aX f.params.length)]⟩:AS)) (λg=>g.1 <= f.params.length /\ eW (f.params.drop g.1) g.2=eW f.params v0 /\ dz g.2 fs) (λg=>f.params.length-g.1) (0,v0) (az (λb hb=>hb)) ⟨d2 _,J,hfo⟩ ?_;rintro ⟨k,vis⟩ ⟨hk,hst,hfk⟩;dsimp only at hk hst hfk
 try dsimp only
 refine go 2 ?_;by_cases h1:((k:Nat):Int)<((f.params.length:Nat):Int)
 ·refine aC true J (ck h1) (go 10 ?_);refine aF J (bS cG cG f.params gx (λ_=>J) k J J J J Y V runUnderlying64 sizeOf69) (go 7 λb2=>?_);refine b_ [b2,b1,C,gv,gf] (aY [0,1,2,3,4,5] 2 (go 7 ?_));refine ab 6 J (nF vis J J J aK underlying95 underlying9 zeroValue157 mB) ?_;by_cases h3:(bO vis f.params[k].name)=0
  ·refine ab 7 J (ej false J J J (dv h3)) ?_;refine bG (go 5 ?_);refine b_ [b2,b1,C] (aY [0,1,2,3,4,5] 1 (go 7 ?_));refine an 6 J J (ou vis R J J J J J underlying95 underlying9 aK pZ ?_);refine bG (go 4 ?_);rcases bq (f.params[k].mutex) with h5|h5
   ·refine aF J (cI (bF h5) (ca [] isAgg4 sizeOf4)) (go 3 ?_);refine b_ [b2,b1,C] (aY [0,1,2,3,4,5] 1 (go 7 ?_));refine an 6 J J (ou (cc vis f.params[k].name 1) R J J J J J underlying95 underlying9 aK pZ ?_);refine bG (go 3 ?_);refine bJ J (go 2 ?_);have hnx:=(CE Y hst).1 Y;have hsp:lU f.params[k]=4:=by unfold lU;rw [h5];rfl
    rw [Vn];rw [hsp] at hnx;exact ⟨(k+1,cc vis f.params[k].name 4),⟨by show k+1 <= f.params.length;omega,hnx,hfk.put _ V⟩,yn,az (h1:=(.cons _ (.refl _))) (h:=av J (bv Y) (ao J)) nI⟩
   refine aF J (cI (bF h5) (ca [] isAgg4 sizeOf4)) (go 7 ?_);refine bJ J (go 2 ?_);have hnx:=(CE Y hst).1 Y;have hsp:lU f.params[k]=1:=by unfold lU;rw [h5];rfl
   rw [hsp] at hnx;exact ⟨(k+1,cc vis f.params[k].name 1),⟨by show k+1 <= f.params.length;omega,hnx,hfk.put _ V⟩,yn,az (h1:=(.cons _ (.refl _))) (h:=av J (bv Y) (ao J)) nI⟩
  refine ab 7 J (ej true J J J (fe h3)) ?_;refine bG (go 14 ?_);exact ⟨.inr J,_,⟨A++⟨C,98,[aB ak p.globals,aB aU p.mutexes,aB ac p.funcs,aD gv,aD gf,am 0,aA (-1)]⟩::B,R++ai gv 0 a_ vis::rw⟩,bT J (bM J),aj (.cons _ (.cons _ (.refl _))) (.refl _),5,⟨vis,0,-1⟩,by unfold gw;rw [(CE Y hst).2 Y];rfl,J,J⟩
 refine aC false J (cg h1) (go 14 ?_);obtain rfl:k=f.params.length:=Y;have hpr:eW f.params v0=(true,vis):=by rw [←hst,ka (bW _),eW]
 refine aW J (bj [C,gv] J J V call70 J (EH _ f.body (bW _) (_::A) B C gv gf p fs R rw hgf _ ⟨vis,0,-1⟩ jp hfk (by show 0+bQ f.body <= 900000000;omega)) im ln ky ?_);rintro _ _ ⟨aa,⟨vis1,n1,at1⟩,hy1,rfl,rfl⟩;refine go 13 ?_;refine ff (λj:Nat=>(⟨65,[b1,C,gv],⟨⟨b1,67,ac f⟩::A++⟨C,98,[aB ak p.globals,aB aU p.mutexes,aB ac p.funcs,aD gv,aD gf,am n1,aA at1]⟩::B,R++ai gv 0 a_ (jn (f.params.take j) vis1)::rw⟩,[(53,aX j),(0,aE C),(4,bB 0),(7,aX aa),(51,.c (aB cG f.params)),(52,aX f.params.length)]⟩:AS)) (λj=>j <= f.params.length) (λj=>f.params.length-j) 0 (az (λb hb=>hb)) (d2 _) ?_;intro j hj
 try dsimp only
 refine go 2 ?_;by_cases h10:((j:Nat):Int)<((f.params.length:Nat):Int)
 ·refine aC true J (ck h10) (go 10 ?_);refine aF J (bS cG cG f.params gx (λ_=>J) j J J J J Y V runUnderlying64 sizeOf69) (go 5 λb3=>?_);refine b_ [b3,b1,C] (aY [0,1,2,3,4,5] 1 (go 7 ?_));refine an 6 J J (E8 (jn (f.params.take j) vis1) R J J J J underlying95 underlying9 aK pZ ?_);refine bG (go 3 ?_);refine bJ J (go 2 ?_);rw [PK f.params vis1 j Y];exact ⟨j+1,Y,by show f.params.length-(j+1)<f.params.length-j;omega,az (h1:=(.cons _ (.refl _))) (h:=av J (bv Y) (ao J)) nI⟩
 refine aC false J (cg h10) (go 16 ?_);obtain rfl:j=f.params.length:=Y;rw [take_of_length_le (bW _)];exact ⟨.inr J,_,⟨A++⟨C,98,[aB ak p.globals,aB aU p.mutexes,aB ac p.funcs,aD gv,aD gf,am n1,aA at1]⟩::B,R++ai gv 0 a_ (jn f.params vis1)::rw⟩,bT J (bM J),aj (.cons _ (.refl _)) (.refl _),aa,⟨jn f.params vis1,n1,at1⟩,by unfold gw;rw [hpr,if_pos rfl,hy1],J,J⟩
def zL(A B:List aT)(C gv gf Nb Pb:Nat)(X:aT)(p:aZ)(vis:bd)(fs:dC)(n at_:Int)(rw:List aS)(m:Nat)(nm:aG)(sr:Int)(hg:bO vis nm=0)(hm:m <= 90000000):aR prog 69 [cB nm,bB sr,aE Pb,aE Nb] [Nb,gv] ⟨X::⟨Nb,3,[am m]⟩::⟨Pb,94,[.val (.pointer (some ⟨C,0,none⟩))]⟩::A++⟨C,98,[aB ak p.globals,aB aU p.mutexes,aB ac p.funcs,aD gv,aD gf,aA n,aA at_]⟩::B,ai gf 3 ac fs::ai gv 0 a_ vis::rw⟩ λt s'=>t=ap true /\ s'=⟨X::⟨Nb,3,[aA ((m+1:Nat):Int)]⟩::⟨Pb,94,[.val (.pointer (some ⟨C,0,none⟩))]⟩::A++⟨C,98,[aB ak p.globals,aB aU p.mutexes,aB ac p.funcs,aD gv,aD gf,aA n,aA at_]⟩::B,ai gf 3 ac fs::ai gv 0 a_ (cc vis nm sr)::rw⟩:=by
 refine bN 22 func69 ?_;refine go 13 ?_;refine aF J (nF vis J J J aK underlying95 underlying9 zeroValue157 gr) ?_;refine aC false J (dv hg) (go 13 ?_);refine aW J (ou vis [_] J J J J J underlying95 underlying9 aK wn ?_);refine go 5 ?_;refine bJ J (go 9 ?_);exact ⟨.inr J,_,⟨X::⟨Nb,3,[aA ((m+1:Nat):Int)]⟩::⟨Pb,94,[.val (.pointer (some ⟨C,0,none⟩))]⟩::A++⟨C,98,[aB ak p.globals,aB aU p.mutexes,aB ac p.funcs,aD gv,aD gf,aA n,aA at_]⟩::B,ai gf 3 ac fs::ai gv 0 a_ (cc vis nm sr)::rw⟩,bT J (bM J),aj (.refl _) (.refl _),J,J⟩
def zO(A B:List aT)(C gv gf Nb Pb:Nat)(X:aT)(p:aZ)(vis:bd)(fs:dC)(n at_:Int)(rw:List aS)(m:Nat)(nm:aG)(sr:Int)(hg:¬bO vis nm=0):aR prog 69 [cB nm,bB sr,aE Pb,aE Nb] [Nb,gv] ⟨X::⟨Nb,3,[am m]⟩::⟨Pb,94,[.val (.pointer (some ⟨C,0,none⟩))]⟩::A++⟨C,98,[aB ak p.globals,aB aU p.mutexes,aB ac p.funcs,aD gv,aD gf,aA n,aA at_]⟩::B,ai gf 3 ac fs::ai gv 0 a_ vis::rw⟩ λt s'=>t=ap false /\ s'=⟨X::⟨Nb,3,[am m]⟩::⟨Pb,94,[.val (.pointer (some ⟨C,0,none⟩))]⟩::A++⟨C,98,[aB ak p.globals,aB aU p.mutexes,aB ac p.funcs,aD gv,aD gf,aA n,aA at_]⟩::B,ai gf 3 ac fs::ai gv 0 a_ vis::rw⟩:=by
 refine bN 22 func69 ?_;refine go 13 ?_;refine aF J (nF vis J J J aK underlying95 underlying9 zeroValue157 gr) ?_;refine aC true J (fe hg) (go 10 ?_);exact ⟨.inr J,_,⟨X::⟨Nb,3,[am m]⟩::⟨Pb,94,[.val (.pointer (some ⟨C,0,none⟩))]⟩::A++⟨C,98,[aB ak p.globals,aB aU p.mutexes,aB ac p.funcs,aD gv,aD gf,aA n,aA at_]⟩::B,ai gf 3 ac fs::ai gv 0 a_ vis::rw⟩,bT J (bM J),aj (.refl _) (.refl _),J,J⟩
def rK{S:List (aG×Int)}{v v0:bd}{j n0:Nat}{q:aG×Int}(hq:S.drop j=q::S.drop (j+1))(h:fM (S.drop j) v j=fM S v0 n0):
  (bO v q.1=0 -> fM (S.drop (j+1)) (cc v q.1 q.2) (j+1)=fM S v0 n0) /\ (¬bO v q.1=0 -> fM S v0 n0=(some j,v)):=by
 rw [hq,fM] at h;refine ⟨λh0=>?_,λh0=>?_⟩
 ·rw [if_pos h0] at h;exact h
 rw [if_neg h0] at h;exact h.symm
def Q7(p:aZ):(eR p).length=p.globals.length+(p.mutexes.length+p.funcs.length):=by unfold eR;simp
def Iq(p:aZ)(k:Nat)(h:k<p.globals.length):(eR p).drop k=(p.globals[k].name,1)::(eR p).drop (k+1):=by
 rw [iK Eq];congr 1;unfold eR;rw [pj iW];simp
def EU(p:aZ)(k:Nat)(h:k<p.mutexes.length):(eR p).drop (p.globals.length+k)=(p.mutexes[k].name,mY p.mutexes[k])::(eR p).drop (p.globals.length+k+1):=by
 rw [iK Eq];congr 1;unfold eR;rw [pC aK,pj di];simp
def MM(p:aZ)(k:Nat)(h:k<p.funcs.length):(eR p).drop (p.globals.length+p.mutexes.length+k)=(p.funcs[k].name,5)::(eR p).drop (p.globals.length+p.mutexes.length+k+1):=by
 rw [iK Eq];congr 1;unfold eR;rw [pC di,pC di];simp;congr 2;omega
def K6(l:List bE)(k:Nat)(h:k<l.length):cc (fO (l.take k)) l[k].name l[k]=fO (l.take (k+1)):=by
 unfold fO;rw [ga h,y_];rfl
def dz.fun{v:bd}{fs:dC}(h:dz v fs)(s:aG)(f:bE):dz (cc v s 5) (cc fs s f):=
 ⟨h.1.put s 5,λq hq=>by
  rw [mG];rw [kx] at hq;split at hq
  ·rename_i e;rw [if_pos e];exact ⟨f,rfl⟩
  rename_i e;rw [if_neg e];exact h.2 q hq⟩
def dz.nil:dz [] []:=⟨by unfold co;simp,λs h=>by unfold bO dG at h;cases h⟩
def R5:Option Nat -> Int
 |none=>-1
 |some i=>(i:Int)
def Oe(A B:List aT)(C gv gf:Nat)(p:aZ)(rw:List aS)(hg:p.globals.length <= 9000000)(hm:p.mutexes.length <= 9000000)(hf:p.funcs.length <= 9000000):aR prog 32 [aE C] [C,gv,gf] ⟨A++⟨C,98,[aB ak p.globals,aB aU p.mutexes,aB ac p.funcs,aD gv,aD gf,aA 0,aA 0]⟩::B,ai gf 3 ac ([]:dC)::ai gv 0 a_ ([]:bd)::rw⟩ λt s'=>∃(r:Option Nat) (v:bd) (fsx:dC),fM (eR p) [] 0=(r,v) /\ t=bB (R5 r) /\ s'=⟨A++⟨C,98,[aB ak p.globals,aB aU p.mutexes,aB ac p.funcs,aD gv,aD gf,aA 0,aA 0]⟩::B,ai gf 3 ac fsx::ai gv 0 a_ v::rw⟩ /\ (r=none -> fsx=fO p.funcs /\ dz v fsx):=by
 refine bN 75 func32 ?_;refine go 14 λPb Nb=>?_;refine aF J (MB J (vs:=[.pointer (some ⟨Pb,0,none⟩),.pointer (some ⟨Nb,0,none⟩)]) J) (go 16 ?_);refine ff (λg:Nat×bd=>(⟨75,[Nb,Pb,C,gv,gf],⟨⟨Nb,3,[am g.1]⟩::⟨Pb,94,[.val (.pointer (some ⟨C,0,none⟩))]⟩::A++⟨C,98,[aB ak p.globals,aB aU p.mutexes,aB ac p.funcs,aD gv,aD gf,aA 0,aA 0]⟩::B,ai gf 3 ac []::ai gv 0 a_ g.2::rw⟩,[(19,aX g.1),(1,aE Pb),(2,bB 0),(3,aE Nb),(4,au (.func (.func 69) #[] #[.pointer (some ⟨Pb,0,none⟩),.pointer (some ⟨Nb,0,none⟩)])),(17,.c (aB ak p.globals)),(18,aX p.globals.length)]⟩:AS)) (λg=>g.1 <= p.globals.length /\ fM ((eR p).drop (g.1)) g.2 (g.1)=fM (eR p) [] 0 /\ dz g.2 []) (λg=>p.globals.length-g.1) (0,[]) (az nI) ⟨d2 _,J,dz.nil⟩ ?_;rintro ⟨k,vis1⟩ ⟨hk,hst1,hfk1⟩;dsimp only at hk hst1 hfk1
 try dsimp only
 refine go 2 ?_;by_cases h1:((k:Nat):Int)<((p.globals.length:Nat):Int)
 ·refine aC true J (ck h1) (go 10 ?_);refine aF J (bS ak ak p.globals nD (λ_=>J) k J J J J Y V runUnderlying23 sizeOf63) (go 10 λb1=>?_);by_cases hgk:bO vis1 p.globals[k].name=0
  ·refine aW J (nM [Nb,gv] J J J V call69 (us:=[cB (p.globals[k].name),bB 1]) J (zL A B C gv gf Nb Pb _ p vis1 _ _ _ rw (k) p.globals[k].name 1 hgk Y) im ln ky ?_);rintro _ _ ⟨rfl,rfl⟩;refine ⟨[],(λ_ b hb=>nomatch hb),?_⟩;refine go 8 ?_;refine bJ J (go 2 ?_);have hnx:=(rK (Iq p k Y) hst1).1 hgk;exact ⟨(k+1,cc vis1 p.globals[k].name 1),⟨by show k+1 <= p.globals.length;omega,hnx,hfk1.put _ V⟩,by show p.globals.length-(k+1)<p.globals.length-k;omega,az (h1:=(.cons _ (.refl _))) (h:=av J (bv Y) (ao J)) nI⟩
  refine aW J (nM [Nb,gv] J J J V call69 (us:=[cB (p.globals[k].name),bB 1]) J (zO A B C gv gf Nb Pb _ p vis1 _ _ _ rw (k) p.globals[k].name 1 hgk) im ln ky ?_);rintro _ _ ⟨rfl,rfl⟩;refine ⟨[],(λ_ b hb=>nomatch hb),?_⟩;refine go 16 ?_;have hbd:=(rK (Iq p k Y) hst1).2 hgk;exact ⟨.inr J,_,⟨A++⟨C,98,[aB ak p.globals,aB aU p.mutexes,aB ac p.funcs,aD gv,aD gf,aA 0,aA 0]⟩::B,ai gf 3 ac []::ai gv 0 a_ vis1::rw⟩,bT J (bM J),aj (.cons _ (.cons _ (.cons _ (.refl _)))) (.refl _),some (k),vis1,[],hbd,J,J,λh=>gM⟩
 refine aC false J (cg h1) (go 11 ?_);obtain rfl:k=p.globals.length:=Y;replace hst1:fM ((eR p).drop (p.globals.length+0)) vis1 (p.globals.length+0)=fM (eR p) [] 0:=hst1;refine go 11 ?_;refine ff (λg:Nat×bd=>(⟨75,[Nb,Pb,C,gv,gf],⟨⟨Nb,3,[aA ((p.globals.length+g.1:Nat):Int)]⟩::⟨Pb,94,[.val (.pointer (some ⟨C,0,none⟩))]⟩::A++⟨C,98,[aB ak p.globals,aB aU p.mutexes,aB ac p.funcs,aD gv,aD gf,aA 0,aA 0]⟩::B,ai gf 3 ac []::ai gv 0 a_ g.2::rw⟩,[(36,aX g.1),(1,aE Pb),(2,bB 0),(3,aE Nb),(4,au (.func (.func 69) #[] #[.pointer (some ⟨Pb,0,none⟩),.pointer (some ⟨Nb,0,none⟩)])),(34,.c (aB aU p.mutexes)),(35,aX p.mutexes.length)]⟩:AS)) (λg=>g.1 <= p.mutexes.length /\ fM ((eR p).drop (p.globals.length+g.1)) g.2 (p.globals.length+g.1)=fM (eR p) [] 0 /\ dz g.2 []) (λg=>p.mutexes.length-g.1) (0,vis1) (az nI) ⟨d2 _,hst1,hfk1⟩ ?_;rintro ⟨k,vis2⟩ ⟨hk,hst2,hfk2⟩;dsimp only at hk hst2 hfk2
 try dsimp only
 refine go 2 ?_;by_cases h6:((k:Nat):Int)<((p.mutexes.length:Nat):Int)
 ·refine aC true J (ck h6) (go 10 ?_);refine aF J (bS aU aU p.mutexes kI (λ_=>J) k J J J J Y V runUnderlying24 sizeOf60) (go 15 λb2=>?_);by_cases h8:(0:Int)<p.mutexes[k].size;focus
   refine aC true J (ek h8) (go 13 ?_);have hsm:mY p.mutexes[k]=3:=Lh;by_cases hgk:bO vis2 p.mutexes[k].name=0
   ·refine aW J (nM [Nb,gv] J J J V call69 (us:=[cB (p.mutexes[k].name),bB 3]) J (zL A B C gv gf Nb Pb _ p vis2 _ _ _ rw (p.globals.length+k) p.mutexes[k].name 3 hgk Y) im ln ky ?_);rintro _ _ ⟨rfl,rfl⟩;refine ⟨[],(λ_ b hb=>nomatch hb),?_⟩;refine go 8 ?_;refine bJ J (go 2 ?_);have hnx:=(rK (EU p k Y) hst2).1 hgk;rw [show mY p.mutexes[k]=3 from hsm] at hnx;exact ⟨(k+1,cc vis2 p.mutexes[k].name 3),⟨by show k+1 <= p.mutexes.length;omega,hnx,hfk2.put _ V⟩,Je,az (h1:=(.cons _ (.refl _))) (h:=av J (bv Y) (ao J)) nI⟩
   refine aW J (nM [Nb,gv] J J J V call69 (us:=[cB (p.mutexes[k].name),bB 3]) J (zO A B C gv gf Nb Pb _ p vis2 _ _ _ rw (p.globals.length+k) p.mutexes[k].name 3 hgk) im ln ky ?_)
  rotate_left;refine aC false J (em h8) (go 11 ?_);have hsm:mY p.mutexes[k]=2:=Lh;by_cases hgk:bO vis2 p.mutexes[k].name=0
  ·refine aW J (nM [Nb,gv] J J J V call69 (us:=[cB (p.mutexes[k].name),bB 2]) J (zL A B C gv gf Nb Pb _ p vis2 _ _ _ rw (p.globals.length+k) p.mutexes[k].name 2 hgk Y) im ln ky ?_);rintro _ _ ⟨rfl,rfl⟩;refine ⟨[],(λ_ b hb=>nomatch hb),?_⟩;refine go 8 ?_;refine bJ J (go 2 ?_);have hnx:=(rK (EU p k Y) hst2).1 hgk;rw [show mY p.mutexes[k]=2 from hsm] at hnx;exact ⟨(k+1,cc vis2 p.mutexes[k].name 2),⟨by show k+1 <= p.mutexes.length;omega,hnx,hfk2.put _ V⟩,Je,az (h1:=(.cons _ (.refl _))) (h:=av J (bv Y) (ao J)) nI⟩
  refine aW J (nM [Nb,gv] J J J V call69 (us:=[cB (p.mutexes[k].name),bB 2]) J (zO A B C gv gf Nb Pb _ p vis2 _ _ _ rw (p.globals.length+k) p.mutexes[k].name 2 hgk) im ln ky ?_);all_goals
   rintro _ _ ⟨rfl,rfl⟩;refine ⟨[],(λ_ b hb=>nomatch hb),?_⟩;refine go 16 ?_;have hbd:=(rK (EU p k Y) hst2).2 hgk;exact ⟨.inr J,_,⟨A++⟨C,98,[aB ak p.globals,aB aU p.mutexes,aB ac p.funcs,aD gv,aD gf,aA 0,aA 0]⟩::B,ai gf 3 ac []::ai gv 0 a_ vis2::rw⟩,bT J (bM J),aj (.cons _ (.cons _ (.cons _ (.refl _)))) (.refl _),some (p.globals.length+k),vis2,[],hbd,J,J,λh=>gM⟩
 refine aC false J (cg h6) (go 11 ?_);obtain rfl:k=p.mutexes.length:=Y;replace hst2:fM ((eR p).drop (p.globals.length+p.mutexes.length+0)) vis2 (p.globals.length+p.mutexes.length+0)=fM (eR p) [] 0:=hst2;refine go 11 ?_;refine ff (λg:Nat×bd=>(⟨75,[Nb,Pb,C,gv,gf],⟨⟨Nb,3,[aA ((p.globals.length+p.mutexes.length+g.1:Nat):Int)]⟩::⟨Pb,94,[.val (.pointer (some ⟨C,0,none⟩))]⟩::A++⟨C,98,[aB ak p.globals,aB aU p.mutexes,aB ac p.funcs,aD gv,aD gf,aA 0,aA 0]⟩::B,ai gf 3 ac (fO (p.funcs.take g.1))::ai gv 0 a_ g.2::rw⟩,[(57,aX g.1),(1,aE Pb),(2,bB 0),(3,aE Nb),(4,au (.func (.func 69) #[] #[.pointer (some ⟨Pb,0,none⟩),.pointer (some ⟨Nb,0,none⟩)])),(55,.c (aB ac p.funcs)),(56,aX p.funcs.length)]⟩:AS)) (λg=>g.1 <= p.funcs.length /\ fM ((eR p).drop (p.globals.length+p.mutexes.length+g.1)) g.2 (p.globals.length+p.mutexes.length+g.1)=fM (eR p) [] 0 /\ dz g.2 (fO (p.funcs.take g.1))) (λg=>p.funcs.length-g.1) (0,vis2) (az nI) ⟨d2 _,hst2,hfk2⟩ ?_;rintro ⟨k,vis3⟩ ⟨hk,hst3,hfk3⟩;dsimp only at hk hst3 hfk3
 try dsimp only
 refine go 2 ?_;by_cases h16:((k:Nat):Int)<((p.funcs.length:Nat):Int)
 ·refine aC true J (ck h16) (go 10 ?_);refine aF J (bS ac ac p.funcs mI (λ_=>J) k J J J J Y V runUnderlying25 sizeOf67) (go 11 λb3=>?_);by_cases hgk:bO vis3 p.funcs[k].name=0
  ·refine aW J (nM [Nb,gv] J J J V call69 (us:=[cB (p.funcs[k].name),bB 5]) J (zL A B C gv gf Nb Pb _ p vis3 _ _ _ rw (p.globals.length+p.mutexes.length+k) p.funcs[k].name 5 hgk Y) im ln ky ?_);rintro _ _ ⟨rfl,rfl⟩;refine ⟨[],(λ_ b hb=>nomatch hb),?_⟩;refine go 6 ?_;refine b_ [b3,Nb,Pb,C] (aY [0,1,2,3,4,5,6] 1 (go 8 ?_));refine an 7 J J (Ul (m:=3) (ev:=ac) (b:=p.funcs[k]) (fO (p.funcs.take k)) [] J J J J J V (λ_=>J) underlying96 underlying9 aK pZ ?_);refine bG (go 3 ?_);refine bJ J (go 2 ?_);have hnx:=(rK (MM p k Y) hst3).1 hgk;rw [K6 p.funcs k Y];exact ⟨(k+1,cc vis3 p.funcs[k].name 5),⟨by show k+1 <= p.funcs.length;omega,hnx,by have h9:=hfk3.fun p.funcs[k].name p.funcs[k];rw [K6 p.funcs k Y] at h9;exact h9⟩,Ii,az (h1:=(.cons _ (.refl _))) (h:=av J (bv Y) (ao J)) nI⟩
  refine aW J (nM [Nb,gv] J J J V call69 (us:=[cB (p.funcs[k].name),bB 5]) J (zO A B C gv gf Nb Pb _ p vis3 _ _ _ rw (p.globals.length+p.mutexes.length+k) p.funcs[k].name 5 hgk) im ln ky ?_);rintro _ _ ⟨rfl,rfl⟩;refine ⟨[],(λ_ b hb=>nomatch hb),?_⟩;refine go 17 ?_;have hbd:=(rK (MM p k Y) hst3).2 hgk;exact ⟨.inr J,_,⟨A++⟨C,98,[aB ak p.globals,aB aU p.mutexes,aB ac p.funcs,aD gv,aD gf,aA 0,aA 0]⟩::B,ai gf 3 ac (fO (p.funcs.take k))::ai gv 0 a_ vis3::rw⟩,bT J (bM J),aj (.cons _ (.cons _ (.cons _ (.refl _)))) (.refl _),some (p.globals.length+p.mutexes.length+k),vis3,(fO (p.funcs.take k)),hbd,J,J,λh=>gM⟩
 refine aC false J (cg h16) (go 10 ?_);obtain rfl:k=p.funcs.length:=Y;rw [ka Eq,fM] at hst3;rw [take_of_length_le (bW _)] at hfk3;refine go 5 ?_;rw [take_of_length_le (bW _)];exact ⟨.inr J,_,⟨A++⟨C,98,[aB ak p.globals,aB aU p.mutexes,aB ac p.funcs,aD gv,aD gf,aA 0,aA 0]⟩::B,ai gf 3 ac (fO p.funcs)::ai gv 0 a_ vis3::rw⟩,bT J (bM J),aj (.cons _ (.cons _ (.refl _))) (.refl _),none,vis3,fO p.funcs,hst3.symm,J,J,λ_=>⟨J,hfk3⟩⟩
instance XZ:de prog 77 [.val (.map none),.val (.map none),.val (.map none),.val (.map none),.val (.map none),aA 0,aI,aI,aA 0]:=⟨_,zeroValue77,rfl⟩
instance aAu:iA prog 77 [(0,1),(1,1),(2,1),(3,1),(4,1),(5,1),(6,1),(7,1),(8,1)] [.val (.map none),.val (.map none),.val (.map none),.val (.map none),.val (.map none),aA 0,aI,aI,aA 0]:=⟨_,Tryz.t77,_,underlying77,aQ,rfl,aQ,rfl⟩
instance aDG:de prog 98 [aI,aI,aI,.val (.map none),.val (.map none),aA 0,aA 0]:=⟨_,zeroValue98,rfl⟩
instance Ya:iA prog 98 [(0,3),(3,1),(4,1),(5,1),(6,1)] [aI,aI,aI,.val (.map none),.val (.map none),aA 0,aA 0]:=⟨_,Tryz.t98,_,underlying98,aQ,rfl,aQ,rfl⟩
end
end Go.Proofs.YtjgeihmhppadaaaGreatDoor
