import Derived.Test.YtojinfngbbajgaaGreatDoorF5J
import Derived.Test.YtojinfngbbajgaaGreatDoorF24J
import Derived.Test.YtojinfngbbajgaaGreatDoorF22J
set_option linter.all false
set_option synthInstance.maxHeartbeats 1000000
set_option synthInstance.maxSize 1000000
set_option maxHeartbeats 1600000
set_option maxRecDepth 100000
namespace Go.Proofs.YtojinfngbbajgaaGreatDoor
open Go.Proofs.Tryz
open List (length_append length_cons length_nil mem_append mem_cons not_mem_nil append_assoc getElem_mem take_of_length_le)
section
open Go.RowKit
theorem bQw{D:Nat}{x:aJ}(h:bK9 D x=true)(hk:x.kind=7∨x.kind=8):bM (D+1) x.thn=true /\ bM (D+1) x.els=true:=by
 obtain ⟨k,n,e,r,args,t,el⟩:=x
 rw [bK9] at h
 simp only [Bool.and_eq_true,Bool.or_eq_true,decide_eq_true_eq] at h
 obtain ⟨⟨-,h7⟩,h8⟩:=h
 have hk:k=7∨k=8:=hk
 rw [if_pos hk] at h7
 refine ⟨h7,?_⟩
 rcases h8 with h|h
 ·obtain rfl:el=[]:=List.length_eq_zero_iff.1 h
  show bM (D+1) []=true
  rw [bLq] at h7⊢
  simp only [Bool.and_eq_true,List.all_nil,and_true] at h7⊢;exact h7.1
 exact h.2
theorem bOd:∀(N:Nat)(l:List aJ)(D:Nat),N <= 9000000 -> wtS l <= N -> bM D l=true -> gC l -> ∀(A B:List Box)(W:Nat)(a:Option Addr)(v:Value)(bs:List UInt8)(rw:List bA),okA W a -> bs.length+(aC (tabs (D+1)) l).length <= 100000000000000 -> aL prog 118 [bK5 (pP W),.c (.sl l.length (l.flatMap encS))] (W::aY v) (WS A W D a v bs B rw) fun t s'=>t=.tup [] /\ ∃a' v',okA W a' /\ s'=WS A W D a' v' (bs++aC (tabs (D+1)) l) B rw
 |0,l,D,hN,hw,hok,hs,A,B,W,a,v,bs,rw,ha,hb=>bM2 l A B W D a v bs rw ha (by rw [bLq] at hok;simp only [Bool.and_eq_true,decide_eq_true_eq] at hok;omega) (by have:=uZ l;omega) hb fun k hk=>absurd (uZ l) (by omega)
 |N+1,l,D,hN,hw,hok,hs,A,B,W,a,v,bs,rw,ha,hb=>by
  have hok1:=hok
  rw [bLq] at hok1
  simp only [Bool.and_eq_true,decide_eq_true_eq] at hok1
  obtain ⟨hD,hall⟩:=hok1
  refine bM2 l A B W D a v bs rw ha (by omega) (by have:=uZ l;omega) hb fun k hk A B W a v bs rw ha hb=>?_
  have hst:=List.all_eq_true.1 hall _ (getElem_mem hk)
  have hwk:=uF l k hk
  have hwp:=hwk
  rw [gD] at hwp
  have hsk:=oS _ hs _ (getElem_mem hk)
  obtain ⟨-,-,-,-,hsth,hsf⟩:=yW hsk
  refine bPk l[k] A B W (D+1) a v bs rw ha D hst hsk (by omega) (by omega) hb fun hkind A B W a v bs rw ha hb=>?_
  obtain ⟨o1,o2⟩:=bQw hst hkind
  exact bPn l[k] A B W (D+1) a v bs rw ha D hst hsk (by omega) (by omega) hb hkind (fun A B W a v bs rw ha hb=>bOd N _ (D+1) (by omega) (by omega) o1 hsth A B W a v bs rw ha hb) (fun A B W a v bs rw ha hb=>bOd N _ (D+1) (by omega) (by omega) o2 hsf A B W a v bs rw ha hb)
theorem bQt(l:List aJ)(A B:List Box)(W m:Nat)(a:Option Addr)(v:Value)(bs:List UInt8)(rw:List bA)(ha:okA W a)(hm:m=0)(hok:bM 0 l=true)(hs:gC l)(hw:wtS l <= 9000000)(hb:bs.length+(aC [9] l).length <= 100000000000000):aL prog 118 [bK5 (pP W),.c (.sl l.length (l.flatMap encS))] (W::aY v) (WS A W m a v bs B rw) fun t s'=>t=.tup [] /\ ∃a' v',okA W a' /\ s'=WS A W m a' v' (bs++aC [9] l) B rw:=by
 subst hm
 exact bOd _ l 0 hw (Nat.le_refl _) hok hs A B W a v bs rw ha hb
section
variable {m:Nat}
theorem bOe{g:aI}(hm:m=0)(h:g.init=0):bK6 m [⟨#[118,97,114,32]⟩,g.name,⟨#[59]⟩]=aU g:=by
 subst hm;unfold aU bK6;rw [if_pos h];simp only [List.map_cons,List.map_nil,List.flatten_cons,List.flatten_nil,append_assoc];rfl
theorem bOc{g:aI}(hm:m=0)(h:¬g.init=0):bK6 m [⟨#[118,97,114,32]⟩,g.name,⟨#[32,61,32]⟩,bytes (eH g.init),⟨#[59]⟩]=aU g:=by
 subst hm;unfold aU bK6;rw [if_neg h];simp only [List.map_cons,List.map_nil,List.flatten_cons,List.flatten_nil,bLa,append_assoc];rfl
theorem bOb{x:cL}(hm:m=0)(h:x.reentrant=true)(h0:¬0<x.size):bK6 m [⟨#[114,109,117,116,101,120,32]⟩,x.name,⟨#[59]⟩]=bE x:=by
 subst hm;unfold bE bK6;rw [if_pos h,if_neg h0];simp only [List.map_cons,List.map_nil,List.flatten_cons,List.flatten_nil,append_assoc];rfl
theorem bOg{x:cL}(hm:m=0)(h:x.reentrant=false)(h0:¬0<x.size):bK6 m [⟨#[109,117,116,101,120,32]⟩,x.name,⟨#[59]⟩]=bE x:=by
 subst hm;unfold bE bK6;rw [if_neg (by rw [h];decide),if_neg h0];simp only [List.map_cons,List.map_nil,List.flatten_cons,List.flatten_nil,append_assoc];rfl
theorem bOj{x:cL}(hm:m=0)(h:x.reentrant=false)(h0:0<x.size):bK6 m [⟨#[109,117,116,101,120,32]⟩,x.name,⟨#[91]⟩,bytes (eH x.size),⟨#[93,59]⟩]=bE x:=by
 subst hm;unfold bE bK6;rw [if_neg (by rw [h];decide),if_pos h0];simp only [List.map_cons,List.map_nil,List.flatten_cons,List.flatten_nil,bLa,append_assoc];rfl
theorem bPm{f:bS}(hm:m=0):bK6 m [⟨#[102,117,110,99,32]⟩,f.name,⟨#[40]⟩,bytes (bW bX f.params),⟨#[41,32,123]⟩]++aC [9] f.body++bK6 m [⟨#[125]⟩]=funcText f:=by
 subst hm;unfold funcText bK6;simp only [List.map_cons,List.map_nil,List.flatten_cons,List.flatten_nil,bLa,append_assoc];rfl
end
theorem bNg{x:cL}(h:fS x=true)(hr:x.reentrant=true):¬0<x.size:=fun h0=>by
 unfold fS at h;rw [hr,decide_eq_true h0] at h;simp at h
theorem bMi{bs:List UInt8}{m:Nat}{ps:List ByteArray}{v:Value}:nz (bs++bK6 m ps) v:=fun h=>absurd h (bRf bs m ps)
theorem bMk{x y:List UInt8}{v:Value}(h:x=y)(hz:nz x v):nz y v:=h▸hz
theorem bNk{α:Type}(f:α -> List UInt8)(l:List α)(k:Nat)(h:k<l.length):(((l.take k).map f).flatten).length+(f l[k]).length <= ((l.map f).flatten).length:=by
 have h1:=rO f l (k+1)
 rw [kQ f l k h,length_append] at h1;exact h1
def bLu(x:aS):ByteArray:=bytes (bX x)
theorem bSb{x:aS}(h:x.mutex=true):bytes ([109,117,116,101,120,32]++x.name.data.toList)=bLu x:=by unfold bLu;rw [wR h]
theorem bSf{x:aS}(h:x.mutex=false):x.name=bLu x:=by unfold bLu;rw [xC h];exact back _
theorem bRu(l:List aS)(hN:l.length <= 10000000)(hlen:(bW bX l).length <= 100000000000000)(s:Sto):aL prog 117 [.c (.sl (l.map bLu).length ((l.map bLu).map fun x=>.val (.string x))),.c (.val (.string ⟨#[44,32]⟩))] [] s fun t s'=>t=.c (.val (.string (bytes (bW bX l)))) /\ s'=s:=by
 have hmap:(l.map bLu).map (·.data.toList)=l.map bX:=by rw [List.map_map];rfl
 have h:=bRa (l.map bLu) ⟨#[44,32]⟩ (by rw [List.length_map];exact hN) (by rw [hmap];rw [show (⟨#[44,32]⟩:ByteArray).data.toList=[44,32] from rfl,bL7];exact hlen) s
 rw [hmap,show (⟨#[44,32]⟩:ByteArray).data.toList=[44,32] from rfl,bL7] at h
 exact h
theorem bRp(p:cK)(A B:List Box)(W m:Nat)(a:Option Addr)(v:Value)(bs:List UInt8)(rw:List bA)(ha:okA W a)(hz:nz bs v)(hm:m=0)(hv:nY p=true)(hs:p.sane)(hw:p.wt <= 9000000)(hb:bs.length+(cR p).length <= 100000000000000):aL prog 75 [bK5 (pP W),.agg (jV p)] (W::aY v) (WS A W m a v bs B rw) fun t s'=>t=.tup [] /\ ∃a' v',(okA W a' /\ nz (bs++cR p) v') /\ s'=WS A W m a' v' (bs++cR p) B rw:=by
 have hb1:=hb
 unfold cR at hb1
 simp only [length_append] at hb1
 have hv0:=hv
 unfold nY at hv
 simp only [Bool.and_eq_true,List.all_eq_true,decide_eq_true_eq] at hv
 obtain ⟨⟨⟨hcnt,hvg⟩,hvm⟩,hvf⟩:=hv
 have hv:True /\ (∀x∈p.mutexes,fS x=true) /\ True:=⟨trivial,hvm,trivial⟩
 unfold cK.wt at hw
 refine acB func75 rfl ?_
 show AWp prog _ ⟨113,W::aY v,⟨A++⟨W,135,[.val (.pointer a),.val v,nC m]⟩::B,⟨v,5,1,bs.length,iF bs⟩::rw⟩,[(0,bK5 (pP W)),(1,.agg (jV p))]⟩ _
 refine go 15 fun b1=>?_
 refine bMj (α:=Option Addr×Value) (fun k g=>okA W g.1 /\ nz (bs++((p.globals.take k).map aU).flatten) g.2) (p.globals.length) 16 (fun g=>aY g.2++[W]) (fun k g=>WS (⟨b1,30,(jV p)⟩::A) W m g.1 g.2 (bs++((p.globals.take k).map aU).flatten) B rw) (fun k=>[(0,bK5 (pP W)),(3,pP b1),(14,.c (.sl p.globals.length (p.globals.flatMap dB))),(15,nI p.globals.length)]) (a,v) ⟨ha,bMk ((by simp):bs=(bs++((p.globals.take 0).map aU).flatten)) hz⟩ (bMm (.refl _) (.refl _) (bLf (A:=(_::A)) (by simp:bs=(bs++((p.globals.take 0).map aU).flatten))) (by intro x hx;simp only [mem_append,mem_cons,not_mem_nil,or_false] at hx⊢;rcases hx with hx|hx<;>simp [hx]) (sA rfl)) ?_
 rintro k ⟨a1,v1⟩ hk hC1
 dsimp only at hC1
 show AWp prog _ ⟨113,aY v1++[W],WS (⟨b1,30,(jV p)⟩::A) W m a1 v1 (bs++((p.globals.take k).map aU).flatten) B rw,(16,nI k)::[(0,bK5 (pP W)),(3,pP b1),(14,.c (.sl p.globals.length (p.globals.flatMap dB))),(15,nI p.globals.length)]⟩ _
 obtain ⟨hC1,hZ⟩:=hC1
 refine go 2 ?_
 by_cases h2:((k:Nat):Int)<((p.globals.length:Nat):Int)
 ·refine wcp true rfl (jZ h2) (go 10 ?_)
  have hkl:k<p.globals.length:=by omega
  have hgs:=hs.globals _ (getElem_mem hkl)
  have hcn:=bNk aU p.globals k hkl
  refine wyz rfl (bH dB dB p.globals nS (fun _=>rfl) k rfl rfl rfl rfl (by omega) (by decide) runUnderlying26 sizeOf86) (go 10 fun b2=>?_)
  by_cases h4:p.globals[k].init=0
  ·refine wcp true rfl (eR h4) (go 5 ?_)
   have hle:=congrArg List.length (bOe (g:=p.globals[k]) hm (by omega))
   refine go 3 ?_
   refine wo rfl (bDk bGy rfl (.cons rfl (.cons rfl (.cons rfl .nil))) (r:=bP [(⟨#[118,97,114,32]⟩:ByteArray),p.globals[k].name,(⟨#[59]⟩:ByteArray)]) rfl ?_)
   refine wo rfl (wcW rfl call115 rfl (bLe [(⟨#[118,97,114,32]⟩:ByteArray),p.globals[k].name,(⟨#[59]⟩:ByteArray)] (_::_::A) B W m a1 v1 (bs++((p.globals.take k).map aU).flatten) rw hC1 (Nat.le_of_ble_eq_true rfl) (by (try simp only [length_append,length_cons,length_nil,List.length_replicate]);omega)) (by simp) (fun b hb=>by simp [hb]) (fun _=>⟨by simp,fun b hb=>by simp [hb]⟩) fun a6 v6 hC6=>?_)
   refine go 7 ?_
   refine wad rfl (go 2 ?_)
   exact ⟨by omega,(a6,v6),⟨hC6,bMk (by rw [kQ aU _ k (by omega),bOe hm (by omega),append_assoc]:((bs++((p.globals.take k).map aU).flatten)++bK6 m [(⟨#[118,97,114,32]⟩:ByteArray),p.globals[k].name,(⟨#[59]⟩:ByteArray)])=(bs++((p.globals.take (k+1)).map aU).flatten)) bMi⟩,bMm (.cons _ (.refl _)) (.refl _) (bLf (A:=(_::A)) (by rw [kQ aU _ k (by omega),bOe hm (by omega),append_assoc]:((bs++((p.globals.take k).map aU).flatten)++bK6 m [(⟨#[118,97,114,32]⟩:ByteArray),p.globals[k].name,(⟨#[59]⟩:ByteArray)])=(bs++((p.globals.take (k+1)).map aU).flatten))) (by intro x hx;simp only [mem_append,mem_cons,not_mem_nil,or_false] at hx⊢;rcases hx with hx|hx<;>simp [hx]) (aG rfl (gQ (by omega)) (sA rfl))⟩
  refine wcp false rfl (eD h4) (go 5 ?_)
  refine dx [b2,b1] ?_
  have hle:=congrArg List.length (bOc (g:=p.globals[k]) hm (by omega))
  refine tz [(0,true),(1,true),(2,true),(3,true),(4,true)] 3 (go 6 ?_)
  refine ox 5 rfl rfl (bMg 0 [] rfl rfl (by decide) call116 rfl rfl (bPs p.globals[k].init hgs.1 _) bDl bDl (fun _=>bDl) ?_)
  rintro _ _ ⟨rfl,rfl⟩
  refine ox 6 rfl rfl (bDk bDx rfl (.cons rfl (.cons rfl (.cons rfl (.cons rfl (.cons rfl .nil))))) (r:=bP [(⟨#[118,97,114,32]⟩:ByteArray),p.globals[k].name,(⟨#[32,61,32]⟩:ByteArray),(bytes (eH p.globals[k].init)),(⟨#[59]⟩:ByteArray)]) rfl ?_)
  refine ox 7 rfl rfl (wcW rfl call115 rfl (bLe [(⟨#[118,97,114,32]⟩:ByteArray),p.globals[k].name,(⟨#[32,61,32]⟩:ByteArray),(bytes (eH p.globals[k].init)),(⟨#[59]⟩:ByteArray)] (_::_::A) B W m a1 v1 (bs++((p.globals.take k).map aU).flatten) rw hC1 (Nat.le_of_ble_eq_true rfl) (by (try simp only [length_append,length_cons,length_nil,List.length_replicate]);omega)) (by simp) (fun b hb=>by simp [hb]) (fun hn=>⟨jJ hn,fun b hb=>qW hn hb⟩) fun a9 v9 hC9=>?_)
  refine ax (go 3 ?_)
  refine wad rfl (go 2 ?_)
  exact ⟨by omega,(a9,v9),⟨hC9,bMk (by rw [kQ aU _ k (by omega),bOc hm (by omega),append_assoc]:((bs++((p.globals.take k).map aU).flatten)++bK6 m [(⟨#[118,97,114,32]⟩:ByteArray),p.globals[k].name,(⟨#[32,61,32]⟩:ByteArray),(bytes (eH p.globals[k].init)),(⟨#[59]⟩:ByteArray)])=(bs++((p.globals.take (k+1)).map aU).flatten)) bMi⟩,bMm (.cons _ (.refl _)) (.refl _) (bLf (A:=(_::A)) (by rw [kQ aU _ k (by omega),bOc hm (by omega),append_assoc]:((bs++((p.globals.take k).map aU).flatten)++bK6 m [(⟨#[118,97,114,32]⟩:ByteArray),p.globals[k].name,(⟨#[32,61,32]⟩:ByteArray),(bytes (eH p.globals[k].init)),(⟨#[59]⟩:ByteArray)])=(bs++((p.globals.take (k+1)).map aU).flatten))) (by intro x hx;simp only [mem_append,mem_cons,not_mem_nil,or_false] at hx⊢;rcases hx with hx|hx<;>simp [hx]) (aG rfl (gQ (by omega)) (sA rfl))⟩
 refine wcp false rfl (jQ h2) (go 12 ?_)
 obtain rfl:k=p.globals.length:=by omega
 rw [List.take_length] at hZ⊢
 refine go 7 ?_
 refine bMj (α:=Option Addr×Value) (fun i g=>okA W g.1 /\ nz ((bs++((p.globals.map aU).flatten))++((p.mutexes.take i).map bE).flatten) g.2) (p.mutexes.length) 40 (fun g=>aY g.2++[W]) (fun i g=>WS (⟨b1,30,(jV p)⟩::A) W m g.1 g.2 ((bs++((p.globals.map aU).flatten))++((p.mutexes.take i).map bE).flatten) B rw) (fun i=>[(0,bK5 (pP W)),(3,pP b1),(38,.c (.sl p.mutexes.length (p.mutexes.flatMap bT))),(39,nI p.mutexes.length)]) (a1,v1) ⟨hC1,bMk ((by simp):(bs++((p.globals.map aU).flatten))=((bs++((p.globals.map aU).flatten))++((p.mutexes.take 0).map bE).flatten)) hZ⟩ (bMm (.refl _) (.refl _) (bLf (A:=(_::A)) (by simp:(bs++((p.globals.map aU).flatten))=((bs++((p.globals.map aU).flatten))++((p.mutexes.take 0).map bE).flatten))) (by intro x hx;simp only [mem_append,mem_cons,not_mem_nil,or_false] at hx⊢;rcases hx with hx|hx<;>simp [hx]) (sA rfl)) ?_
 rintro i ⟨a11,v11⟩ hi hC11
 dsimp only at hC11
 show AWp prog _ ⟨113,aY v11++[W],WS (⟨b1,30,(jV p)⟩::A) W m a11 v11 ((bs++((p.globals.map aU).flatten))++((p.mutexes.take i).map bE).flatten) B rw,(40,nI i)::[(0,bK5 (pP W)),(3,pP b1),(38,.c (.sl p.mutexes.length (p.mutexes.flatMap bT))),(39,nI p.mutexes.length)]⟩ _
 obtain ⟨hC11,hZ⟩:=hC11
 refine go 2 ?_
 by_cases h12:((i:Nat):Int)<((p.mutexes.length:Nat):Int)
 ·refine wcp true rfl (jZ h12) (go 10 ?_)
  have hil:i<p.mutexes.length:=by omega
  have hms:=hs.mutexes _ (getElem_mem hil)
  have hmok:=hv.2.1 _ (getElem_mem hil)
  have hcn:=bNk bE p.mutexes i hil
  refine wyz rfl (bH bT bT p.mutexes mZ (fun _=>rfl) i rfl rfl rfl rfl (by omega) (by decide) runUnderlying27 sizeOf70) (go 9 fun b3=>?_)
  rcases Bool.eq_false_or_eq_true (p.mutexes[i].reentrant) with h14|h14
  ·refine wyz rfl (fL (bZ h14) (aX [] rfl rfl rfl isAgg4 sizeOf4 rfl (fun _ h=>by cases h))) (go 5 ?_)
   have hle:=congrArg List.length (bOb (x:=p.mutexes[i]) hm h14 (bNg hmok h14))
   refine go 3 ?_
   refine wo rfl (bDk bGy rfl (.cons rfl (.cons rfl (.cons rfl .nil))) (r:=bP [(⟨#[114,109,117,116,101,120,32]⟩:ByteArray),p.mutexes[i].name,(⟨#[59]⟩:ByteArray)]) rfl ?_)
   refine wo rfl (wcW rfl call115 rfl (bLe [(⟨#[114,109,117,116,101,120,32]⟩:ByteArray),p.mutexes[i].name,(⟨#[59]⟩:ByteArray)] (_::_::A) B W m a11 v11 ((bs++((p.globals.map aU).flatten))++((p.mutexes.take i).map bE).flatten) rw hC11 (Nat.le_of_ble_eq_true rfl) (by (try simp only [length_append,length_cons,length_nil,List.length_replicate]);omega)) (by simp) (fun b hb=>by simp [hb]) (fun _=>⟨by simp,fun b hb=>by simp [hb]⟩) fun a16 v16 hC16=>?_)
   refine go 5 ?_
   refine wad rfl (go 2 ?_)
   exact ⟨by omega,(a16,v16),⟨hC16,bMk (by rw [kQ bE _ i (by omega),bOb hm h14 (bNg hmok h14),append_assoc]:(((bs++((p.globals.map aU).flatten))++((p.mutexes.take i).map bE).flatten)++bK6 m [(⟨#[114,109,117,116,101,120,32]⟩:ByteArray),p.mutexes[i].name,(⟨#[59]⟩:ByteArray)])=((bs++((p.globals.map aU).flatten))++((p.mutexes.take (i+1)).map bE).flatten)) bMi⟩,bMm (.cons _ (.refl _)) (.refl _) (bLf (A:=(_::A)) (by rw [kQ bE _ i (by omega),bOb hm h14 (bNg hmok h14),append_assoc]:(((bs++((p.globals.map aU).flatten))++((p.mutexes.take i).map bE).flatten)++bK6 m [(⟨#[114,109,117,116,101,120,32]⟩:ByteArray),p.mutexes[i].name,(⟨#[59]⟩:ByteArray)])=((bs++((p.globals.map aU).flatten))++((p.mutexes.take (i+1)).map bE).flatten))) (by intro x hx;simp only [mem_append,mem_cons,not_mem_nil,or_false] at hx⊢;rcases hx with hx|hx<;>simp [hx]) (aG rfl (gQ (by omega)) (sA rfl))⟩
  refine wyz rfl (fL (bZ h14) (aX [] rfl rfl rfl isAgg4 sizeOf4 rfl (fun _ h=>by cases h))) (go 8 ?_)
  by_cases h18:(0:Int)<p.mutexes[i].size
  ·refine wcp true rfl (mH h18) (go 4 ?_)
   refine dx [b3,b1] ?_
   have hle:=congrArg List.length (bOj (x:=p.mutexes[i]) hm h14 (by omega))
   refine tz [(0,true),(1,true),(2,true),(3,true),(4,true)] 3 (go 6 ?_)
   refine ox 5 rfl rfl (bMg 0 [] rfl rfl (by decide) call116 rfl rfl (bPs p.mutexes[i].size hms.1 _) bDl bDl (fun _=>bDl) ?_)
   rintro _ _ ⟨rfl,rfl⟩
   refine ox 6 rfl rfl (bDk bDx rfl (.cons rfl (.cons rfl (.cons rfl (.cons rfl (.cons rfl .nil))))) (r:=bP [(⟨#[109,117,116,101,120,32]⟩:ByteArray),p.mutexes[i].name,(⟨#[91]⟩:ByteArray),(bytes (eH p.mutexes[i].size)),(⟨#[93,59]⟩:ByteArray)]) rfl ?_)
   refine ox 7 rfl rfl (wcW rfl call115 rfl (bLe [(⟨#[109,117,116,101,120,32]⟩:ByteArray),p.mutexes[i].name,(⟨#[91]⟩:ByteArray),(bytes (eH p.mutexes[i].size)),(⟨#[93,59]⟩:ByteArray)] (_::_::A) B W m a11 v11 ((bs++((p.globals.map aU).flatten))++((p.mutexes.take i).map bE).flatten) rw hC11 (Nat.le_of_ble_eq_true rfl) (by (try simp only [length_append,length_cons,length_nil,List.length_replicate]);omega)) (by simp) (fun b hb=>by simp [hb]) (fun hn=>⟨jJ hn,fun b hb=>qW hn hb⟩) fun a21 v21 hC21=>?_)
   refine ax (go 4 ?_)
   refine wad rfl (go 2 ?_)
   exact ⟨by omega,(a21,v21),⟨hC21,bMk (by rw [kQ bE _ i (by omega),bOj hm h14 (by omega),append_assoc]:(((bs++((p.globals.map aU).flatten))++((p.mutexes.take i).map bE).flatten)++bK6 m [(⟨#[109,117,116,101,120,32]⟩:ByteArray),p.mutexes[i].name,(⟨#[91]⟩:ByteArray),(bytes (eH p.mutexes[i].size)),(⟨#[93,59]⟩:ByteArray)])=((bs++((p.globals.map aU).flatten))++((p.mutexes.take (i+1)).map bE).flatten)) bMi⟩,bMm (.cons _ (.refl _)) (.refl _) (bLf (A:=(_::A)) (by rw [kQ bE _ i (by omega),bOj hm h14 (by omega),append_assoc]:(((bs++((p.globals.map aU).flatten))++((p.mutexes.take i).map bE).flatten)++bK6 m [(⟨#[109,117,116,101,120,32]⟩:ByteArray),p.mutexes[i].name,(⟨#[91]⟩:ByteArray),(bytes (eH p.mutexes[i].size)),(⟨#[93,59]⟩:ByteArray)])=((bs++((p.globals.map aU).flatten))++((p.mutexes.take (i+1)).map bE).flatten))) (by intro x hx;simp only [mem_append,mem_cons,not_mem_nil,or_false] at hx⊢;rcases hx with hx|hx<;>simp [hx]) (aG rfl (gQ (by omega)) (sA rfl))⟩
  refine wcp false rfl (mI h18) (go 5 ?_)
  have hle:=congrArg List.length (bOg (x:=p.mutexes[i]) hm h14 (by omega))
  refine go 3 ?_
  refine wo rfl (bDk bGy rfl (.cons rfl (.cons rfl (.cons rfl .nil))) (r:=bP [(⟨#[109,117,116,101,120,32]⟩:ByteArray),p.mutexes[i].name,(⟨#[59]⟩:ByteArray)]) rfl ?_)
  refine wo rfl (wcW rfl call115 rfl (bLe [(⟨#[109,117,116,101,120,32]⟩:ByteArray),p.mutexes[i].name,(⟨#[59]⟩:ByteArray)] (_::_::A) B W m a11 v11 ((bs++((p.globals.map aU).flatten))++((p.mutexes.take i).map bE).flatten) rw hC11 (Nat.le_of_ble_eq_true rfl) (by (try simp only [length_append,length_cons,length_nil,List.length_replicate]);omega)) (by simp) (fun b hb=>by simp [hb]) (fun _=>⟨by simp,fun b hb=>by simp [hb]⟩) fun a23 v23 hC23=>?_)
  refine go 5 ?_
  refine wad rfl (go 2 ?_)
  exact ⟨by omega,(a23,v23),⟨hC23,bMk (by rw [kQ bE _ i (by omega),bOg hm h14 (by omega),append_assoc]:(((bs++((p.globals.map aU).flatten))++((p.mutexes.take i).map bE).flatten)++bK6 m [(⟨#[109,117,116,101,120,32]⟩:ByteArray),p.mutexes[i].name,(⟨#[59]⟩:ByteArray)])=((bs++((p.globals.map aU).flatten))++((p.mutexes.take (i+1)).map bE).flatten)) bMi⟩,bMm (.cons _ (.refl _)) (.refl _) (bLf (A:=(_::A)) (by rw [kQ bE _ i (by omega),bOg hm h14 (by omega),append_assoc]:(((bs++((p.globals.map aU).flatten))++((p.mutexes.take i).map bE).flatten)++bK6 m [(⟨#[109,117,116,101,120,32]⟩:ByteArray),p.mutexes[i].name,(⟨#[59]⟩:ByteArray)])=((bs++((p.globals.map aU).flatten))++((p.mutexes.take (i+1)).map bE).flatten))) (by intro x hx;simp only [mem_append,mem_cons,not_mem_nil,or_false] at hx⊢;rcases hx with hx|hx<;>simp [hx]) (aG rfl (gQ (by omega)) (sA rfl))⟩
 refine wcp false rfl (jQ h12) (go 11 ?_)
 obtain rfl:i=p.mutexes.length:=by omega
 rw [List.take_length] at hZ⊢
 refine go 7 ?_
 refine bMj (α:=Option Addr×Value) (fun f g=>okA W g.1 /\ nz (((bs++((p.globals.map aU).flatten))++((p.mutexes.map bE).flatten))++((p.funcs.take f).map funcText).flatten) g.2) (p.funcs.length) 73 (fun g=>aY g.2++[W]) (fun f g=>WS (⟨b1,30,(jV p)⟩::A) W m g.1 g.2 (((bs++((p.globals.map aU).flatten))++((p.mutexes.map bE).flatten))++((p.funcs.take f).map funcText).flatten) B rw) (fun f=>[(0,bK5 (pP W)),(3,pP b1),(71,.c (.sl p.funcs.length (p.funcs.flatMap fV))),(72,nI p.funcs.length)]) (a11,v11) ⟨hC11,bMk ((by simp):((bs++((p.globals.map aU).flatten))++((p.mutexes.map bE).flatten))=(((bs++((p.globals.map aU).flatten))++((p.mutexes.map bE).flatten))++((p.funcs.take 0).map funcText).flatten)) hZ⟩ (bMm (.refl _) (.refl _) (bLf (A:=(_::A)) (by simp:((bs++((p.globals.map aU).flatten))++((p.mutexes.map bE).flatten))=(((bs++((p.globals.map aU).flatten))++((p.mutexes.map bE).flatten))++((p.funcs.take 0).map funcText).flatten))) (by intro x hx;simp only [mem_append,mem_cons,not_mem_nil,or_false] at hx⊢;rcases hx with hx|hx<;>simp [hx]) (sA rfl)) ?_
 rintro f ⟨a25,v25⟩ hf hC25
 dsimp only at hC25
 show AWp prog _ ⟨113,aY v25++[W],WS (⟨b1,30,(jV p)⟩::A) W m a25 v25 (((bs++((p.globals.map aU).flatten))++((p.mutexes.map bE).flatten))++((p.funcs.take f).map funcText).flatten) B rw,(73,nI f)::[(0,bK5 (pP W)),(3,pP b1),(71,.c (.sl p.funcs.length (p.funcs.flatMap fV))),(72,nI p.funcs.length)]⟩ _
 obtain ⟨hC25,hZ⟩:=hC25
 refine go 2 ?_
 by_cases h26:((f:Nat):Int)<((p.funcs.length:Nat):Int)
 ·refine wcp true rfl (jZ h26) (go 10 ?_)
  have hfl:f<p.funcs.length:=by omega
  have hfs:=hs.funcs _ (getElem_mem hfl)
  have hcn:=bNk funcText p.funcs f hfl
  have hle:=congrArg List.length (bPm (f:=p.funcs[f]) hm)
  simp only [length_append] at hle
  have hft:=congrArg List.length (wP p.funcs[f])
  simp only [length_append] at hft
  have hfw:=aDi bS.wt p.funcs f hfl
  rw [show bS.wt p.funcs[f]=1+p.funcs[f].params.length+wtS p.funcs[f].body from rfl] at hfw
  have hfb:=aJv hv0 _ (getElem_mem hfl)
  refine wyz rfl (bH fV fV p.funcs vC (fun _=>rfl) f rfl rfl rfl rfl (by omega) (by decide) runUnderlying28 sizeOf58) (go 20 fun b4=>?_)
  refine qR 9 1 ?_
  refine aO2 (fun j=>True) (p.funcs[f].params.length) 80 10 9 1 (fun j=>((p.funcs[f].params.take j).map bLu).length) (fun j=>bP ((p.funcs[f].params.take j).map bLu)) (b4::(aY v25++[W])) (fun j=>[(0,bK5 (pP W)),(3,pP b1),(9,pP b4),(71,.c (.sl p.funcs.length (p.funcs.flatMap fV))),(72,nI p.funcs.length),(73,nI f),(78,.c (.sl p.funcs[f].params.length (p.funcs[f].params.flatMap cP))),(79,.c (.val (.int .i64 ((p.funcs[f].params.length:Nat):Int))))]) trivial (cA (.refl _) (.refl _) (by intro x hx;simp only [aY,Value.ownBlock,Option.toList,List.nil_append] at hx;exact hx) (sA rfl)) fun j vp hj _=>?_
  show AWp prog _ ⟨113,_,⟨_,⟨_,_,_,((p.funcs[f].params.take j).map bLu).length,bP ((p.funcs[f].params.take j).map bLu)⟩::_⟩,(80,nI j)::(10,.c (.val vp))::[(0,bK5 (pP W)),(3,pP b1),(9,pP b4),(71,.c (.sl p.funcs.length (p.funcs.flatMap fV))),(72,nI p.funcs.length),(73,nI f),(78,.c (.sl p.funcs[f].params.length (p.funcs[f].params.flatMap cP))),(79,.c (.val (.int .i64 ((p.funcs[f].params.length:Nat):Int))))]⟩ _
  refine go 2 ?_
  by_cases h28:((j:Nat):Int)<((p.funcs[f].params.length:Nat):Int)
  ·refine wcp true rfl (jZ h28) (go 10 ?_)
   have hjl:j<p.funcs[f].params.length:=by omega
   have hcl:((p.funcs[f].params.take j).map bLu).length <= j:=by rw [List.length_map,List.length_take];omega
   have hpn:p.funcs[f].params[j].name.data.toList.length <= 4611686018427387904:=hfs.2.1 _ (getElem_mem hjl)
   refine wyz rfl (bH cP cP p.funcs[f].params gL (fun _=>rfl) j rfl rfl rfl rfl (by omega) (by decide) runUnderlying55 sizeOf89) (go 9 fun b5=>?_)
   rcases Bool.eq_false_or_eq_true (p.funcs[f].params[j].mutex) with h30|h30
   ·refine wyz rfl (fL (bZ h30) (aX [] rfl rfl rfl isAgg4 sizeOf4 rfl (fun _ h=>by cases h))) (go 8 ?_)
    refine wyz rfl (fL (jX (show (bytes (([109,117,116,101,120,32]:List UInt8)++p.funcs[f].params[j].name.data.toList))=(bLu p.funcs[f].params[j]) by exact bSb h30)) (cz ([109,117,116,101,120,32]:List UInt8) p.funcs[f].params[j].name.data.toList rfl rfl rfl rfl (back _))) ?_
    refine wo rfl (bDk bT4 rfl (.cons rfl .nil) (r:=bP [(bLu p.funcs[f].params[j])]) rfl ?_)
    refine wo rfl (bDm [] bWi rfl rfl (by decide) (by unfold maxLen;omega) (by omega) (@length_append _ ((p.funcs[f].params.take j).map bLu) [(bLu p.funcs[f].params[j])]).symm (fun _ b hb=>by simp [hb]) (fun b hb=>by simp [hb]) (List.map_append (f:=fun x=>AC.val (.string x))).symm fun w6=>?_)
    refine go 8 ?_
    refine wad rfl (go 2 ?_)
    rw [show ((p.funcs[f].params.take j).map bLu)++[bLu p.funcs[f].params[j]]=(p.funcs[f].params.take (j+1)).map bLu by rw [List.take_succ_eq_append_getElem (by omega),List.map_append];rfl]
    exact ⟨by omega,trivial,_,cA (.cons _ (.refl _)) (.refl _) (by grind) (aG rfl (gQ (by omega)) (sA rfl))⟩
   refine wyz rfl (fL (bZ h30) (aX [] rfl rfl rfl isAgg4 sizeOf4 rfl (fun _ h=>by cases h))) (go 8 ?_)
   refine wyz rfl (fL (jX (show p.funcs[f].params[j].name=(bLu p.funcs[f].params[j]) by exact bSf h30)) (aX [] rfl rfl rfl isAgg9 sizeOf9 rfl (fun _ h=>by cases h))) ?_
   refine wo rfl (bDk bT4 rfl (.cons rfl .nil) (r:=bP [(bLu p.funcs[f].params[j])]) rfl ?_)
   refine wo rfl (bDm [] bWi rfl rfl (by decide) (by unfold maxLen;omega) (by omega) (@length_append _ ((p.funcs[f].params.take j).map bLu) [(bLu p.funcs[f].params[j])]).symm (fun _ b hb=>by simp [hb]) (fun b hb=>by simp [hb]) (List.map_append (f:=fun x=>AC.val (.string x))).symm fun w7=>?_)
   refine go 5 ?_
   refine wad rfl (go 2 ?_)
   rw [show ((p.funcs[f].params.take j).map bLu)++[bLu p.funcs[f].params[j]]=(p.funcs[f].params.take (j+1)).map bLu by rw [List.take_succ_eq_append_getElem (by omega),List.map_append];rfl]
   exact ⟨by omega,trivial,_,cA (.cons _ (.refl _)) (.refl _) (by grind) (aG rfl (gQ (by omega)) (sA rfl))⟩
  refine wcp false rfl (jQ h28) (go 10 ?_)
  obtain rfl:j=p.funcs[f].params.length:=by omega
  rw [List.take_length]
  refine aH0 10 rfl ?_
  refine dx [b4,b1] (tz [(0,true),(1,true),(2,true),(3,true)] 3 (go 5 ?_))
  refine ox 4 rfl rfl (bV rfl rfl (by decide) call117 rfl (bRu p.funcs[f].params (by omega) (by omega) _) ?_)
  rintro _ _ ⟨rfl,rfl⟩
  refine ox 5 rfl rfl (bDk bDx rfl (.cons rfl (.cons rfl (.cons rfl (.cons rfl (.cons rfl .nil))))) (r:=bP [(⟨#[102,117,110,99,32]⟩:ByteArray),p.funcs[f].name,(⟨#[40]⟩:ByteArray),(bytes (bW bX p.funcs[f].params)),(⟨#[41,32,123]⟩:ByteArray)]) rfl ?_)
  refine ox 6 rfl rfl (wcW rfl call115 rfl (bLe [(⟨#[102,117,110,99,32]⟩:ByteArray),p.funcs[f].name,(⟨#[40]⟩:ByteArray),(bytes (bW bX p.funcs[f].params)),(⟨#[41,32,123]⟩:ByteArray)] (_::_::A) B W m a25 v25 (((bs++((p.globals.map aU).flatten))++((p.mutexes.map bE).flatten))++((p.funcs.take f).map funcText).flatten) rw hC25 (Nat.le_of_ble_eq_true rfl) (by (try simp only [length_append,length_cons,length_nil,List.length_replicate]);omega)) (by simp) (fun b hb=>by simp [hb]) (fun hn=>⟨jJ hn,fun b hb=>qW hn hb⟩) fun a35 v35 hC35=>?_)
  refine ax (go 6 ?_)
  refine wo rfl (bO5 0 rfl call118 rfl (bQt p.funcs[f].body (_::_::A) B W m a35 v35 ((((bs++((p.globals.map aU).flatten))++((p.mutexes.map bE).flatten))++((p.funcs.take f).map funcText).flatten)++bK6 m [(⟨#[102,117,110,99,32]⟩:ByteArray),p.funcs[f].name,(⟨#[40]⟩:ByteArray),(bytes (bW bX p.funcs[f].params)),(⟨#[41,32,123]⟩:ByteArray)]) rw hC35 hm hfb.1 hfs.2.2 (by omega) (by (try simp only [length_append,length_cons,length_nil,List.length_replicate]);omega)) (by simp) (fun b hb=>by simp [hb]) (fun _=>⟨by simp,fun b hb=>by simp [hb]⟩) fun a36 v36 hC36=>?_)
  refine go 4 ?_
  refine wo rfl (bDk bT4 rfl (.cons rfl .nil) (r:=bP [(⟨#[125]⟩:ByteArray)]) rfl ?_)
  refine wo rfl (wcW rfl call115 rfl (bLe [(⟨#[125]⟩:ByteArray)] (_::_::A) B W m a36 v36 (((((bs++((p.globals.map aU).flatten))++((p.mutexes.map bE).flatten))++((p.funcs.take f).map funcText).flatten)++bK6 m [(⟨#[102,117,110,99,32]⟩:ByteArray),p.funcs[f].name,(⟨#[40]⟩:ByteArray),(bytes (bW bX p.funcs[f].params)),(⟨#[41,32,123]⟩:ByteArray)])++aC [9] p.funcs[f].body) rw hC36 (Nat.le_of_ble_eq_true rfl) (by (try simp only [length_append,length_cons,length_nil,List.length_replicate]);omega)) (by simp) (fun b hb=>by simp [hb]) (fun _=>⟨by simp,fun b hb=>by simp [hb]⟩) fun a37 v37 hC37=>?_)
  refine go 4 ?_
  refine wad rfl (go 2 ?_)
  exact ⟨by omega,(a37,v37),⟨hC37,bMk (by rw [kQ funcText _ f (by omega),←bPm hm];simp only [append_assoc]:((((((bs++((p.globals.map aU).flatten))++((p.mutexes.map bE).flatten))++((p.funcs.take f).map funcText).flatten)++bK6 m [(⟨#[102,117,110,99,32]⟩:ByteArray),p.funcs[f].name,(⟨#[40]⟩:ByteArray),(bytes (bW bX p.funcs[f].params)),(⟨#[41,32,123]⟩:ByteArray)])++aC [9] p.funcs[f].body)++bK6 m [(⟨#[125]⟩:ByteArray)])=(((bs++((p.globals.map aU).flatten))++((p.mutexes.map bE).flatten))++((p.funcs.take (f+1)).map funcText).flatten)) bMi⟩,bMm (.cons _ (.refl _)) (.refl _) (bLf (A:=(_::A)) (by rw [kQ funcText _ f (by omega),←bPm hm];simp only [append_assoc]:((((((bs++((p.globals.map aU).flatten))++((p.mutexes.map bE).flatten))++((p.funcs.take f).map funcText).flatten)++bK6 m [(⟨#[102,117,110,99,32]⟩:ByteArray),p.funcs[f].name,(⟨#[40]⟩:ByteArray),(bytes (bW bX p.funcs[f].params)),(⟨#[41,32,123]⟩:ByteArray)])++aC [9] p.funcs[f].body)++bK6 m [(⟨#[125]⟩:ByteArray)])=(((bs++((p.globals.map aU).flatten))++((p.mutexes.map bE).flatten))++((p.funcs.take (f+1)).map funcText).flatten))) (by intro x hx;simp only [mem_append,mem_cons,not_mem_nil,or_false] at hx⊢;rcases hx with hx|hx<;>simp [hx]) (aG rfl (gQ (by omega)) (sA rfl))⟩
 refine wcp false rfl (jQ h26) (go 8 ?_)
 obtain rfl:f=p.funcs.length:=by omega
 rw [List.take_length] at hZ⊢
 exact ⟨.inl rfl,_,WS A W m a25 v25 _ B rw,cH rfl,aA (.cons _ (.refl _)) (.refl _),rfl,a25,v25,⟨hC25,bMk (by unfold cR;simp only [append_assoc]) hZ⟩,bLf (by unfold cR;simp only [append_assoc])⟩
end
section
open Go.RowKit
theorem bOx(w:World)(g n:Nat):cW [g] w (w.freeze ⟨g,0,none⟩ n):=by
 unfold World.freeze
 split
 ·exact cW.refl _ _
 exact ⟨rfl,rfl,rfl,by simp,fun i hi hn=>by
  simp only [Array.getElem?_modify]
  rw [if_neg (by intro h;subst h;exact hn (by simp))]⟩
section
variable {P:Program}{U T:List Nat}{o:Oper}{n d:Nat}{ts:List (Nat×AT)}{K:AS -> Prop}{st:AS}{bx:List Box}{rw:List bA}
theorem bRy{x:Operand}{t:TypeId}{k c:Nat}(ho:o.op=.call {callee:=.builtin .unsafeSliceData,args:=#[x],argTypes:=#[t]})(hx:evA st x=some (.c (.val (.slice none k c)))):AY P U o st (.c (.val (.pointer none))):=
 fW rfl fun a w hs w'=>by
  simp only [execOp,ho,resolve,List.map_toArray,List.map_cons,List.map_nil,hs.val hx]
  simp [go_sem,invoke,builtin,Lib.run_unsafeSliceData_nil]
theorem bRn{x:Operand}{t:TypeId}{q:Addr}{k c:Nat}(ho:o.op=.call {callee:=.builtin .unsafeSliceData,args:=#[x],argTypes:=#[t]})(hx:evA st x=some (.c (.val (.slice (some q) k c))))(hc:c≠0):AY P U o st (.c (.val (.pointer (some q)))):=
 fW rfl fun a w hs w'=>by
  simp only [execOp,ho,resolve,List.map_toArray,List.map_cons,List.map_nil,hs.val hx]
  simp [go_sem,invoke,builtin,Lib.run_unsafeSliceData_row _ _ _ _ _ _ hc]
theorem bQq{x y:Operand}{pt it:TypeId}{q:Option Addr}(ho:o.op=.call {callee:=.builtin .unsafeString,args:=#[x,y],argTypes:=#[pt,it]})(hx:evA st x=some (.c (.val (.pointer q))))(hy:evA st y=some (.c (.val (.int .i64 0)))):AY P U o st (.c (.val (.string .empty))):=
 fW rfl fun a w hs w'=>by
  simp only [execOp,ho,resolve,List.map_toArray,List.map_cons,List.map_nil,hs.val hx,hs.val hy]
  simp [go_sem,invoke,builtin,Lib.run_unsafeString_none]
theorem bRt{x y:Operand}{pt it E:TypeId}{g cap:Nat}{l:List UInt8}(ho:o.op=.call {callee:=.builtin .unsafeString,args:=#[x,y],argTypes:=#[pt,it]})(hd:o.dst=some d)(hn:d<n)
  (hx:evA ⟨n,T,⟨bx,⟨.slice (some ⟨g,0,none⟩) l.length cap,E,1,l.length,iF l⟩::rw⟩,ts⟩ x=some (pP g)) (hy:evA ⟨n,T,⟨bx,⟨.slice (some ⟨g,0,none⟩) l.length cap,E,1,l.length,iF l⟩::rw⟩,ts⟩ y=some (nI l.length))
  (hp:P.underlying pt=some (.pointer E)) (hc:P.cellsOf E=1) (h0:l≠[]) (h63:l.length <= 9223372036854775807) (hT:g∈T) (hU:(⟨bx,⟨.slice (some ⟨g,0,none⟩) l.length cap,E,1,l.length,iF l⟩::rw⟩:Sto).bl.Nodup -> g∈U)
  (h:K ⟨n,T,⟨bx,rw⟩,(d,.c (.val (.string (bytes l))))::ts⟩):AO P U o ⟨n,T,⟨bx,⟨.slice (some ⟨g,0,none⟩) l.length cap,E,1,l.length,iF l⟩::rw⟩,ts⟩ K:=by
 intro a w hs KK QQ hK
 obtain ⟨us,hownR,hrep⟩:=hs.mem.row ⟨.slice (some ⟨g,0,none⟩) l.length cap,E,1,l.length,iF l⟩ (by simp)
 obtain ⟨-,hown⟩:=hownR.row0 rfl
 rcases hown with ⟨h1,-⟩|⟨g',cap',cur,hv,-,hh,hkc,hcm,hcs,htk⟩
 ·cases h1
 cases hv
 dsimp only at hh hkc hcs htk hrep
 obtain rfl:us=cC l:=yC (vs:=cC l) (by rw [show (cC l).map AC.val=iF l by simp [cC,iF]];exact hrep)
 simp only [Nat.mul_one] at hcs htk
 have hsh:w.shape? g=some (E,cap):=by unfold World.shape?;rw [hh];simp [hcs]
 have hcell:∀j x,l[j]?=some x -> w.cell? ((⟨g,0,none⟩:Addr).add j)=some (.int .u8 x.toNat):=fun j x hj=>by
  have hjl:j<l.length:=(List.getElem?_eq_some_iff.1 hj).1
  have e1:(⟨g,0,none⟩:Addr).add j=⟨g,j,none⟩:=by unfold Addr.add;split<;>simp_all
  rw [e1]
  have e2:cur[j]?=some (.int .u8 x.toNat):=by
   have h9:=congrArg (fun q:List Value=>q[j]?) htk
   simp only [List.getElem?_take,if_pos hjl,cC,List.getElem?_map,hj,Option.map_some,Array.getElem?_toList] at h9
   exact h9
  unfold World.cell?
  simp only [hh,Nat.zero_add]
  exact e2
 have hkF:=bOx w g l.length
 have hnd:=hs.mem.nodup
 have hg:g∉(⟨bx,rw⟩:Sto).bl:=fun hm=>by
  unfold Sto.bl at hnd hm
  simp only [List.flatMap_cons] at hnd
  have hnd2:=List.nodup_append.1 hnd
  rcases mem_append.1 hm with hm|hm
  ·exact hnd2.2.2 g hm g (by simp [aY,Value.ownBlock]) rfl
  exact (List.nodup_append.1 hnd2.2.1).2.2 g (by simp [aY,Value.ownBlock]) g hm rfl
 have hsub:∀b,b∈(⟨bx,rw⟩:Sto).bl -> b∈(⟨bx,⟨.slice (some ⟨g,0,none⟩) l.length cap,E,1,l.length,iF l⟩::rw⟩:Sto).bl:=fun b hb=>by
  unfold Sto.bl at hb⊢
  rcases mem_append.1 hb with hb|hb
  ·exact List.mem_append_left _ hb
  exact List.mem_append_right _ (by simp only [List.flatMap_cons];exact List.mem_append_right _ hb)
 have hgf:g∈(⟨bx,⟨.slice (some ⟨g,0,none⟩) l.length cap,E,1,l.length,iF l⟩::rw⟩:Sto).bl:=by unfold Sto.bl;simp [aY,Value.ownBlock]
 have hu:Up2 (bI (⟨bx,⟨.slice (some ⟨g,0,none⟩) l.length cap,E,1,l.length,iF l⟩::rw⟩:Sto).bl w) (bI (⟨bx,rw⟩:Sto).bl (w.freeze ⟨g,0,none⟩ l.length)):=jA hkF (fun x hx=>by simp at hx;subst hx;exact hgf) (fun b hb=>.inl (hsub b hb))
 have hne:∀b,b∈(⟨bx,rw⟩:Sto).bl -> (w.freeze ⟨g,0,none⟩ l.length).heap[b]?=w.heap[b]?:=fun b hb=>hkF.block b (hs.mem.lt b (hsub b hb)) (by simp;intro he;subst he;exact hg hb)
 have hsl:(⟨bx,rw⟩:Sto).bl.Sublist (⟨bx,⟨.slice (some ⟨g,0,none⟩) l.length cap,E,1,l.length,iF l⟩::rw⟩:Sto).bl:=List.Sublist.append (List.Sublist.refl _) (aE3 _ (List.Sublist.cons _ (List.Sublist.refl _)))
 have hm1:Mem ⟨bx,rw⟩ (w.freeze ⟨g,0,none⟩ l.length):=by
  refine ⟨hsl.nodup hs.mem.nodup,fun b hb=>Nat.lt_of_lt_of_le (hs.mem.lt b (hsub b hb)) hkF.size,fun x hx=>?_,fun r hr=>?_⟩
  ·obtain ⟨us,e1,e2⟩:=hs.mem.box x hx
   exact ⟨us,by rw [hne _ (List.mem_append_left _ (List.mem_map.2 ⟨x,hx,rfl⟩))];exact e1,e2.mono hu⟩
  obtain ⟨us,e1,e2⟩:=hs.mem.row r (List.mem_cons_of_mem _ hr)
  exact ⟨us,e1.keep fun q hq=>hne q (List.mem_append_right _ (List.mem_flatMap.2 ⟨r,hr,hq⟩)),e2.mono hu⟩
 unfold Oper.wp
 have hrun2:(execOp a.eval o).run P w=.ok (.value (.string (bytes l))) (w.freeze ⟨g,0,none⟩ l.length):=by
  simp only [execOp,ho,resolve,List.map_toArray,List.map_cons,List.map_nil,hs.val hx,hs.val hy]
  simp [go_sem,invoke,builtin,Lib.run_unsafeString_row w pt it _ E hp hc g cap hsh l h0 hkc h63 hcell]
  rfl
 rw [hrun2,Oper.upon_value,hd]
 exact hK _ _ _ h ((hs.step T (hkF.mono (by simp;exact hgf)) hm1 (fun b hb=>.inl (hsub b hb))).put hn (dO.c _ _ (.val _ rfl))) ⟨hkF.mono (by simp;exact hgf),hkF.mono (by simp;exact hT),fun b hb=>.inl (hsub b hb),fun b hb=>.inl hb⟩ (hkF.mono (by simp;exact hU hs.mem.nodup))
end
theorem bRx(p:cK)(B:List Box)(W:Nat)(rw:List bA)(hv:nY p=true)(hs:p.sane)(hw:p.wt <= 9000000)(hb:(cR p).length <= 100000000000000):aL prog 75 [bK5 (pP W),.agg (jV p)] (W::aY (.slice none 0 0)) (WS [] W 0 none (.slice none 0 0) [] B rw) (fun t s'=>t=.tup [] /\ ∃a' v',(okA W a' /\ nz (cR p) v') /\ s'=WS [] W 0 a' v' (cR p) B rw):=
 bRp p [] B W 0 none (.slice none 0 0) [] rw (.inl rfl) (fun _=>rfl) rfl hv hs hw (by simpa using hb)
theorem bQo(A B:List Box)(W m:Nat)(a:Option Addr)(rw:List bA):aL prog 76 [pP W] [] (WS A W m a (.slice none 0 0) [] B rw) fun t s'=>t=.c (.val (.string (bytes []))) /\ s'=⟨A++⟨W,135,[.val (.pointer a),.val (.slice none 0 0),nC m]⟩::B,rw⟩:=by
 refine acB func76 rfl ?_
 show AWp prog _ ⟨14,[],⟨A++⟨W,135,[.val (.pointer a),.val (.slice none 0 0),nC m]⟩::B,⟨(.slice none 0 0),5,1,0,[]⟩::rw⟩,[(0,pP W)]⟩ _
 refine go 6 ?_
 refine dx [W] (tz [(0,true),(1,true),(2,true),(3,true)] 8 (go 5 ?_))
 refine tx 4 rfl (bRy rfl rfl) (tz [(5,true),(6,true),(7,true),(8,true),(9,true)] 2 (go 6 ?_))
 refine tx 10 rfl (bQq rfl rfl rfl) (tz [(11,true)] 0 (go 2 ?_))
 refine ax (go 2 ?_)
 exact ⟨.inr rfl,_,⟨A++⟨W,135,[.val (.pointer a),.val (.slice none 0 0),nC m]⟩::B,rw⟩,aR rfl (aF rfl),aA (.refl _) (.cons _ (.refl _)),rfl,rfl⟩
theorem bQ1(A B:List Box)(W m:Nat)(a:Option Addr)(bs:List UInt8)(rw:List bA)(g cap:Nat)(hc:cap≠0)(h0:bs≠[])(h63:bs.length <= 9223372036854775807):aL prog 76 [pP W] [g] (WS A W m a (.slice (some ⟨g,0,none⟩) bs.length cap) bs B rw) fun t s'=>t=.c (.val (.string (bytes bs))) /\ s'=⟨A++⟨W,135,[.val (.pointer a),.val (.slice (some ⟨g,0,none⟩) bs.length cap),nC m]⟩::B,rw⟩:=by
 refine acB func76 rfl ?_
 show AWp prog _ ⟨14,[g],⟨A++⟨W,135,[.val (.pointer a),.val (.slice (some ⟨g,0,none⟩) bs.length cap),nC m]⟩::B,⟨(.slice (some ⟨g,0,none⟩) bs.length cap),5,1,bs.length,iF bs⟩::rw⟩,[(0,pP W)]⟩ _
 refine go 6 ?_
 refine dx [W] (tz [(0,true),(1,true),(2,true),(3,true)] 8 (go 5 ?_))
 refine tx 4 rfl (bRn rfl rfl hc) (tz [(5,true),(6,true),(7,true),(8,true),(9,true)] 2 (go 6 ?_))
 refine ox 10 rfl rfl (bRt rfl rfl (by decide) rfl rfl underlying168 (by kernel_rfl) h0 h63 (by simp [aY,Value.ownBlock]) (fun hn=>qW hn (by simp [aY,Value.ownBlock])) ?_)
 refine tz [(11,true)] 0 (go 2 ?_)
 refine ax (go 2 ?_)
 exact ⟨.inr rfl,_,⟨A++⟨W,135,[.val (.pointer a),.val (.slice (some ⟨g,0,none⟩) bs.length cap),nC m]⟩::B,rw⟩,aR rfl (aF rfl),aA (.refl _) (.refl _),rfl,rfl⟩
theorem bQs(A B:List Box)(W m:Nat)(a:Option Addr)(v:Value)(bs:List UInt8)(rw:List bA)(hz:nz bs v)(hb:bs.length <= 9223372036854775807):aL prog 76 [pP W] (aY v) (WS A W m a v bs B rw) fun t s'=>t=.c (.val (.string (bytes bs))) /\ s'=⟨A++⟨W,135,[.val (.pointer a),.val v,nC m]⟩::B,rw⟩:=by
 intro vs w hm hT hl hr
 obtain ⟨us,hownR,hrep⟩:=hm.row ⟨v,5,1,bs.length,iF bs⟩ (by simp)
 obtain ⟨hlen,hown⟩:=hownR.row Nat.zero_lt_one
 dsimp only at hlen hown hrep
 rcases hown with ⟨rfl,h0⟩|⟨g,cap,cur,rfl,-,hh,hkc,hcm,hcs,htk⟩
 ·obtain rfl:bs=[]:=List.length_eq_zero_iff.1 h0
  exact bQo A B W m a rw vs w hm hT hl hr
 by_cases h0:bs=[]
 ·have:=hz h0;cases this
 exact bQ1 A B W m a bs rw g cap (by have:bs.length≠0:=(by simpa using h0);omega) h0 hb vs w hm hT hl hr
theorem bSa{p:cK}(h1:bL1 p=true)(h2:(p.funcs.any fun f=>!gW f)=false):nY p=true:=by
 rw [show nY p=(bL1 p && p.funcs.all gW) from rfl,h1,bMb h2];rfl
theorem bPo{p:cK}(h1:bL1 p=false):nY p=false:=by rw [show nY p=(bL1 p && p.funcs.all gW) from rfl,h1];rfl
theorem bPz{p:cK}(h2:(p.funcs.any fun f=>!gW f)=true):nY p=false:=by rw [show nY p=(bL1 p && p.funcs.all gW) from rfl,bO1 h2,Bool.and_false]
abbrev bM6(p:cK):List UInt8:=if nY p=true then cR p else []
abbrev bRg(p:cK):AT:=.tup [.c (.val (.string (bytes (bM6 p)))),.c (.val (.bool (jI p)))]
theorem bMv{p:cK}{x:ByteArray}{b:Bool}(h1:bytes (bM6 p)=x)(h2:jI p=b):(AT.tup [.c (.val (.string x)),.c (.val (.bool b))])=bRg p:=by unfold bRg;rw [h1,h2]
theorem bM7(p:cK)(hs:p.sane)(hw:p.wt <= 9000000)(s:Sto):aL prog 34 [bK5 (.agg (jV p))] [] s fun t s'=>t=bRg p /\ s'=s:=by
 obtain ⟨bx,rw⟩:=s
 refine acB func34 rfl ?_
 show AWp prog _ ⟨36,_,⟨bx,rw⟩,[(0,bK5 (.agg (jV p)))]⟩ _
 refine go 11 fun b1=>?_
 rcases Bool.eq_false_or_eq_true (bL1 p) with h1|h1
 ·refine bK8 0 rfl call71 rfl (bP0 p hs (by omega) _) h1 (go 4 ?_)
  rcases Bool.eq_false_or_eq_true (p.funcs.any fun f=>!gW f) with h2|h2
  ·refine bK8 0 rfl call72 rfl (bNy (fun f=>!gW f) p.funcs 73 #[] _ (by unfold cK.wt at hw;have hfn:=aDr bS.wt (fun x=>by unfold bS.wt;omega) p.funcs;omega) call73 (fun k hk=>bPy _ (hs.funcs _ (getElem_mem hk)) (by unfold cK.wt at hw;have:=aDi bS.wt p.funcs k hk;omega) _)) h2 (go 12 ?_)
   exact ⟨.inr rfl,_,⟨bx,rw⟩,uM rfl (aF rfl) (aF rfl),aA (.cons _ (.refl _)) (.refl _),bMv (by unfold bM6;rw [if_neg (by rw [bPz h2];decide)];rfl) (by rw [nX,bPz h2];rfl),rfl⟩
  refine bK8 0 rfl call72 rfl (bNy (fun f=>!gW f) p.funcs 73 #[] _ (by unfold cK.wt at hw;have hfn:=aDr bS.wt (fun x=>by unfold bS.wt;omega) p.funcs;omega) call73 (fun k hk=>bPy _ (hs.funcs _ (getElem_mem hk)) (by unfold cK.wt at hw;have:=aDi bS.wt p.funcs k hk;omega) _)) h2 (go 8 ?_)
  have hv:nY p=true:=bSa h1 h2
  refine go 7 fun b2=>?_
  refine bR3 5 1 ?_
  refine go 2 ?_
  refine wo rfl (bO5 0 rfl call75 rfl (bRx p _ b2 rw hv hs hw (by have:=aAd hs hv;omega)) (by simp) (fun b hb=>by simp [aY,Value.ownBlock] at hb) (fun _=>⟨by simp,fun b hb=>by simp [aY,Value.ownBlock] at hb⟩) fun a2 v2 hC2=>?_)
  refine go 7 ?_
  refine wo rfl (bD (aY v2) rfl rfl (by decide) call76 rfl (bQs [] _ b2 0 a2 v2 (cR p) rw hC2.2 (by have:=aAd hs hv;omega)) (fun b hb=>by simp [hb]) (fun b hb=>by simp [Sto.bl,hb]) (fun _ b hb=>by simp [hb]) ?_)
  rintro _ _ ⟨rfl,rfl⟩
  refine go 6 ?_
  refine wo rfl (aDc rfl rfl (by decide) rfl underlying9 underlying23 underlying5 (by rw [kT];have:=aAd hs hv;omega) (N:=(cR p).length) rfl (cs:=iF (cR p)) rfl ?_)
  refine wo rfl (bN9 0 [] rfl rfl (by decide) call30 rfl rfl (fun m=>aP8 (cR p) m _) bDl bDl (fun _=>bDl) ?_)
  rintro _ _ ⟨(⟨tl5,hlx5,rfl,htl5⟩|⟨p5,e5,hlx5,rfl,he5⟩),rfl⟩
  ·refine go 13 ?_
   refine wcp true rfl (by simp [bC]) (go 5 ?_)
   exact ⟨.inr rfl,_,⟨bx,rw⟩,uM rfl (aF rfl) (aF rfl),aA (.cons _ (.cons _ (.refl _))) (.refl _),bMv (by unfold bM6;rw [if_pos hv]) (by rw [nX,hv,hlx5];rfl),rfl⟩
  refine go 13 ?_
  refine wcp false rfl (eD (by omega)) (go 5 ?_)
  exact ⟨.inr rfl,_,⟨bx,rw⟩,uM rfl (aF rfl) (aF rfl),aA (.cons _ (.cons _ (.refl _))) (.refl _),bMv (by unfold bM6;rw [if_pos hv]) (by rw [nX,hv,hlx5];rfl),rfl⟩
 refine bK8 0 rfl call71 rfl (bP0 p hs (by omega) _) h1 (go 17 ?_)
 exact ⟨.inr rfl,_,⟨bx,rw⟩,uM rfl (aF rfl) (aF rfl),aA (.cons _ (.refl _)) (.refl _),bMv (by unfold bM6;rw [if_neg (by rw [bPo h1];decide)];rfl) (by rw [nX,bPo h1];rfl),rfl⟩
theorem bOk(p:cK)(hs:p.sane)(hw:p.wt <= 9000000)(s:Sto):aL prog 32 [bK5 (.agg (jV p))] [] s fun t s'=>t=.c (.val (.bool (jI p))) /\ s'=s:=by
 obtain ⟨bx,rw⟩:=s
 refine acB func32 rfl ?_
 show AWp prog _ ⟨11,_,⟨bx,rw⟩,[(0,bK5 (.agg (jV p)))]⟩ _
 refine go 9 fun b1=>?_
 refine wcR 0 rfl call34 rfl (bM7 p hs hw _) (go 14 ?_)
 exact bHe (s':=⟨bx,rw⟩) rfl sb1 ⟨cX rfl,rfl⟩
mutual
def aJ.cnt:aJ -> Nat|.mk _ _ _ _ _ t e=>1+bLh t+bLh e
def bLh:List aJ -> Nat
 |[]=>0
 |s::r=>s.cnt+bLh r
end
def bMl(l:List aJ):Nat:=(l.map fun s=>bLh s.thn+bLh s.els).sum
theorem bQa(s:aJ):s.cnt=1+bLh s.thn+bLh s.els:=by cases s;rw [aJ.cnt];rfl
theorem bLo:∀l:List aJ,bLh l=l.length+bMl l
 |[]=>by rw [bLh];rfl
 |s::l=>by have:=bLo l;rw [bLh,bQa];unfold bMl at this⊢;simp only [List.map_cons,List.sum_cons,length_cons];omega
theorem bMr(l:List aJ)(k:Nat)(h:k<l.length):bMl (l.take (k+1))=bMl (l.take k)+(bLh l[k].thn+bLh l[k].els):=by
 unfold bMl;rw [List.take_succ_eq_append_getElem h,List.map_append,List.sum_append];simp
theorem bMe:∀(l:List aJ)(k:Nat),bMl (l.take k) <= bMl l
 |[],k=>by simp
 |x::l,0=>by simp [bMl]
 |x::l,k+1=>by have:=bMe l k;unfold bMl at this⊢;simp only [List.take_succ_cons,List.map_cons,List.sum_cons];omega
mutual
theorem bR8:∀s:aJ,s.cnt <= s.wt
 |.mk k n e r a t el=>by
  have h1:=bNe t
  have h2:=bNe el
  rw [aJ.cnt,aJ.wt];omega
theorem bNe:∀l:List aJ,bLh l <= wtS l
 |[]=>by rw [bLh];omega
 |s::l=>by
  have h1:=bR8 s
  have h2:=bNe l
  rw [bLh,wtS];omega
end
theorem bNw(l:List aJ)(hl:bLh l <= 1000000000)(hst:∀k (h:k<l.length) (s:Sto),aL prog 27 [.c (.sl l[k].thn.length (l[k].thn.flatMap encS))] [] s (fun t s'=>t=.c (.val (.int .i64 ((bLh l[k].thn:Nat):Int))) /\ s'=s) /\ aL prog 27 [.c (.sl l[k].els.length (l[k].els.flatMap encS))] [] s (fun t s'=>t=.c (.val (.int .i64 ((bLh l[k].els:Nat):Int))) /\ s'=s))(s:Sto):aL prog 27 [.c (.sl l.length (l.flatMap encS))] [] s fun t s'=>t=.c (.val (.int .i64 ((bLh l:Nat):Int))) /\ s'=s:=by
 obtain ⟨bx,rw⟩:=s
 have hkid:=bLo l
 refine acB func27 rfl ?_
 show AWp prog _ ⟨29,_,⟨bx,rw⟩,[(0,.c (.sl l.length (l.flatMap encS)))]⟩ _
 refine go 19 ?_
 refine oC (l.length) 4 (fun k=>[(3,.c (.val (.int .i64 ((l.length+bMl (l.take k):Nat):Int)))),(0,.c (.sl l.length (l.flatMap encS)))]) (aG rfl (.refl _) (aG rfl (gQ (by simp [bMl])) (sA rfl))) fun k hk=>?_
 show AWp prog _ ⟨29,_,_,(4,nI k)::[(3,.c (.val (.int .i64 ((l.length+bMl (l.take k):Nat):Int)))),(0,.c (.sl l.length (l.flatMap encS)))]⟩ _
 refine go 6 ?_
 by_cases h1:((k:Nat):Int)<((l.length:Nat):Int)
 ·refine wcp true rfl (jZ h1) (go 7 ?_)
  refine dx [] ?_
  have hkt:=bMr l k (by omega)
  have hkm:=bMe l (k+1)
  refine tz [(0,true),(1,true),(2,true)] 13 (go 4 ?_)
  refine tx 3 rfl (bH encS dG l mE cJ k rfl rfl rfl rfl (by omega) (by decide) runUnderlying56 sizeOf78) (tz [(4,true),(5,true),(8,true),(9,true)] 8 (go 5 ?_))
  refine tx 10 rfl (bH encS dG l mE cJ k rfl rfl rfl rfl (by omega) (by decide) runUnderlying56 sizeOf78) (tz [(11,true),(12,true)] 5 (go 3 ?_))
  refine ox 6 rfl rfl (bV rfl rfl (by decide) call27 rfl ((hst k (by omega) _).1) ?_)
  rintro _ _ ⟨rfl,rfl⟩
  refine tx 7 rfl (bB rfl rfl rfl (by omega) (by omega)) ?_
  refine ox 13 rfl rfl (bV rfl rfl (by decide) call27 rfl ((hst k (by omega) _).2) ?_)
  rintro _ _ ⟨rfl,rfl⟩
  refine tx 14 rfl (bB rfl rfl rfl (by omega) (by omega)) (tz [(15,true)] 0 (go 2 ?_))
  refine ax (go 4 ?_)
  refine wad rfl (go 2 ?_)
  exact ⟨by omega,(aG rfl (gQ (by omega)) (aG rfl (gQ (by omega)) (sA rfl)))⟩
 refine wcp false rfl (jQ h1) (go 15 ?_)
 exact bHe (s':=⟨bx,rw⟩) rfl sb0 ⟨aPy (by rw [bLo];have hkl:k=l.length:=(by omega);subst hkl;rw [List.take_length]),rfl⟩
theorem bPd:∀(N:Nat)(l:List aJ),bLh l <= N -> N <= 1000000000 -> ∀s:Sto,aL prog 27 [.c (.sl l.length (l.flatMap encS))] [] s fun t s'=>t=.c (.val (.int .i64 ((bLh l:Nat):Int))) /\ s'=s
 |0,l,h,hN,s=>bNw l (by omega) (fun k hk=>absurd (bLo l) (by omega)) s
 |N+1,l,h,hN,s=>bNw l (by omega) (fun k hk s=>by
   have h1:=bLo l
   have h2:=bMr l k hk
   have h3:=bMe l (k+1)
   exact ⟨bPd N _ (by omega) (by omega) s,bPd N _ (by omega) (by omega) s⟩) s
end
section
open Go.RowKit
instance cEl:eM prog 94 [.val (.slice none 0 0),.val (.slice none 0 0),.val (.slice none 0 0),.val (.map none),.val (.map none),.val (.int .i64 0),.val (.int .i64 0)]:=⟨_,zeroValue94,rfl⟩
instance cEk:Plc prog 94 [(0,3),(3,1),(4,1),(5,1),(6,1)] [.val (.slice none 0 0),.val (.slice none 0 0),.val (.slice none 0 0),.val (.map none),.val (.map none),.val (.int .i64 0),.val (.int .i64 0)]:=⟨_,Tryz.t94,_,underlying94,by kernel_rfl,rfl,by kernel_rfl,rfl⟩
end
end Go.Proofs.YtojinfngbbajgaaGreatDoor
