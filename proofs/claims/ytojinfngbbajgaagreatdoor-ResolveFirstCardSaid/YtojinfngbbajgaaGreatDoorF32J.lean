import Derived.Test.YtojinfngbbajgaaGreatDoorF5J
import Derived.Test.YtojinfngbbajgaaGreatDoorF31J
set_option linter.all false
set_option synthInstance.maxHeartbeats 1000000
set_option synthInstance.maxSize 1000000
set_option maxHeartbeats 1600000
set_option maxRecDepth 100000
namespace Go.Proofs.YtojinfngbbajgaaGreatDoor
open Go.Proofs.Tryz
open List (length_append length_cons length_nil mem_append mem_cons not_mem_nil append_assoc getElem_mem take_of_length_le)
section
open Go.RowKit
theorem aI7{ms:List cL}{ps:List aS}{vars:List ByteArray}{n:ByteArray}(h:n∈jB ps):uA ms ps vars ⟨n,[]⟩:=by
 obtain ⟨x,hx,hxm,rfl⟩:=aE4 ps _ h
 exact .param hx hxm
theorem rG(A B:List Box)(RA rw:List bA)(vv:Value)(S W:Nat)(l:List Int)(i0:Nat)(ms:List cL)(ps:List aS)(vars:List ByteArray)(fn:ByteArray)(G F FB:AC)(left:Int)(ar:Bool)(hi0:i0 <= l.length)(hl:l.length <= 1000000)(hm1:1 <= ms.length)(hm2:ms.length <= 1000)(hmz:∀m,m∈ms -> m.size <= 1000)(hp2:ps.length <= 1000)(hvl:vars.length <= 1000000):aL prog 82 [pP W,.agg [.val (.string fn),.sl ps.length (ps.flatMap cP),FB],.c (.val vv)] [S] (SSt A (⟨W,104,[.val (.pointer (some ⟨S,0,none⟩)),G,(.sl ms.length (ms.flatMap bT)),F,.val (.int .i64 left),.val (.bool ar)]⟩::B) (gP RA vv vars rw) S l i0) (fun r s=>∃(f:cY) (i:Nat),r=.agg (encR f) /\ uA ms ps vars f /\ i <= l.length /\ s=SSt A (⟨W,104,[.val (.pointer (some ⟨S,0,none⟩)),G,(.sl ms.length (ms.flatMap bT)),F,.val (.int .i64 left),.val (.bool ar)]⟩::B) (gP RA vv vars rw) S l i):=by
 refine acB func82 rfl ?_
 show AWp prog _ ⟨107,[S],⟨A++⟨S,102,[.sl l.length (l.map fun i=>.val (.int .i64 i)),nC i0]⟩::⟨W,104,[.val (.pointer (some ⟨S,0,none⟩)),G,(.sl ms.length (ms.flatMap bT)),F,.val (.int .i64 left),.val (.bool ar)]⟩::B,RA++⟨vv,9,1,vars.length,bP vars⟩::rw⟩,[(0,pP W),(1,.agg [.val (.string fn),.sl ps.length (ps.flatMap cP),FB]),(2,.c (.val vv))]⟩ _
 refine go 18 fun b1 b2=>?_
 refine qR 9 1 ?_
 refine fM (fun g:Nat×Value×List ByteArray=>(⟨107,aY g.2.1++[b2,b1,S],⟨⟨b2,75,[.val (.string ⟨#[]⟩),.val (.slice none 0 0)]⟩::⟨b1,58,[.val (.string fn),.sl ps.length (ps.flatMap cP),FB]⟩::(A++⟨S,102,[.sl l.length (l.map fun i=>.val (.int .i64 i)),nC i0]⟩::⟨W,104,[.val (.pointer (some ⟨S,0,none⟩)),G,(.sl ms.length (ms.flatMap bT)),F,.val (.int .i64 left),.val (.bool ar)]⟩::B),⟨g.2.1,9,1,g.2.2.length,bP g.2.2⟩::(gP RA vv vars rw)⟩,[(8,nI g.1),(7,.c (.val g.2.1)),(0,pP W),(2,.c (.val vv)),(4,pP b1),(6,pP b2)]⟩:AS)) (fun g=>g.1 <= ms.length /\ g.2.2=iZ (ms.take g.1)) (fun g=>ms.length-g.1) (0,.slice none 0 0,[]) (cA (.refl _) (.refl _) (by intro x hx;simpa [aY,Value.ownBlock] using hx) (sA rfl)) ⟨Nat.zero_le _,rfl⟩ ?_
 rintro ⟨k,v,acc⟩ ⟨hk,hacc⟩
 dsimp only at hk hacc
 show AWp prog _ (⟨107,aY v++[b2,b1,S],⟨⟨b2,75,[.val (.string ⟨#[]⟩),.val (.slice none 0 0)]⟩::⟨b1,58,[.val (.string fn),.sl ps.length (ps.flatMap cP),FB]⟩::(A++⟨S,102,[.sl l.length (l.map fun i=>.val (.int .i64 i)),nC i0]⟩::⟨W,104,[.val (.pointer (some ⟨S,0,none⟩)),G,(.sl ms.length (ms.flatMap bT)),F,.val (.int .i64 left),.val (.bool ar)]⟩::B),⟨v,9,1,acc.length,bP acc⟩::(gP RA vv vars rw)⟩,[(8,nI k),(7,.c (.val v)),(0,pP W),(2,.c (.val vv)),(4,pP b1),(6,pP b2)]⟩:AS) _
 have hal:acc.length=k:=by rw [hacc,iZ,List.length_map,List.length_take];omega
 refine go 10 ?_
 by_cases hlt:k<ms.length
 ·refine wcp true rfl (by first|exact eU (by omega)|(simp [bC]<;>omega)) (go 15 ?_)
  refine wyz rfl (bH bT bT ms mZ (fun _=>rfl) k rfl rfl rfl rfl (by omega) (by decide) runUnderlying27 sizeOf70) (go 2 ?_)
  refine wo rfl (bDk bT4 rfl (.cons rfl .nil) (r:=bP [ms[k].name]) rfl ?_)
  refine wo rfl (bDm [] bWi rfl rfl (by decide) (by unfold maxLen;omega) (by omega) (@length_append _ acc [ms[k].name]).symm (fun _ b hb=>by simp [hb]) (fun b hb=>by simp [hb]) (List.map_append (f:=fun x=>AC.val (.string x))).symm fun v1=>?_)
  refine go 6 ?_
  refine wad rfl (go 2 ?_)
  refine ⟨(k+1,v1,acc++[ms[k].name]),⟨by omega,by rw [aDs ms k hlt,hacc]⟩,by show ms.length-(k+1)<ms.length-k;omega,cA (.refl _) (.refl _) (by grind) (sA rfl)⟩
 refine wcp false rfl (by first|exact eE (by omega)|(simp [bC]<;>omega)) (go 11 ?_)
 refine wyz rfl (kV [] rfl rfl rfl runUnderlying50) ?_
 have hke:acc.length=ms.length:=by omega
 rw [hke]
 refine go 10 ?_
 skip
 refine fM (fun g:Nat×Value×List ByteArray×Nat=>(⟨107,aY g.2.1++[b2,b1,S],⟨⟨b2,75,[.val (.string ⟨#[]⟩),.val (.slice none 0 0)]⟩::⟨b1,58,[.val (.string fn),.sl ps.length (ps.flatMap cP),FB]⟩::(A++⟨S,102,[.sl l.length (l.map fun i=>.val (.int .i64 i)),nC i0]⟩::⟨W,104,[.val (.pointer (some ⟨S,0,none⟩)),G,(.sl ms.length (ms.flatMap bT)),F,.val (.int .i64 left),.val (.bool ar)]⟩::B),⟨g.2.1,9,1,g.2.2.2,bP g.2.2.1⟩::(gP RA vv vars rw)⟩,[(10,nI g.1),(7,.c (.val g.2.1)),(0,pP W),(2,.c (.val vv)),(4,pP b1),(6,pP b2),(9,nI ms.length)]⟩:AS)) (fun g=>g.1 <= ps.length /\ g.2.2.1=iZ ms++jB (ps.take g.1) /\ g.2.2.2=g.2.2.1.length) (fun g=>ps.length-g.1) (0,v,acc,ms.length) (sA rfl) ⟨Nat.zero_le _,by show acc=_;rw [hacc,take_of_length_le (by omega)];simp [jB],hke.symm⟩ ?_
 clear hal hacc hk hke
 rintro ⟨j,v,acc,c⟩ ⟨hj,hacc,hc⟩
 dsimp only at hj hacc hc
 show AWp prog _ (⟨107,aY v++[b2,b1,S],⟨⟨b2,75,[.val (.string ⟨#[]⟩),.val (.slice none 0 0)]⟩::⟨b1,58,[.val (.string fn),.sl ps.length (ps.flatMap cP),FB]⟩::(A++⟨S,102,[.sl l.length (l.map fun i=>.val (.int .i64 i)),nC i0]⟩::⟨W,104,[.val (.pointer (some ⟨S,0,none⟩)),G,(.sl ms.length (ms.flatMap bT)),F,.val (.int .i64 left),.val (.bool ar)]⟩::B),⟨v,9,1,c,bP acc⟩::(gP RA vv vars rw)⟩,[(10,nI j),(7,.c (.val v)),(0,pP W),(2,.c (.val vv)),(4,pP b1),(6,pP b2),(9,nI ms.length)]⟩:AS) _
 have hal:acc.length <= ms.length+2*ps.length:=by have h1:=xK (ps.take j);rw [hacc,length_append,iZ,List.length_map];rw [List.length_take] at h1;omega
 refine go 7 ?_
 by_cases hlj:j<ps.length
 ·refine wcp true rfl (by first|exact eU (by omega)|(simp [bC]<;>omega)) (go 12 ?_)
  refine wyz rfl (bH cP cP ps gL (fun _=>rfl) j rfl rfl rfl rfl (by omega) (by decide) runUnderlying55 sizeOf89) (go 4 ?_)
  refine gY rfl (fun hc4=>?_) (fun hc4=>?_)
  ·have hmx:=hc4
   refine dx [b2,b1,S,W] (tz [(0,true),(1,true),(2,true),(3,true)] 12 (go 5 ?_))
   refine tx 4 rfl (bH cP cP ps gL (fun _=>rfl) j rfl rfl rfl rfl (by omega) (by decide) runUnderlying55 sizeOf89) (tz [(5,true),(6,true),(7,true),(8,true),(9,true)] 6 (go 6 ?_))
   refine tx 10 rfl (bH cP cP ps gL (fun _=>rfl) j rfl rfl rfl rfl (by omega) (by decide) runUnderlying55 sizeOf89) (tz [(11,true),(12,true)] 3 (go 3 ?_))
   refine ox 13 rfl rfl (bDk bSq rfl (.cons rfl (.cons rfl .nil)) (r:=bP [ps[j].name,ps[j].name]) rfl ?_)
   refine ox 14 rfl rfl (bDm [] bWi rfl rfl (by decide) (by unfold maxLen;omega) (by omega) (N:=c+2) rfl (fun hn b hb=>qW hn hb) (fun b hb=>by simp [hb]) (List.map_append (f:=fun x=>AC.val (.string x))).symm fun v1=>?_)
   refine tz [(15,true)] 0 (go 2 ?_)
   refine ax (go 4 ?_)
   refine wad rfl (go 2 ?_)
   refine ⟨(j+1,v1,acc++[ps[j].name,ps[j].name],c+2),⟨by omega,by show acc++[ps[j].name,ps[j].name]=_;rw [vX ps j hlj,hacc,if_pos hmx,append_assoc],by simp [hc]⟩,by show ps.length-(j+1)<ps.length-j;omega,cA (.refl _) (.refl _) (by grind) (sA rfl)⟩
  have hmx:=hc4
  refine go 5 ?_
  refine wad rfl (go 2 ?_)
  refine ⟨(j+1,v,acc,c),⟨by omega,by show acc=_;rw [vX ps j hlj,hacc,if_neg (by rw [hmx];decide),List.append_nil],hc⟩,by show ps.length-(j+1)<ps.length-j;omega,cA (.refl _) (.refl _) (by grind) (sA rfl)⟩
 refine wcp false rfl (by first|exact eE (by omega)|(simp [bC]<;>omega)) (go 10 ?_)
 have hfin:acc=iZ ms++jB ps:=by rw [hacc,take_of_length_le (by omega)]
 have hlen:ms.length <= acc.length:=by rw [hfin,length_append,iZ,List.length_map];omega
 subst hc
 refine aE1 7 rfl ?_
 refine go 6 ?_
 refine wo rfl (bD [S] rfl rfl (by decide) call45 rfl (eC (_::_::A) _ _ _ l i0 _ hi0 hl (by omega) (by omega)) (bDj (by simp)) (bDj (by simp [Sto.bl])) (fun _=>bDj (by simp)) ?_)
 rintro r1 s1 ⟨z1,i1,rfl,hy1,hi1,rfl⟩
 refine go 7 ?_
 refine wyz rfl (rT (fun x=>.val (.string x)) acc z1 rfl rfl rfl rfl (by omega) runUnderlying50 sizeOf9) (go 11 fun b3=>?_)
 by_cases hzm:z1<ms.length
 ·refine wcp true rfl (by first|exact eU (by omega)|(simp [bC]<;>omega)) (go 7 ?_)
  refine wyz rfl (bH bT bT ms mZ (fun _=>rfl) z1 rfl rfl rfl rfl (by omega) (by decide) runUnderlying27 sizeOf70) (go 2 ?_)
  by_cases hsz:0<ms[z1].size
  ·refine wcp true rfl (by first|exact eU (by omega)|(simp [bC]<;>omega)) (go 13 ?_)
   refine wyz rfl (bH bT bT ms mZ (fun _=>rfl) z1 rfl rfl rfl rfl (by omega) (by decide) runUnderlying27 sizeOf70) (go 2 ?_)
   refine wo rfl (bD [S] rfl rfl (by decide) call120 rfl (aM1 (_::_::_::A) _ RA _ _ S W l i1 vars G (.sl ms.length (ms.flatMap bT)) F left ar ms[z1].size hsz (by have:=hmz _ (getElem_mem hzm);omega) hi1 hl hvl) (bDj (by simp)) (bDj (by simp [Sto.bl])) (fun _=>bDj (by simp)) ?_)
   rintro r2 s2 ⟨x2,i2,rfl,hm2,hi2,rfl⟩
   refine wo rfl (bDk bDs rfl (.cons rfl .nil) (aV fO cU x2 (fP _) rfl rfl) ?_)
   refine go 11 ?_
   exact ⟨.inr rfl,_,SSt A (⟨W,104,[.val (.pointer (some ⟨S,0,none⟩)),G,(.sl ms.length (ms.flatMap bT)),F,.val (.int .i64 left),.val (.bool ar)]⟩::B) (gP RA vv vars rw) S l i2,(eK (Wk.agg (.r (.r .nil))) (aR rfl (aO [_] rfl rfl isAgg75 sizeOf75 (bK rfl rfl)))),aA (.cons _ (.cons _ (.cons _ (.refl _)))) (.refl _),⟨⟨acc[z1],[x2]⟩,i2,rfl,(by rw [(show acc[z1]=ms[z1].name by simp only [hfin];rw [List.getElem_append_left (by rw [iZ,List.length_map];exact hzm)];simp [iZ])];exact .arr (getElem_mem hzm) hsz hm2),hi2,rfl⟩⟩
  refine wcp false rfl (by first|exact eE (by omega)|(simp [bC]<;>omega)) (go 13 ?_)
  exact ⟨.inr rfl,_,SSt A (⟨W,104,[.val (.pointer (some ⟨S,0,none⟩)),G,(.sl ms.length (ms.flatMap bT)),F,.val (.int .i64 left),.val (.bool ar)]⟩::B) (gP RA vv vars rw) S l i1,(eK (Wk.agg (.r (.n .nil))) (aR rfl (aO [_] rfl rfl isAgg75 sizeOf75 (bK rfl rfl)))),aA (.cons _ (.cons _ (.cons _ (.refl _)))) (.refl _),⟨⟨acc[z1],[]⟩,i1,rfl,(by rw [(show acc[z1]=ms[z1].name by simp only [hfin];rw [List.getElem_append_left (by rw [iZ,List.length_map];exact hzm)];simp [iZ])];exact .scalar (getElem_mem hzm) (by omega)),hi1,rfl⟩⟩
 refine wcp false rfl (by first|exact eE (by omega)|(simp [bC]<;>omega)) (go 24 ?_)
 exact ⟨.inr rfl,_,SSt A (⟨W,104,[.val (.pointer (some ⟨S,0,none⟩)),G,(.sl ms.length (ms.flatMap bT)),F,.val (.int .i64 left),.val (.bool ar)]⟩::B) (gP RA vv vars rw) S l i1,(eK (Wk.agg (.r (.n .nil))) (aR rfl (aO [_] rfl rfl isAgg75 sizeOf75 (bK rfl rfl)))),aA (.cons _ (.cons _ (.cons _ (.refl _)))) (.refl _),⟨⟨acc[z1],[]⟩,i1,rfl,(aI7 (show acc[z1]∈jB ps by simp only [hfin];rw [List.getElem_append_right (by rw [iZ,List.length_map];omega)];exact getElem_mem _)),hi1,rfl⟩⟩
theorem nB.snoc{ms:List cL}{ps:List aS}{vars:List ByteArray}{l:List aS}{al:List eN}(h:nB ms ps vars l al){x:aS}{a:eN}(ha:(x.mutex=true /\ a=⟨true,a.ref,.zero⟩ /\ uA ms ps vars a.ref)∨(x.mutex=false /\ a=⟨false,.zero,a.expr⟩ /\ eT vars 2 a.expr)):nB ms ps vars (l++[x]) (al++[a]):=by
 induction h with
 |nil=>
  rcases ha with ⟨h1,h2,h3⟩|⟨h1,h2,h3⟩
  ·rw [h2];exact .mutex h1 h3 .nil
  ·rw [h2];exact .expr h1 h3 .nil
 |mutex hx hr _ ih=>exact .mutex hx hr ih
 |expr hx he _ ih=>exact .expr hx he ih
theorem sS(A B:List Box)(RA rw:List bA)(vv:Value)(S W:Nat)(l:List Int)(i0:Nat)(ms:List cL)(ps:List aS)(vars:List ByteArray)(fn:ByteArray)(G F FB:AC)(left:Int)(ar:Bool)(gn:ByteArray)(qs:List aS)(GB:AC)(hi0:i0 <= l.length)(hl:l.length <= 1000000)(hm1:1 <= ms.length)(hm2:ms.length <= 1000)(hmz:∀m,m∈ms -> m.size <= 1000)(hp2:ps.length <= 1000)(hvl:vars.length <= 1000000)(hq2:qs.length <= 1000):aL prog 84 [pP W,.agg [.val (.string fn),.sl ps.length (ps.flatMap cP),FB],.agg [.val (.string gn),.sl qs.length (qs.flatMap cP),GB],.c (.val vv)] [S] (SSt A (⟨W,104,[.val (.pointer (some ⟨S,0,none⟩)),G,(.sl ms.length (ms.flatMap bT)),F,.val (.int .i64 left),.val (.bool ar)]⟩::B) (gP RA vv vars rw) S l i0) (fun r s=>∃(al:List eN) (i:Nat),r=.c (.sl al.length (al.flatMap eJ)) /\ nB ms ps vars qs al /\ i <= l.length /\ s=SSt A (⟨W,104,[.val (.pointer (some ⟨S,0,none⟩)),G,(.sl ms.length (ms.flatMap bT)),F,.val (.int .i64 left),.val (.bool ar)]⟩::B) (gP RA vv vars rw) S l i):=by
 refine acB func84 rfl ?_
 show AWp prog _ ⟨40,[S],⟨A++⟨S,102,[.sl l.length (l.map fun i=>.val (.int .i64 i)),nC i0]⟩::⟨W,104,[.val (.pointer (some ⟨S,0,none⟩)),G,(.sl ms.length (ms.flatMap bT)),F,.val (.int .i64 left),.val (.bool ar)]⟩::B,RA++⟨vv,9,1,vars.length,bP vars⟩::rw⟩,[(0,pP W),(1,.agg [.val (.string fn),.sl ps.length (ps.flatMap cP),FB]),(2,.agg [.val (.string gn),.sl qs.length (qs.flatMap cP),GB]),(3,.c (.val vv))]⟩ _
 refine go 19 fun b1 b2=>?_
 refine qR 141 7 ?_
 refine fM (fun g:Nat×Value×List eN×Nat=>(⟨40,aY g.2.1++[b2,b1,S],⟨⟨b2,58,[.val (.string gn),.sl qs.length (qs.flatMap cP),GB]⟩::⟨b1,58,[.val (.string fn),.sl ps.length (ps.flatMap cP),FB]⟩::(A++⟨S,102,[.sl l.length (l.map fun i=>.val (.int .i64 i)),nC g.2.2.2]⟩::⟨W,104,[.val (.pointer (some ⟨S,0,none⟩)),G,(.sl ms.length (ms.flatMap bT)),F,.val (.int .i64 left),.val (.bool ar)]⟩::B),⟨g.2.1,141,7,g.2.2.1.length,g.2.2.1.flatMap eJ⟩::(gP RA vv vars rw)⟩,[(10,nI g.1),(9,.c (.val g.2.1)),(0,pP W),(3,.c (.val vv)),(5,pP b1),(6,pP b2)]⟩:AS)) (fun g=>g.1 <= qs.length /\ g.2.2.1.length=g.1 /\ nB ms ps vars (qs.take g.1) g.2.2.1 /\ g.2.2.2 <= l.length) (fun g=>qs.length-g.1) (0,.slice none 0 0,[],i0) (cA (.refl _) (.refl _) (by intro x hx;simpa [aY,Value.ownBlock] using hx) (sA rfl)) ⟨Nat.zero_le _,rfl,.nil,hi0⟩ ?_
 rintro ⟨k,v,acc,ik⟩ ⟨hk,hal,hacc,hik⟩
 dsimp only at hk hal hacc hik
 show AWp prog _ (⟨40,aY v++[b2,b1,S],⟨⟨b2,58,[.val (.string gn),.sl qs.length (qs.flatMap cP),GB]⟩::⟨b1,58,[.val (.string fn),.sl ps.length (ps.flatMap cP),FB]⟩::(A++⟨S,102,[.sl l.length (l.map fun i=>.val (.int .i64 i)),nC ik]⟩::⟨W,104,[.val (.pointer (some ⟨S,0,none⟩)),G,(.sl ms.length (ms.flatMap bT)),F,.val (.int .i64 left),.val (.bool ar)]⟩::B),⟨v,141,7,acc.length,acc.flatMap eJ⟩::(gP RA vv vars rw)⟩,[(10,nI k),(9,.c (.val v)),(0,pP W),(3,.c (.val vv)),(5,pP b1),(6,pP b2)]⟩:AS) _
 refine go 7 ?_
 by_cases hlt:k<qs.length
 ·refine wcp true rfl (by first|exact eU (by omega)|(simp [bC]<;>omega)) (go 12 ?_)
  refine wyz rfl (bH cP cP qs gL (fun _=>rfl) k rfl rfl rfl rfl (by omega) (by decide) runUnderlying55 sizeOf89) (go 4 ?_)
  refine gY rfl (fun hc2=>?_) (fun hc2=>?_)
  ·have hmx:=hc2
   refine go 5 ?_
   refine wo rfl (bD [S] rfl rfl (by decide) call82 rfl (rG (_::_::A) _ (_::RA) _ _ S W l ik ms ps vars fn G F FB left ar hik hl hm1 hm2 hmz hp2 hvl) (bDj (by simp)) (bDj (by simp [Sto.bl])) (fun _=>bDj (by simp)) ?_)
   rintro r1 s1 ⟨f1,i1,rfl,hm1,hi1,rfl⟩
   refine go 1 ?_
   refine eA 29 rfl (Wk.agg (.r (.r (.r (.r (.r (.r (.n .nil)))))))) ?_
   refine wo rfl (bDk zb0 rfl (.cons rfl .nil) (aV eJ eJ ⟨true,f1,.zero⟩ rfl rfl rfl) ?_)
   refine wo rfl (bDm [] bWj rfl rfl (by decide) (by unfold maxLen;omega) (by omega) (@length_append _ acc [⟨true,f1,.zero⟩]).symm (fun _ b hb=>by simp [hb]) (fun b hb=>by simp [hb]) (List.flatMap_append (f:=eJ)).symm fun v2=>?_)
   refine go 6 ?_
   refine wad rfl (go 2 ?_)
   refine ⟨(k+1,v2,acc++[⟨true,f1,.zero⟩],i1),⟨by omega,by simp [hal],by rw [List.take_succ_eq_append_getElem hlt];exact hacc.snoc (.inl ⟨hmx,rfl,hm1⟩),hi1⟩,by show qs.length-(k+1)<qs.length-k;omega,cA (.refl _) (.refl _) (by grind) (sA rfl)⟩
  have hmx:=hc2
  refine go 4 ?_
  refine wo rfl (bD [S] rfl rfl (by decide) call83 rfl (pQ (_::_::A) _ (_::RA) _ _ S W l ik vars G (.sl ms.length (ms.flatMap bT)) F left ar hik hl hvl) (bDj (by simp)) (bDj (by simp [Sto.bl])) (fun _=>bDj (by simp)) ?_)
  rintro r1 s1 ⟨x1,i1,rfl,hm1,hi1,rfl⟩
  refine go 1 ?_
  refine eA 36 rfl (Wk.agg (.r (.r (.n (.r (.r (.r (.r .nil)))))))) ?_
  refine wo rfl (bDk zb0 rfl (.cons rfl .nil) (aV eJ eJ ⟨false,.zero,x1⟩ rfl rfl rfl) ?_)
  refine wo rfl (bDm [] bWj rfl rfl (by decide) (by unfold maxLen;omega) (by omega) (@length_append _ acc [⟨false,.zero,x1⟩]).symm (fun _ b hb=>by simp [hb]) (fun b hb=>by simp [hb]) (List.flatMap_append (f:=eJ)).symm fun v2=>?_)
  refine go 6 ?_
  refine wad rfl (go 2 ?_)
  refine ⟨(k+1,v2,acc++[⟨false,.zero,x1⟩],i1),⟨by omega,by simp [hal],by rw [List.take_succ_eq_append_getElem hlt];exact hacc.snoc (.inr ⟨hmx,rfl,hm1⟩),hi1⟩,by show qs.length-(k+1)<qs.length-k;omega,cA (.refl _) (.refl _) (by grind) (sA rfl)⟩
 refine wcp false rfl (by first|exact eE (by omega)|(simp [bC]<;>omega)) (go 10 ?_)
 refine aE1 9 rfl ?_
 refine go 5 ?_
 exact ⟨.inr rfl,_,SSt A (⟨W,104,[.val (.pointer (some ⟨S,0,none⟩)),G,(.sl ms.length (ms.flatMap bT)),F,.val (.int .i64 left),.val (.bool ar)]⟩::B) (gP RA vv vars rw) S l ik,aR rfl (aF rfl),aA (.cons _ (.cons _ (.refl _))) (.refl _),⟨acc,ik,rfl,by rw [take_of_length_le (by omega)] at hacc;exact hacc,hik,rfl⟩⟩
end
end Go.Proofs.YtojinfngbbajgaaGreatDoor
