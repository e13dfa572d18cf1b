import Derived.Test.YtlmpchoaebhhmaaGreatDoorL5J
import Derived.Test.YtlmpchoaebhhmaaGreatDoorL8J
import Derived.Test.YtlmpchoaebhhmaaGreatDoorL7J
import Derived.Test.YtlmpchoaebhhmaaGreatDoorL6J
import Derived.Test.YtlmpchoaebhhmaaGreatDoorL1J
import Derived.Deep.QuietTactic
import Derived.BigQuiet
set_option linter.all false
set_option synthInstance.maxHeartbeats 1000000
set_option synthInstance.maxSize 1000000
set_option maxHeartbeats 1600000
set_option maxRecDepth 100000
namespace Go.Proofs.YtlmpchoaebhhmaaGreatDoor
open Go.Proofs.Tryz
open List (length_append length_cons length_nil mem_append mem_cons not_mem_nil append_assoc getElem_mem take_of_length_le)
section
open Go.RowKit
theorem aI7{ms:List cL}{ps:List aS}{vars:List ByteArray}{n:ByteArray}(h:n∈jB ps):uA ms ps vars ⟨n,[]⟩:=by
 obtain ⟨x,hx,hxm,rfl⟩:=aE4 ps _ h
 exact .param hx hxm
theorem rG(A B:List Box)(RA rw:List bA)(vv:Value)(S W:Nat)(l:List Int)(i0:Nat)(ms:List cL)(ps:List aS)(vars:List ByteArray)(fn:ByteArray)(G F FB:AC)(left:Int)(ar:Bool)(hi0:i0 <= l.length)(hl:l.length <= 1000000)(hm1:1 <= ms.length)(hm2:ms.length <= 1000)(hmz:∀m,m∈ms -> m.size <= 1000)(hp2:ps.length <= 1000)(hvl:vars.length <= 1000000):aL prog 71 [pP W,.agg [.val (.string fn),.sl ps.length (ps.flatMap cP),FB],.c (.val vv)] [S] (SSt A (⟨W,80,[.val (.pointer (some ⟨S,0,none⟩)),G,(.sl ms.length (ms.flatMap bT)),F,.val (.int .i64 left),.val (.bool ar)]⟩::B) (gP RA vv vars rw) S l i0) (fun r s=>∃(f:cY) (i:Nat),r=.agg (encR f) /\ uA ms ps vars f /\ i <= l.length /\ s=SSt A (⟨W,80,[.val (.pointer (some ⟨S,0,none⟩)),G,(.sl ms.length (ms.flatMap bT)),F,.val (.int .i64 left),.val (.bool ar)]⟩::B) (gP RA vv vars rw) S l i):=by
 refine acB func71 rfl ?_
 show AWp prog _ ⟨107,[S],⟨A++⟨S,78,[.sl l.length (l.map fun i=>.val (.int .i64 i)),nC i0]⟩::⟨W,80,[.val (.pointer (some ⟨S,0,none⟩)),G,(.sl ms.length (ms.flatMap bT)),F,.val (.int .i64 left),.val (.bool ar)]⟩::B,RA++⟨vv,9,1,vars.length,bP vars⟩::rw⟩,[(0,pP W),(1,.agg [.val (.string fn),.sl ps.length (ps.flatMap cP),FB]),(2,.c (.val vv))]⟩ _
 refine go 18 fun b1 b2=>?_
 refine qR 9 1 ?_
 refine fM (fun g:Nat×Value×List ByteArray=>(⟨107,aY g.2.1++[b2,b1,S],⟨⟨b2,91,[.val (.string ⟨#[]⟩),.val (.slice none 0 0)]⟩::⟨b1,44,[.val (.string fn),.sl ps.length (ps.flatMap cP),FB]⟩::(A++⟨S,78,[.sl l.length (l.map fun i=>.val (.int .i64 i)),nC i0]⟩::⟨W,80,[.val (.pointer (some ⟨S,0,none⟩)),G,(.sl ms.length (ms.flatMap bT)),F,.val (.int .i64 left),.val (.bool ar)]⟩::B),⟨g.2.1,9,1,g.2.2.length,bP g.2.2⟩::(gP RA vv vars rw)⟩,[(8,nI g.1),(7,.c (.val g.2.1)),(0,pP W),(2,.c (.val vv)),(4,pP b1),(6,pP b2)]⟩:AS)) (fun g=>g.1 <= ms.length /\ g.2.2=iZ (ms.take g.1)) (fun g=>ms.length-g.1) (0,.slice none 0 0,[]) (cA (.refl _) (.refl _) (by intro x hx;simpa [aY,Value.ownBlock] using hx) (sA rfl)) ⟨Nat.zero_le _,rfl⟩ ?_
 rintro ⟨k,v,acc⟩ ⟨hk,hacc⟩
 dsimp only at hk hacc
 show AWp prog _ (⟨107,aY v++[b2,b1,S],⟨⟨b2,91,[.val (.string ⟨#[]⟩),.val (.slice none 0 0)]⟩::⟨b1,44,[.val (.string fn),.sl ps.length (ps.flatMap cP),FB]⟩::(A++⟨S,78,[.sl l.length (l.map fun i=>.val (.int .i64 i)),nC i0]⟩::⟨W,80,[.val (.pointer (some ⟨S,0,none⟩)),G,(.sl ms.length (ms.flatMap bT)),F,.val (.int .i64 left),.val (.bool ar)]⟩::B),⟨v,9,1,acc.length,bP acc⟩::(gP RA vv vars rw)⟩,[(8,nI k),(7,.c (.val v)),(0,pP W),(2,.c (.val vv)),(4,pP b1),(6,pP b2)]⟩:AS) _
 have hal:acc.length=k:=by rw [hacc,iZ,List.length_map,List.length_take];omega
 refine go 10 ?_
 by_cases hlt:k<ms.length
 ·refine wcp true rfl (by first|exact eU (by omega)|(simp [bC]<;>omega)) ?_
  refine go 15 ?_
  refine wyz rfl (bH bT bT ms mZ (fun _=>rfl) k rfl rfl rfl rfl (by omega) (by decide) runUnderlying32 sizeOf71) ?_
  refine go 2 ?_
  refine wo rfl (bDk bDw rfl (.cons rfl .nil) (r:=bP [ms[k].name]) rfl ?_)
  refine wo rfl (bDm [] bDn rfl rfl (by decide) (by unfold maxLen;omega) (by omega) (@length_append _ acc [ms[k].name]).symm (fun _ b hb=>by simp [hb]) (fun b hb=>by simp [hb]) (List.map_append (f:=fun x=>AC.val (.string x))).symm fun v1=>?_)
  refine go 6 ?_
  refine wad rfl ?_
  refine go 2 ?_
  refine ⟨(k+1,v1,acc++[ms[k].name]),⟨by omega,by rw [aDs ms k hlt,hacc]⟩,by show ms.length-(k+1)<ms.length-k;omega,cA (.refl _) (.refl _) (by grind) (sA rfl)⟩
 refine wcp false rfl (by first|exact eE (by omega)|(simp [bC]<;>omega)) ?_
 refine go 11 ?_
 refine wyz rfl (kV [] rfl rfl rfl runUnderlying26) ?_
 have hke:acc.length=ms.length:=by omega
 rw [hke]
 refine go 10 ?_
 skip
 refine fM (fun g:Nat×Value×List ByteArray×Nat=>(⟨107,aY g.2.1++[b2,b1,S],⟨⟨b2,91,[.val (.string ⟨#[]⟩),.val (.slice none 0 0)]⟩::⟨b1,44,[.val (.string fn),.sl ps.length (ps.flatMap cP),FB]⟩::(A++⟨S,78,[.sl l.length (l.map fun i=>.val (.int .i64 i)),nC i0]⟩::⟨W,80,[.val (.pointer (some ⟨S,0,none⟩)),G,(.sl ms.length (ms.flatMap bT)),F,.val (.int .i64 left),.val (.bool ar)]⟩::B),⟨g.2.1,9,1,g.2.2.2,bP g.2.2.1⟩::(gP RA vv vars rw)⟩,[(10,nI g.1),(7,.c (.val g.2.1)),(0,pP W),(2,.c (.val vv)),(4,pP b1),(6,pP b2),(9,nI ms.length)]⟩:AS)) (fun g=>g.1 <= ps.length /\ g.2.2.1=iZ ms++jB (ps.take g.1) /\ g.2.2.2=g.2.2.1.length) (fun g=>ps.length-g.1) (0,v,acc,ms.length) (sA rfl) ⟨Nat.zero_le _,by show acc=_;rw [hacc,take_of_length_le (by omega)];simp [jB],hke.symm⟩ ?_
 clear hal hacc hk hke
 rintro ⟨j,v,acc,c⟩ ⟨hj,hacc,hc⟩
 dsimp only at hj hacc hc
 show AWp prog _ (⟨107,aY v++[b2,b1,S],⟨⟨b2,91,[.val (.string ⟨#[]⟩),.val (.slice none 0 0)]⟩::⟨b1,44,[.val (.string fn),.sl ps.length (ps.flatMap cP),FB]⟩::(A++⟨S,78,[.sl l.length (l.map fun i=>.val (.int .i64 i)),nC i0]⟩::⟨W,80,[.val (.pointer (some ⟨S,0,none⟩)),G,(.sl ms.length (ms.flatMap bT)),F,.val (.int .i64 left),.val (.bool ar)]⟩::B),⟨v,9,1,c,bP acc⟩::(gP RA vv vars rw)⟩,[(10,nI j),(7,.c (.val v)),(0,pP W),(2,.c (.val vv)),(4,pP b1),(6,pP b2),(9,nI ms.length)]⟩:AS) _
 have hal:acc.length <= ms.length+2*ps.length:=by have h1:=xK (ps.take j);rw [hacc,length_append,iZ,List.length_map];rw [List.length_take] at h1;omega
 refine go 7 ?_
 by_cases hlj:j<ps.length
 ·refine wcp true rfl (by first|exact eU (by omega)|(simp [bC]<;>omega)) ?_
  refine go 12 ?_
  refine wyz rfl (bH cP cP ps gL (fun _=>rfl) j rfl rfl rfl rfl (by omega) (by decide) runUnderlying41 sizeOf73) ?_
  refine go 4 ?_
  refine gY rfl (fun hc4=>?_) (fun hc4=>?_)
  ·have hmx:=hc4
   refine aB [b2,b1,S,W] (by kernel_rfl) ?_
   refine tks [(0,true),(1,true),(2,true),(3,true)] 12 (by kernel_rfl) ?_
   refine go 5 ?_
   refine tr 4 (by kernel_rfl) rfl (bH cP cP ps gL (fun _=>rfl) j rfl rfl rfl rfl (by omega) (by decide) runUnderlying41 sizeOf73) ?_
   refine tks [(5,true),(6,true),(7,true),(8,true),(9,true)] 6 (by kernel_rfl) ?_
   refine go 6 ?_
   refine tr 10 (by kernel_rfl) rfl (bH cP cP ps gL (fun _=>rfl) j rfl rfl rfl rfl (by omega) (by decide) runUnderlying41 sizeOf73) ?_
   refine tks [(11,true),(12,true)] 3 (by kernel_rfl) ?_
   refine go 3 ?_
   refine one 13 (by kernel_rfl) rfl rfl (bDk bDx rfl (.cons rfl (.cons rfl .nil)) (r:=bP [ps[j].name,ps[j].name]) rfl ?_)
   refine one 14 (by kernel_rfl) rfl rfl (bDm [] bDn rfl rfl (by decide) (by unfold maxLen;omega) (by omega) (N:=c+2) rfl (fun hn b hb=>qW hn hb) (fun b hb=>by simp [hb]) (List.map_append (f:=fun x=>AC.val (.string x))).symm fun v1=>?_)
   refine tks [(15,true)] 0 (by kernel_rfl) ?_
   refine go 2 ?_
   refine aE (by kernel_rfl) ?_
   refine go 4 ?_
   refine wad rfl ?_
   refine go 2 ?_
   refine ⟨(j+1,v1,acc++[ps[j].name,ps[j].name],c+2),⟨by omega,by show acc++[ps[j].name,ps[j].name]=_;rw [vX ps j hlj,hacc,if_pos hmx,append_assoc],by simp [hc]⟩,by show ps.length-(j+1)<ps.length-j;omega,cA (.refl _) (.refl _) (by grind) (sA rfl)⟩
  have hmx:=hc4
  refine go 5 ?_
  refine wad rfl ?_
  refine go 2 ?_
  refine ⟨(j+1,v,acc,c),⟨by omega,by show acc=_;rw [vX ps j hlj,hacc,if_neg (by rw [hmx];decide),List.append_nil],hc⟩,by show ps.length-(j+1)<ps.length-j;omega,cA (.refl _) (.refl _) (by grind) (sA rfl)⟩
 refine wcp false rfl (by first|exact eE (by omega)|(simp [bC]<;>omega)) ?_
 refine go 10 ?_
 have hfin:acc=iZ ms++jB ps:=by rw [hacc,take_of_length_le (by omega)]
 have hlen:ms.length <= acc.length:=by rw [hfin,length_append,iZ,List.length_map];omega
 subst hc
 refine aE1 7 rfl ?_
 refine go 6 ?_
 refine wo rfl (bD [S] rfl rfl (by decide) call41 rfl (eC (_::_::A) _ _ _ l i0 _ hi0 hl (by omega) (by omega)) (bDj (by simp)) (bDj (by simp [Sto.bl])) (fun _=>bDj (by simp)) ?_)
 rintro r1 s1 ⟨z1,i1,rfl,hy1,hi1,rfl⟩
 refine go 7 ?_
 refine wyz rfl (rT (fun x=>.val (.string x)) acc z1 rfl rfl rfl rfl (by omega) runUnderlying26 sizeOf9) ?_
 refine go 11 fun b3=>?_
 by_cases hzm:z1<ms.length
 ·refine wcp true rfl (by first|exact eU (by omega)|(simp [bC]<;>omega)) ?_
  refine go 7 ?_
  refine wyz rfl (bH bT bT ms mZ (fun _=>rfl) z1 rfl rfl rfl rfl (by omega) (by decide) runUnderlying32 sizeOf71) ?_
  refine go 2 ?_
  by_cases hsz:0<ms[z1].size
  ·refine wcp true rfl (by first|exact eU (by omega)|(simp [bC]<;>omega)) ?_
   refine go 13 ?_
   refine wyz rfl (bH bT bT ms mZ (fun _=>rfl) z1 rfl rfl rfl rfl (by omega) (by decide) runUnderlying32 sizeOf71) ?_
   refine go 2 ?_
   refine wo rfl (bD [S] rfl rfl (by decide) call104 rfl (aM1 (_::_::_::A) _ RA _ _ S W l i1 vars G (.sl ms.length (ms.flatMap bT)) F left ar ms[z1].size hsz (by have:=hmz _ (getElem_mem hzm);omega) hi1 hl hvl) (bDj (by simp)) (bDj (by simp [Sto.bl])) (fun _=>bDj (by simp)) ?_)
   rintro r2 s2 ⟨x2,i2,rfl,hm2,hi2,rfl⟩
   refine wo rfl (bDk bHf rfl (.cons rfl .nil) (aV fO cU x2 (fP _) rfl rfl) ?_)
   refine go 11 ?_
   exact ⟨.inr rfl,_,SSt A (⟨W,80,[.val (.pointer (some ⟨S,0,none⟩)),G,(.sl ms.length (ms.flatMap bT)),F,.val (.int .i64 left),.val (.bool ar)]⟩::B) (gP RA vv vars rw) S l i2,(eK (Wk.agg (.r (.r .nil))) (aR rfl (aO [_] rfl rfl isAgg91 sizeOf91 (bK rfl rfl)))),aA (.cons _ (.cons _ (.cons _ (.refl _)))) (.refl _),⟨⟨acc[z1],[x2]⟩,i2,rfl,(by rw [(show acc[z1]=ms[z1].name by simp only [hfin];rw [List.getElem_append_left (by rw [iZ,List.length_map];exact hzm)];simp [iZ])];exact .arr (getElem_mem hzm) hsz hm2),hi2,rfl⟩⟩
  refine wcp false rfl (by first|exact eE (by omega)|(simp [bC]<;>omega)) ?_
  refine go 13 ?_
  exact ⟨.inr rfl,_,SSt A (⟨W,80,[.val (.pointer (some ⟨S,0,none⟩)),G,(.sl ms.length (ms.flatMap bT)),F,.val (.int .i64 left),.val (.bool ar)]⟩::B) (gP RA vv vars rw) S l i1,(eK (Wk.agg (.r (.n .nil))) (aR rfl (aO [_] rfl rfl isAgg91 sizeOf91 (bK rfl rfl)))),aA (.cons _ (.cons _ (.cons _ (.refl _)))) (.refl _),⟨⟨acc[z1],[]⟩,i1,rfl,(by rw [(show acc[z1]=ms[z1].name by simp only [hfin];rw [List.getElem_append_left (by rw [iZ,List.length_map];exact hzm)];simp [iZ])];exact .scalar (getElem_mem hzm) (by omega)),hi1,rfl⟩⟩
 refine wcp false rfl (by first|exact eE (by omega)|(simp [bC]<;>omega)) ?_
 refine go 24 ?_
 exact ⟨.inr rfl,_,SSt A (⟨W,80,[.val (.pointer (some ⟨S,0,none⟩)),G,(.sl ms.length (ms.flatMap bT)),F,.val (.int .i64 left),.val (.bool ar)]⟩::B) (gP RA vv vars rw) S l i1,(eK (Wk.agg (.r (.n .nil))) (aR rfl (aO [_] rfl rfl isAgg91 sizeOf91 (bK rfl rfl)))),aA (.cons _ (.cons _ (.cons _ (.refl _)))) (.refl _),⟨⟨acc[z1],[]⟩,i1,rfl,(aI7 (show acc[z1]∈jB ps by simp only [hfin];rw [List.getElem_append_right (by rw [iZ,List.length_map];omega)];exact getElem_mem _)),hi1,rfl⟩⟩
theorem nB.snoc{ms:List cL}{ps:List aS}{vars:List ByteArray}{l:List aS}{al:List eN}(h:nB ms ps vars l al){x:aS}{a:eN}(ha:(x.mutex=true /\ a=⟨true,a.ref,.zero⟩ /\ uA ms ps vars a.ref)∨(x.mutex=false /\ a=⟨false,.zero,a.expr⟩ /\ eT vars 2 a.expr)):nB ms ps vars (l++[x]) (al++[a]):=by
 induction h with
 |nil=>
  rcases ha with ⟨h1,h2,h3⟩|⟨h1,h2,h3⟩
  ·rw [h2];exact .mutex h1 h3 .nil
  ·rw [h2];exact .expr h1 h3 .nil
 |mutex hx hr _ ih=>exact .mutex hx hr ih
 |expr hx he _ ih=>exact .expr hx he ih
theorem sS(A B:List Box)(RA rw:List bA)(vv:Value)(S W:Nat)(l:List Int)(i0:Nat)(ms:List cL)(ps:List aS)(vars:List ByteArray)(fn:ByteArray)(G F FB:AC)(left:Int)(ar:Bool)(gn:ByteArray)(qs:List aS)(GB:AC)(hi0:i0 <= l.length)(hl:l.length <= 1000000)(hm1:1 <= ms.length)(hm2:ms.length <= 1000)(hmz:∀m,m∈ms -> m.size <= 1000)(hp2:ps.length <= 1000)(hvl:vars.length <= 1000000)(hq2:qs.length <= 1000):aL prog 73 [pP W,.agg [.val (.string fn),.sl ps.length (ps.flatMap cP),FB],.agg [.val (.string gn),.sl qs.length (qs.flatMap cP),GB],.c (.val vv)] [S] (SSt A (⟨W,80,[.val (.pointer (some ⟨S,0,none⟩)),G,(.sl ms.length (ms.flatMap bT)),F,.val (.int .i64 left),.val (.bool ar)]⟩::B) (gP RA vv vars rw) S l i0) (fun r s=>∃(al:List eN) (i:Nat),r=.c (.sl al.length (al.flatMap eJ)) /\ nB ms ps vars qs al /\ i <= l.length /\ s=SSt A (⟨W,80,[.val (.pointer (some ⟨S,0,none⟩)),G,(.sl ms.length (ms.flatMap bT)),F,.val (.int .i64 left),.val (.bool ar)]⟩::B) (gP RA vv vars rw) S l i):=by
 refine acB func73 rfl ?_
 show AWp prog _ ⟨40,[S],⟨A++⟨S,78,[.sl l.length (l.map fun i=>.val (.int .i64 i)),nC i0]⟩::⟨W,80,[.val (.pointer (some ⟨S,0,none⟩)),G,(.sl ms.length (ms.flatMap bT)),F,.val (.int .i64 left),.val (.bool ar)]⟩::B,RA++⟨vv,9,1,vars.length,bP vars⟩::rw⟩,[(0,pP W),(1,.agg [.val (.string fn),.sl ps.length (ps.flatMap cP),FB]),(2,.agg [.val (.string gn),.sl qs.length (qs.flatMap cP),GB]),(3,.c (.val vv))]⟩ _
 refine go 19 fun b1 b2=>?_
 refine qR 142 7 ?_
 refine fM (fun g:Nat×Value×List eN×Nat=>(⟨40,aY g.2.1++[b2,b1,S],⟨⟨b2,44,[.val (.string gn),.sl qs.length (qs.flatMap cP),GB]⟩::⟨b1,44,[.val (.string fn),.sl ps.length (ps.flatMap cP),FB]⟩::(A++⟨S,78,[.sl l.length (l.map fun i=>.val (.int .i64 i)),nC g.2.2.2]⟩::⟨W,80,[.val (.pointer (some ⟨S,0,none⟩)),G,(.sl ms.length (ms.flatMap bT)),F,.val (.int .i64 left),.val (.bool ar)]⟩::B),⟨g.2.1,142,7,g.2.2.1.length,g.2.2.1.flatMap eJ⟩::(gP RA vv vars rw)⟩,[(10,nI g.1),(9,.c (.val g.2.1)),(0,pP W),(3,.c (.val vv)),(5,pP b1),(6,pP b2)]⟩:AS)) (fun g=>g.1 <= qs.length /\ g.2.2.1.length=g.1 /\ nB ms ps vars (qs.take g.1) g.2.2.1 /\ g.2.2.2 <= l.length) (fun g=>qs.length-g.1) (0,.slice none 0 0,[],i0) (cA (.refl _) (.refl _) (by intro x hx;simpa [aY,Value.ownBlock] using hx) (sA rfl)) ⟨Nat.zero_le _,rfl,.nil,hi0⟩ ?_
 rintro ⟨k,v,acc,ik⟩ ⟨hk,hal,hacc,hik⟩
 dsimp only at hk hal hacc hik
 show AWp prog _ (⟨40,aY v++[b2,b1,S],⟨⟨b2,44,[.val (.string gn),.sl qs.length (qs.flatMap cP),GB]⟩::⟨b1,44,[.val (.string fn),.sl ps.length (ps.flatMap cP),FB]⟩::(A++⟨S,78,[.sl l.length (l.map fun i=>.val (.int .i64 i)),nC ik]⟩::⟨W,80,[.val (.pointer (some ⟨S,0,none⟩)),G,(.sl ms.length (ms.flatMap bT)),F,.val (.int .i64 left),.val (.bool ar)]⟩::B),⟨v,142,7,acc.length,acc.flatMap eJ⟩::(gP RA vv vars rw)⟩,[(10,nI k),(9,.c (.val v)),(0,pP W),(3,.c (.val vv)),(5,pP b1),(6,pP b2)]⟩:AS) _
 refine go 7 ?_
 by_cases hlt:k<qs.length
 ·refine wcp true rfl (by first|exact eU (by omega)|(simp [bC]<;>omega)) ?_
  refine go 12 ?_
  refine wyz rfl (bH cP cP qs gL (fun _=>rfl) k rfl rfl rfl rfl (by omega) (by decide) runUnderlying41 sizeOf73) ?_
  refine go 4 ?_
  refine gY rfl (fun hc2=>?_) (fun hc2=>?_)
  ·have hmx:=hc2
   refine go 5 ?_
   refine wo rfl (bD [S] rfl rfl (by decide) call71 rfl (rG (_::_::A) _ (_::RA) _ _ S W l ik ms ps vars fn G F FB left ar hik hl hm1 hm2 hmz hp2 hvl) (bDj (by simp)) (bDj (by simp [Sto.bl])) (fun _=>bDj (by simp)) ?_)
   rintro r1 s1 ⟨f1,i1,rfl,hm1,hi1,rfl⟩
   refine go 1 ?_
   refine eA 29 rfl (Wk.agg (.r (.r (.r (.r (.r (.r (.n .nil)))))))) ?_
   refine wo rfl (bDk zb0 rfl (.cons rfl .nil) (aV eJ eJ ⟨true,f1,.zero⟩ rfl rfl rfl) ?_)
   refine wo rfl (bDm [] bHh rfl rfl (by decide) (by unfold maxLen;omega) (by omega) (@length_append _ acc [⟨true,f1,.zero⟩]).symm (fun _ b hb=>by simp [hb]) (fun b hb=>by simp [hb]) (List.flatMap_append (f:=eJ)).symm fun v2=>?_)
   refine go 6 ?_
   refine wad rfl ?_
   refine go 2 ?_
   refine ⟨(k+1,v2,acc++[⟨true,f1,.zero⟩],i1),⟨by omega,by simp [hal],by rw [List.take_succ_eq_append_getElem hlt];exact hacc.snoc (.inl ⟨hmx,rfl,hm1⟩),hi1⟩,by show qs.length-(k+1)<qs.length-k;omega,cA (.refl _) (.refl _) (by grind) (sA rfl)⟩
  have hmx:=hc2
  refine go 4 ?_
  refine wo rfl (bD [S] rfl rfl (by decide) call72 rfl (pQ (_::_::A) _ (_::RA) _ _ S W l ik vars G (.sl ms.length (ms.flatMap bT)) F left ar hik hl hvl) (bDj (by simp)) (bDj (by simp [Sto.bl])) (fun _=>bDj (by simp)) ?_)
  rintro r1 s1 ⟨x1,i1,rfl,hm1,hi1,rfl⟩
  refine go 1 ?_
  refine eA 36 rfl (Wk.agg (.r (.r (.n (.r (.r (.r (.r .nil)))))))) ?_
  refine wo rfl (bDk zb0 rfl (.cons rfl .nil) (aV eJ eJ ⟨false,.zero,x1⟩ rfl rfl rfl) ?_)
  refine wo rfl (bDm [] bHh rfl rfl (by decide) (by unfold maxLen;omega) (by omega) (@length_append _ acc [⟨false,.zero,x1⟩]).symm (fun _ b hb=>by simp [hb]) (fun b hb=>by simp [hb]) (List.flatMap_append (f:=eJ)).symm fun v2=>?_)
  refine go 6 ?_
  refine wad rfl ?_
  refine go 2 ?_
  refine ⟨(k+1,v2,acc++[⟨false,.zero,x1⟩],i1),⟨by omega,by simp [hal],by rw [List.take_succ_eq_append_getElem hlt];exact hacc.snoc (.inr ⟨hmx,rfl,hm1⟩),hi1⟩,by show qs.length-(k+1)<qs.length-k;omega,cA (.refl _) (.refl _) (by grind) (sA rfl)⟩
 refine wcp false rfl (by first|exact eE (by omega)|(simp [bC]<;>omega)) ?_
 refine go 10 ?_
 refine aE1 9 rfl ?_
 refine go 5 ?_
 exact ⟨.inr rfl,_,SSt A (⟨W,80,[.val (.pointer (some ⟨S,0,none⟩)),G,(.sl ms.length (ms.flatMap bT)),F,.val (.int .i64 left),.val (.bool ar)]⟩::B) (gP RA vv vars rw) S l ik,aR rfl (aF rfl),aA (.cons _ (.cons _ (.refl _))) (.refl _),⟨acc,ik,rfl,by rw [take_of_length_le (by omega)] at hacc;exact hacc,hik,rfl⟩⟩
end
section
open Go.RowKit
section
variable {P:Program}{U T:List Nat}{o:Oper}{n d:Nat}{bx:List Box}{rw:List bA}{ts:List (Nat×AT)}{K:AS -> Prop}{st:AS}{t:AT}
theorem aGq{t e:TypeId}{x y:Operand}{d n m z bytes:Nat}{v zv:Value}{cs ds:List AC}{i:TypeInfo}(A:List bA){B:List bA}(ho:o.op=.call {callee:=.builtin .append,args:=#[x,y],argTypes:=#[t,t]})(hd:o.dst=some d)(hn:d<st.n)
  (hx:evA st x=some (.c (.val v))) (hrow:st.s.rows=A++⟨v,e,z,n,cs⟩::B) (hy:∀a w,Sim st a w -> ∃ad c ys,a.eval y=.slice (some ad) m c /\ fG (bI st.s.bl w) ds ys /\ ∀j u,ys[j]?=some u -> w.cell? (ad.add j)=some u) (hu:P.underlying t=some (.slice e)) (hi:P.info? e=some i) (hz:i.zero=some zv) (hsz:i.size=z) (hby:i.bytes=bytes) (hzs:zv.cells.size=z) (h0:0<z)
  (hm:ds.length=m*z) (hlen:n+m <= maxLen) (hbytes:(n+m)*bytes <= 140737488355328) (hU:st.s.bl.Nodup -> ∀b,b∈aY v -> b∈U) (hT:∀b,b∈aY v -> b∈st.T)
  (h:∀v',K {st with s:=⟨st.s.boxes,A++⟨v',e,z,n+m,cs++ds⟩::B⟩,T:=aY v'++st.T,ts:=(d,.c (.val v'))::st.ts}):AO P U o st K:=by
 intro a w hs KK QQ hK
 obtain ⟨us,hown,hrep⟩:=hs.mem.row ⟨v,e,z,n,cs⟩ (by rw [hrow];simp)
 obtain ⟨ad,cap,ys,hyv,hyrep,hyc⟩:=hy a w hs
 have hyl:ys.length=ds.length:=hyrep.len
 refine qP w x y t ho 0 e i zv z bytes hu hi hz hsz hby hzs h0 v n us (hs.val hx) hown ad m cap ys hyv (by rw [hyl,hm]) hyc hyrep.one hlen hbytes (Nat.zero_le _) ?_
 intro v' w' hown' hgrow hfr
 have hkr:cW (aY v) w w':=⟨hgrow.os,hgrow.tape,hgrow.output,hgrow.size,fun k hk hn=>hgrow.block k hk (fun he=>hn (lZ.2 he.symm))⟩
 have hfr2:∀g,g∈aY v' -> g∈aY v∨w.heap.size <= g:=fun g hg=>(hfr g (lZ.1 hg)).imp lZ.2 id
 have hbl0:st.s.bl=(st.s.boxes.map Box.b++A.flatMap fun r=>aY r.v)++(aY v++B.flatMap fun r=>aY r.v):=by have:=sO st.s.boxes A B ⟨v,e,z,n,cs⟩;rw [←hrow] at this;exact this
 have hbl1:=sO st.s.boxes A B ⟨v',e,z,n+m,cs++ds⟩
 generalize hs1:(⟨st.s.boxes,A++⟨v',e,z,n+m,cs++ds⟩::B⟩:Sto)=s1 at hbl1
 have hvb:∀g,g∈aY v -> g∈st.s.bl:=fun g hg=>by rw [hbl0];simp [hg]
 have hsub:∀g,g∈s1.bl -> g∈st.s.bl∨w.heap.size <= g:=fun g hg=>by
  rw [hbl1] at hg
  rw [hbl0]
  simp only [mem_append] at hg⊢
  rcases hg with (hg|hg)|hg|hg
  ·exact .inl (.inl (.inl hg))
  ·exact .inl (.inl (.inr hg))
  ·rcases hfr2 g hg with hg|hg
   ·exact .inl (.inr (.inl hg))
   exact .inr hg
  exact .inl (.inr (.inr hg))
 have hkb:cW st.s.bl w w':=hkr.mono hvb
 have hup:Up2 (bI st.s.bl w) (bI s1.bl w'):=jA hkb (fun _ h=>h) hsub
 have hnd:=hs.mem.nodup
 rw [hbl0] at hnd
 have hlt0:∀g,g∈(st.s.boxes.map Box.b++A.flatMap fun r=>aY r.v)++(aY v++B.flatMap fun r=>aY r.v) -> g<w.heap.size:=by rw [←hbl0];exact hs.mem.lt
 have hnd1:s1.bl.Nodup:=by rw [hbl1];exact aAi hnd hfr2 hlt0 (yK _)
 have hltn:∀g,g∈aY v' -> g<w'.heap.size:=fun g hg=>pF hown' (lZ.1 hg)
 have hmem:Mem s1 w':=by
  refine ⟨hnd1,fun g hg=>?_,fun bx hbx=>?_,fun r hr=>?_⟩
  ·rw [hbl1] at hg
   simp only [mem_append] at hg
   rcases hg with (hg|hg)|hg|hg
   ·exact Nat.lt_of_lt_of_le (hlt0 g (by simp [hg])) hkb.size
   ·exact Nat.lt_of_lt_of_le (hlt0 g (by simp only [mem_append];exact .inl (.inr hg))) hkb.size
   ·exact hltn g hg
   exact Nat.lt_of_lt_of_le (hlt0 g (by simp only [mem_append];exact .inr (.inr hg))) hkb.size
  ·have hbx2:bx∈st.s.boxes:=by rw [←hs1] at hbx;exact hbx
   obtain ⟨us',e1,e2⟩:=hs.mem.box bx hbx2
   have hbb:bx.b∈st.s.boxes.map Box.b:=List.mem_map.2 ⟨bx,hbx2,rfl⟩
   refine ⟨us',?_,e2.mono hup⟩
   rw [hkr.block _ (hlt0 _ (by simp only [mem_append];exact .inl (.inl hbb))) (fun hm=>?_)]
   ·exact e1
   exact (List.nodup_append.1 hnd).2.2 bx.b (List.mem_append_left _ hbb) bx.b (List.mem_append_left _ hm) rfl
  rw [←hs1] at hr
  simp only [mem_append,mem_cons] at hr
  have old:r∈A∨r∈B -> ∃us,w'.ownsRow 0 r.E r.z r.v r.n us /\ fG (bI s1.bl w') r.cs us:=fun hr=>by
   obtain ⟨us',e1,e2⟩:=hs.mem.row r (by rw [hrow];simp only [mem_append,mem_cons];rcases hr with h|h;exact .inl h;exact .inr (.inr h))
   refine ⟨us',lV e1 fun g hg=>?_,e2.mono hup⟩
   refine hkr.block g ?_ fun hm=>?_
   ·rcases hr with hr|hr
    ·exact hlt0 g (by simp only [mem_append];exact .inl (.inr (List.mem_flatMap.2 ⟨r,hr,hg⟩)))
    exact hlt0 g (by simp only [mem_append];exact .inr (.inr (List.mem_flatMap.2 ⟨r,hr,hg⟩)))
   rcases hr with hr|hr
   ·exact (List.nodup_append.1 hnd).2.2 g (List.mem_append_right _ (List.mem_flatMap.2 ⟨r,hr,hg⟩)) g (List.mem_append_left _ hm) rfl
   exact (List.nodup_append.1 (List.nodup_append.1 hnd).2.1).2.2 g hm g (List.mem_flatMap.2 ⟨r,hr,hg⟩) rfl
  rcases hr with hr|rfl|hr
  ·exact old (.inl hr)
  ·exact ⟨us++ys,hown',(hrep.mono hup).app (hyrep.mono hup)⟩
  exact old (.inr hr)
 have s2:=hs.step (aY v'++st.T) hkb hmem hsub
 rw [hd]
 have h9:=h v'
 rw [hs1] at h9
 have h1c:v'.oneCell'=true:=by obtain ⟨_,_,he⟩:=lR hown';rw [he];rfl
 refine hK _ _ _ h9 (s2.put (v:=v') hn (.c _ _ (.val _ h1c))) ⟨hkb,hkr.mono hT,hsub,fun g hg=>?_⟩ (hkr.mono (hU hs.mem.nodup))
 rcases mem_append.1 hg with hg|hg
 ·exact (hfr2 g hg).imp (hT g) id
 exact .inl hg
theorem aF2(w:World)(t ty e:TypeId)(i:TypeInfo)(size:Nat)(ht:P.underlying t=some (.slice e))(hi:P.info? e=some i)(v:Value)(n:Nat)(xs:List Value)(hown:w.ownsRow 0 e size v n xs)(b:Option Addr)(c:Nat):
  (Builtin.append_ #[t,t] ty #[v,.slice b 0 c]).run P w=.ok v w:=by
 have hl:∀a:Addr,(loadCells a 0).run P w=.ok #[] w:=fun a=>run_loadCells_list (P:=P) w a [] (fun j v hj=>by simp at hj)
 rcases hown.2 with ⟨rfl,rfl⟩|⟨g,cap,cur,rfl,_,_,hnc,_⟩
 ·cases b<;>simp [Builtin.append_,run_underlying ht,sizeOf,typeInfo,hi,Builtin.lenOf,Builtin.firstCells,hl]
 cases b<;>simp [Builtin.append_,run_underlying ht,sizeOf,typeInfo,hi,Builtin.lenOf,Builtin.firstCells,hnc,storeCells,hl]
theorem aAk{t e:TypeId}{x y:Operand}{z k:Nat}{v:Value}{cs:List AC}{i:TypeInfo}(A:List bA){B:List bA}(ho:o.op=.call {callee:=.builtin .append,args:=#[x,y],argTypes:=#[t,t]})(hd:o.dst=some d)(hn:d<n)
  (hx:evA ⟨n,T,⟨bx,A++⟨v,e,z,k,cs⟩::B⟩,ts⟩ x=some (.c (.val v))) (hy:∀a w,Sim ⟨n,T,⟨bx,A++⟨v,e,z,k,cs⟩::B⟩,ts⟩ a w -> ∃b c,a.eval y=.slice b 0 c) (hu:P.underlying t=some (.slice e)) (hi:P.info? e=some i) (hT:∀b,b∈aY v -> b∈T)
  (h:K ⟨n,aY v++T,⟨bx,A++⟨v,e,z,k,cs⟩::B⟩,(d,.c (.val v))::ts⟩):AO P U o ⟨n,T,⟨bx,A++⟨v,e,z,k,cs⟩::B⟩,ts⟩ K:=by
 intro a w hs KK QQ hK
 obtain ⟨us,hown,hrep⟩:=hs.mem.row ⟨v,e,z,k,cs⟩ (by simp)
 obtain ⟨b,c,hyv⟩:=hy a w hs
 have hr:=aF2 (P:=P) w t o.type e i z hu hi v k us hown b c
 have s2:=hs.step (w1:=w) (aY v++T) (cW.refl _ _) hs.mem (fun b hb=>.inl hb)
 have h1c:v.oneCell'=true:=by obtain ⟨_,_,he⟩:=lR hown;dsimp only at he;rw [he];rfl
 have hxv:=hs.val hx
 have goal:KK (a.put o.dst v) w:=by
  rw [hd]
  refine hK _ _ _ h (s2.put (v:=v) hn (.c _ _ (.val _ h1c))) ⟨cW.refl _ _,cW.refl _ _,fun b hb=>.inl hb,fun g hg=>?_⟩ (cW.refl _ _)
  rcases mem_append.1 hg with hg|hg
  ·exact .inl (hT g hg)
  exact .inl hg
 unfold Oper.wp execOp
 simp only [ho,resolve,invoke,builtin,Sem.run_bind,Sem.run_pure,Result.andThen_ok,List.map_toArray,List.map_cons,List.map_nil,hxv,hyv,hr]
 exact goal
theorem jU{E e:TypeId}{x y:Operand}{k m z:Nat}{v zv:Value}{cs ds r:List AC}(A:List bA)(i:TypeInfo)(bytes:Nat){B:List bA}(ho:o.op=.call {callee:=.builtin .append,args:=#[x,y],argTypes:=#[E,E]})(hd:o.dst=some d)(hn:d<n)
  (hx:evA ⟨n,T,⟨bx,A++⟨v,e,z,k,cs⟩::B⟩,ts⟩ x=some (.c (.val v))) (hy:evA ⟨n,T,⟨bx,A++⟨v,e,z,k,cs⟩::B⟩,ts⟩ y=some (.c (.sl m ds))) (hu:P.underlying E=some (.slice e)) (hi:P.info? e=some i) (hz:i.zero=some zv) (hsz:i.size=z) (hby:i.bytes=bytes) (hzs:zv.cells.size=z) (h0:0<z)
  (hm:ds.length=m*z) (hlen:k+m <= maxLen) (hbytes:(k+m)*bytes <= 140737488355328) {N:Nat} (hN:k+m=N) (hU:(⟨bx,A++⟨v,e,z,k,cs⟩::B⟩:Sto).bl.Nodup -> ∀b,b∈aY v -> b∈U) (hT:∀b,b∈aY v -> b∈T) (hr:cs++ds=r)
  (h:∀v',K ⟨n,aY v'++T,⟨bx,A++⟨v',e,z,N,r⟩::B⟩,(d,.c (.val v'))::ts⟩):AO P U o ⟨n,T,⟨bx,A++⟨v,e,z,k,cs⟩::B⟩,ts⟩ K:=by
 rcases Nat.eq_zero_or_pos m with rfl|hm0
 ·have hds:ds=[]:=List.eq_nil_of_length_eq_zero (by rw [hm,Nat.zero_mul])
  subst hds;subst hr;subst hN
  refine aAk A ho hd hn hx (fun a w hs=>?_) hu hi hT ?_
  ·obtain ⟨p,cap,hv,-⟩:=aI0 (hs.ev hy);exact ⟨p,cap,hv⟩
  have:=h v;rw [List.append_nil,Nat.add_zero] at this;exact this
 subst hr;subst hN
 exact aBj A ho hd hn hx rfl hy hu hi hz hsz hby hzs h0 hm hm0 hlen hbytes hU hT h
theorem aSk{E e:TypeId}{x y:Operand}{k m z:Nat}{v vy zv:Value}{cs ds r:List AC}(A:List bA)(i:TypeInfo)(bytes:Nat){B:List bA}(ho:o.op=.call {callee:=.builtin .append,args:=#[x,y],argTypes:=#[E,E]})(hd:o.dst=some d)(hn:d<n)
  (hx:evA ⟨n,T,⟨bx,A++⟨v,e,z,k,cs⟩::B⟩,ts⟩ x=some (.c (.val v))) (hy:evA ⟨n,T,⟨bx,A++⟨v,e,z,k,cs⟩::B⟩,ts⟩ y=some (.c (.val vy))) (hmem:(⟨vy,e,z,m,ds⟩:bA)∈A++⟨v,e,z,k,cs⟩::B) (hu:P.underlying E=some (.slice e)) (hi:P.info? e=some i) (hz:i.zero=some zv) (hsz:i.size=z) (hby:i.bytes=bytes) (hzs:zv.cells.size=z) (h0:0<z)
  (hlen:k+m <= maxLen) (hbytes:(k+m)*bytes <= 140737488355328) {N:Nat} (hN:k+m=N) (hU:(⟨bx,A++⟨v,e,z,k,cs⟩::B⟩:Sto).bl.Nodup -> ∀b,b∈aY v -> b∈U) (hT:∀b,b∈aY v -> b∈T) (hm:ds.length=m*z) (hr:cs++ds=r)
  (h:∀v',K ⟨n,aY v'++T,⟨bx,A++⟨v',e,z,N,r⟩::B⟩,(d,.c (.val v'))::ts⟩):AO P U o ⟨n,T,⟨bx,A++⟨v,e,z,k,cs⟩::B⟩,ts⟩ K:=by
 rcases Nat.eq_zero_or_pos m with rfl|hm0
 ·have hds:ds=[]:=List.eq_nil_of_length_eq_zero (by rw [hm,Nat.zero_mul])
  subst hds;subst hr;subst hN
  refine aAk A ho hd hn hx (fun a w hs=>?_) hu hi hT ?_
  ·obtain ⟨us,hown,-⟩:=hs.mem.row _ hmem
   obtain ⟨p,cap,hv⟩:=lR hown
   exact ⟨p,cap,by rw [hs.val hy];exact hv⟩
  have:=h v;rw [List.append_nil,Nat.add_zero] at this;exact this
 subst hr;subst hN
 refine aGq (st:=⟨n,T,⟨bx,A++⟨v,e,z,k,cs⟩::B⟩,ts⟩) A ho hd hn hx rfl (fun a w hs=>?_) hu hi hz hsz hby hzs h0 hm hlen hbytes hU hT h
 obtain ⟨us,hown,hrep⟩:=hs.mem.row _ hmem
 obtain ⟨g,cap,hv⟩:=rV hs.mem hmem hm0
 have hvy:=hs.val hy
 dsimp only at hv hown hrep
 subst hv
 exact ⟨⟨g,0,none⟩,cap,us,hvy,hrep,fun j u hj=>hown.cells (g:=g) rfl j u hj⟩
theorem aBf{E E':TypeId}{x:Operand}{k:Nat}(ho:o.op=.convert E E' x)(hx:evA st x=some (nI k))(hk:k<256)(hE:(P.underlying E).isSome=true)(hE':P.underlying E'=some (.int (P.intKind E')))(hk8:P.intKind E'=.u8):AY P U o st (.c (.val (.int .u8 ((UInt8.ofNat k).toNat:Int)))):=by
 intro a w hs _
 refine ⟨_,.c _ _ (.val _ rfl),fun w' _=>?_⟩
 have h1:=run_convert_int (P:=P) (w:=w') E E' .i64 ((k:Nat):Int) hE hE'
 simp only [execOp,ho,Sem.run_bind,hs.val hx]
 rw [h1,hk8]
 have h2:IntKind.u8.wrap ((k:Nat):Int)=((k:Nat):Int):=by
  have h3:(List.range 256).all (fun k=>decide (IntKind.u8.wrap ((k:Nat):Int)=((k:Nat):Int)))=true:=by kernel_rfl
  exact of_decide_eq_true (List.all_eq_true.1 h3 k (List.mem_range.2 hk))
 rw [h2,show (UInt8.ofNat k).toNat=k from UInt8.toNat_ofNat_of_lt' hk];rfl
end
theorem aG8{w:World}{u v:Value}(h:Rep w (.val v) u):u=v:=by cases h;rfl
theorem hX{U:List Nat}{o:Oper}{st:AS}{x:Operand}{t:List UInt8}{k:Nat}(ho:o.op=.convert 23 9 x)(hx:evA st x=some (.c (.sl k (iF t))))(hk:k=t.length):AY prog U o st (.c (.val (.string (bytes t)))):=by
 subst hk
 intro a w hs hU
 refine ⟨_,.c _ _ (.val _ rfl),fun w' hkp=>?_⟩
 have hv:=hs.ev hx
 generalize hxe:a.eval x=v at hv
 cases hv with
 |c _ _ hv=>cases hv with
  |sl _ _ us _ hr hl hh hc=>
   obtain ⟨p,cap,rfl,hcap,hr⟩:=hr
   have hus:us=cC t:=by
    refine List.ext_getElem (by rw [hl];simp [iF,cC]) fun j h1 h2=>?_
    have h3:=hh j (by simpa [iF,cC] using h2) h1
    have h4:(iF t)[j]'(by simpa [iF,cC] using h2)=.val (cC t)[j]:=by simp [iF,cC]
    rw [h4] at h3;exact aG8 h3
   subst hus
   have hcv:=zN t p cap w' (by
    rcases hr with h0|⟨b,off,rfl,hr⟩
    ·exact .inl h0
    refine .inr ⟨b,off,rfl,fun j u hj=>?_⟩
    obtain ⟨h4,h5⟩:=gA (hr j u hj)
    rw [hkp.cell (gV h4) (fun hm=>h5 (hU _ hm))];exact h4)
   simp only [execOp,ho,Sem.run_bind,hxe]
   rw [hcv];rfl
instance aRs{P:Program}{U T:List Nat}{n N:Nat}{ts:List (Nat×AT)}{t:AT}{g:Prop}{K:AS -> Prop}{E T0:TypeId}{x y:Operand}{ty:TypeId}{pos:String}{af:Array Edge}{gd:Option (Nat×Bool)}{b off z:Nat}{cs ds r:List AC}{ag:Bool}{bx A B:List Box}{rw:List bA}[h1:Ev ts x (.c (.val (.pointer (some ⟨b,off,none⟩))))][h2:Ev ts y t][h3:rF t ds][h4:lY bx b A T0 cs B][h5:TY P E ag z][h6:Spl cs off ds z r]{bx2:List Box}[h7:aNc bx rw T U b][h8:aDk A (⟨b,T0,r⟩::B) bx2][h:Go1 N (K ⟨n,T,⟨bx2,rw⟩,ts⟩) g]:Go1 (N+1) (AO P U ⟨none,.store E x y,ty,pos,af,gd⟩ ⟨n,T,⟨bx,rw⟩,ts⟩ K) g:=⟨fun k=>
 zQ A rfl rfl (h1.h _ _ _) (h2.h _ _ _) h3.h h4.h h5.h.2 h6.h.2.2 h6.h.2.1 h6.h.1 h7.h.1 h7.h.2 (by rw [h8.h];exact h.out k)⟩
end
section
def jP:Nat -> List ByteArray
 |0=>[⟨#[124,124]⟩]
 |1=>[⟨#[38,38]⟩]
 |2=>[⟨#[61,61]⟩,⟨#[33,61]⟩,⟨#[60]⟩,⟨#[60,61]⟩,⟨#[62]⟩,⟨#[62,61]⟩]
 |3=>[⟨#[43]⟩,⟨#[45]⟩]
 |_=>[⟨#[42]⟩,⟨#[47]⟩,⟨#[37]⟩]
def dS:Nat -> List Int
 |0=>[17]
 |1=>[16]
 |2=>[14,15,10,11,12,13]
 |3=>[8,9]
 |_=>[5,6,7]
theorem aKy(k:Nat):(dS k).length=(jP k).length /\ 1 <= (jP k).length /\ (jP k).length <= 6:=by
 rcases k with _|_|_|_|k<;>simp [dS,jP]
theorem bEs(k:Nat)(hk:k<5):∀j (h:j<(jP k).length),dA (jP k)[j]=false:=by
 rcases (show k=0∨k=1∨k=2∨k=3∨k=4 by omega) with rfl|rfl|rfl|rfl|rfl<;>decide
theorem bEn(k:Nat)(hk:k<5):∀j (h:j<(jP k).length) (h':j<(dS k).length),(((binOp (jP k)[j]).1:Int)=(dS k)[j]) /\ (binOp (jP k)[j]).2=k+1:=by
 rcases (show k=0∨k=1∨k=2∨k=3∨k=4 by omega) with rfl|rfl|rfl|rfl|rfl<;>decide
theorem bEz(k:Nat)(hk:k<5)(s:ByteArray)(h:(binOp s).2=k+1):s∈jP k:=by
 by_cases ha:s=bytes [124,124]∨s=bytes [38,38]∨s=bytes [61,61]∨s=bytes [33,61]∨s=bytes [60]∨s=bytes [60,61]∨s=bytes [62]∨s=bytes [62,61]∨s=bytes [43]∨s=bytes [45]∨s=bytes [42]∨s=bytes [47]∨s=bytes [37]
 ·rcases (show k=0∨k=1∨k=2∨k=3∨k=4 by omega) with rfl|rfl|rfl|rfl|rfl<;>rcases ha with rfl|rfl|rfl|rfl|rfl|rfl|rfl|rfl|rfl|rfl|rfl|rfl|rfl<;>first|(exfalso;revert h;decide)|simp [jP,bytes]
 exfalso
 simp only [not_or] at ha
 obtain ⟨a1,a2,a3,a4,a5,a6,a7,a8,a9,b1,b2,b3,b4⟩:=ha
 rw [binOp,if_neg a1,if_neg a2,if_neg a3,if_neg a4,if_neg a5,if_neg a6,if_neg a7,if_neg a8,if_neg a9,if_neg b1,if_neg b2,if_neg b3,if_neg b4] at h
 simp at h
end
section
open Go.RowKit
theorem pZ(k:Nat):cO k=(if k/10=0 then [] else cO (k/10))++[UInt8.ofNat (48+k%10)]:=by
 conv=>lhs;rw [cO]
 by_cases h:k<10
 ·rw [if_pos h,if_pos (by omega),show k%10=k by omega];rfl
 rw [if_neg h,if_neg (by omega)]
theorem aGa(m:Nat):∀n,n<10 ^ m -> 0<m -> (cO n).length <= m:=by
 induction m with
 |zero=>intro n _ h;omega
 |succ m ih=>
  intro n hn _
  rw [pZ]
  by_cases h:n/10=0
  ·rw [if_pos h];simp
  rw [if_neg h,length_append]
  have h1:n/10<10 ^ m:=by rw [Nat.pow_succ] at hn;omega
  have hm:0<m:=by
   rcases Nat.eq_zero_or_pos m with rfl|h2
   ·simp at h1;omega
   exact h2
  have:=ih (n/10) h1 hm
  simp;omega
theorem kC(n:Nat)(hn:n<18446744073709551616):(cO n).length <= 20:=
 aGa 20 n (Nat.lt_trans hn (by decide)) (by omega)
theorem aB9(w:World)(c:UInt8):(convert 23 9 (.slice (some ⟨w.heap.size,0,none⟩) 1 1)).run prog (w.alloc (.cells #[.int .u8 c.toNat] 5))=.ok (.string (bytes [c])) (w.alloc (.cells #[.int .u8 c.toNat] 5)):=
 zN [c] (some ⟨w.heap.size,0,none⟩) 1 _ (.inr ⟨w.heap.size,0,rfl,fun j u hu=>by
  have:=sK w (cC [c]) 5 j u hu
  have e:(⟨w.heap.size,0,none⟩:Addr).add j=⟨w.heap.size,0+j,none⟩:=by unfold Addr.add;split<;>simp_all
  rw [e] at this;exact this⟩)
theorem bytes_append(a b:List UInt8):bytes a++bytes b=bytes (a++b):=sI (by simp [bytes])
theorem tJ(a:List UInt8):(bytes a).size=a.length:=by simp [bytes,ByteArray.size]
def dgR(n:Nat)(w:World)(u v:Value)(wr:World):Prop:=∃(k:Nat) (t:List UInt8),u=.int .u64 k /\ v=.string (bytes t) /\ cO n=(if k=0 then [] else cO k)++t /\ k <= n /\ Below w.heap.size w wr
theorem aG2(n:Nat)(w:World)(hn:n<18446744073709551616):
  Calls prog 117 #[.int .u64 n] w fun e w'=>e=.returned (.string (bytes (cO n))) /\ Below w.heap.size w w':=by
 have hst:=pZ n
 have hl20:=kC n hn
 obtain ⟨c,hcd⟩:∃c,c=UInt8.ofNat (48+n%10):=⟨_,rfl⟩
 have hc:(c.toNat:Int)=48+(n:Int)%10:=by rw [hcd,UInt8.toNat_ofNat'];omega
 rw [←hcd] at hst
 have hcv:=aB9 w c
 rw [hc] at hcv
 have hb0:(n:Int) <= 18446744073709551615:=by omega
 have HL:=Lib.hid hl20
 have HST:=Lib.hid hst
 clear hc hcd hst hl20 hn
 go_enter func117,Tryz.ntmps117
 go_wp2_with fail
 go_loopw [0,3] (fun u v wr=>dgR n w u v wr) (fun u _ _=>(intOf u).toNat)
 case atStart=>exact ⟨n/10,[c],by go_num,rfl,HST.out,by omega,by go_grown⟩
 case round=>
  obtain ⟨k,t,rfl,rfl,hd,hkn,hb⟩:=hrel
  have hsz:=hb.size
  have htl:t.length <= 20:=by
   have:=congrArg List.length hd
   rw [length_append] at this
   have:=HL.out;omega
  have HD:=Lib.hid hd
  clear hd hcv
  by_cases hk:0<k
  ·have g1:(0:Int)<k:=by omega
   obtain ⟨d,hdd⟩:∃d,d=UInt8.ofNat (48+k%10):=⟨_,rfl⟩
   have hdn:(d.toNat:Int)=48+(k:Int)%10:=by rw [hdd,UInt8.toNat_ofNat'];omega
   have hcv:=aB9 wr d
   rw [hdn] at hcv
   have hadd:∀W:World,(Op.stringOp .add (bytes [d]) (bytes t)).run prog W=.ok (.string (bytes (d::t))) W:=fun W=>by
    rw [run_string_add_sum (P:=prog) (w:=W) _ _ (by rw [tJ,tJ];simp;omega),bytes_append];rfl
   have HDD:=Lib.hid hdd
   have hkb:(k:Int) <= 18446744073709551615:=by omega
   clear hdn hdd
   go_wp2_with fail
   go_roundw
   case rel=>
    refine ⟨k/10,d::t,by go_num,rfl,?_,by omega,by go_grown⟩
    have h1:=HD.out
    rw [if_neg (by omega),pZ k,←HDD.out] at h1
    rw [h1];simp
   case measure=>simp [intOf];omega
  have g1:(k:Int) <= 0:=by omega
  have HK:=Lib.hid (show k=0 by omega)
  clear hk
  go_wp2_with fail
  go_ret
  refine ⟨?_,hb⟩
  have h1:=HD.out
  rw [if_pos HK.out] at h1
  rw [h1];rfl
end
section
open Go.RowKit
theorem aEq(z:Int)(n:Nat)(w:World)(hz:z=n)(hn:n<18446744073709551616):
  Calls prog 117 #[.int .u64 z] w fun e w'=>e=.returned (.string (bytes (cO n))) /\ Below w.heap.size w w':=by
 subst hz;exact aG2 n w hn
theorem aHb(n:Int)(w:World)(h1:-9223372036854775808 <= n)(h2:n <= 9223372036854775807):
  Calls prog 84 #[.int .i64 n] w fun e w'=>e=.returned (.string (bytes (eH n))) /\ Below w.heap.size w w':=by
 obtain ⟨m,hm⟩:∃m,m=n.natAbs:=⟨_,rfl⟩
 have hml:m<18446744073709551616:=by omega
 have hl:=kC m hml
 have hadd:∀W:World,(Op.stringOp .add ⟨#[45]⟩ (bytes (cO m))).run prog W=.ok (.string (bytes (45::cO m))) W:=fun W=>by
  rw [run_string_add_sum (P:=prog) (w:=W) _ _ (by rw [tJ,show (⟨#[45]⟩:ByteArray).size=1 from rfl];omega)]
  exact congrArg (fun x=>Result.ok (Value.string x) W) (bytes_append [45] (cO m))
 have HM:=Lib.hid hm
 have HML:=Lib.hid hml
 clear hm hl hml
 by_cases hn:n<0
 ·have hnl:eH n=45::cO m:=by unfold eH;rw [if_pos hn,HM.out]
  have HN:=Lib.hid hnl
  clear hnl
  go_enter func84,Tryz.ntmps84
  go_wp2_with (go_at_call 117;((with_reducible refine (aEq _ m _ (by have:=HM.out;omega) HML.out).mono ?_);rintro e w1 ⟨rfl,hb⟩))
  go_ret
  exact ⟨by rw [HN.out];rfl,hb⟩
 have hnl:eH n=cO m:=by unfold eH;rw [if_neg hn,HM.out]
 have HN:=Lib.hid hnl
 clear hnl
 go_enter func84,Tryz.ntmps84
 go_wp2_with (go_at_call 117;((with_reducible refine (aEq _ m _ (by have:=HM.out;omega) HML.out).mono ?_);rintro e w1 ⟨rfl,hb⟩))
 go_ret
 exact ⟨by rw [HN.out];rfl,hb⟩
theorem aJx{w:World}{v:Value}{n:Nat}{cells:List Value}(h:dD w v n cells)(o:Obj):dD (w.alloc o) v n cells:=h.below ((Below.refl w.heap.size w).alloc (Nat.le_refl _) o) (Nat.le_refl _)
theorem aJt(k:Nat)(w:World)(hk:k<5):
  Calls prog 156 #[.int .i64 k] w fun e w'=>(∃v u,e=.returned (.tuple #[v,u]) /\ dD w' v (jP k).length ((jP k).map .string) /\ dD w' u (dS k).length ((dS k).map (.int .i64))) /\ Below w.heap.size w w':=by
 have hcases:k=0∨k=1∨k=2∨k=3∨k=4:=by omega
 rcases hcases with rfl|rfl|rfl|rfl|rfl
 all_goals
  go_enter func156,Tryz.ntmps156
  go_wp2_with fail
  go_ret2
  exact ⟨⟨_,_,rfl,aJx (dD.new w _ 9 _) _,dD.new_at _ _ 3 _ _ (by simp)⟩,by go_grown⟩
theorem aE2(k:Nat)(hk:k<5)(op:Int)(h:op∈dS k):aM op=k:=by
 have hcases:k=0∨k=1∨k=2∨k=3∨k=4:=by omega
 rcases hcases with rfl|rfl|rfl|rfl|rfl<;>simp only [dS,mem_cons,not_mem_nil,or_false] at h
 ·subst h;rfl
 ·subst h;rfl
 ·rcases h with rfl|rfl|rfl|rfl|rfl|rfl<;>rfl
 ·rcases h with rfl|rfl<;>rfl
 rcases h with rfl|rfl|rfl<;>rfl
theorem aDh(op:Int)(h:∀k,k<5 -> op∉dS k):(op=3∨op=4 -> aM op=5) /\ (¬(op=3∨op=4) -> aM op=6):=by
 have h0:=h 0 (by omega)
 have h1:=h 1 (by omega)
 have h2:=h 2 (by omega)
 have h3:=h 3 (by omega)
 have h4:=h 4 (by omega)
 simp only [dS,mem_cons,not_mem_nil,or_false,not_or] at h0 h1 h2 h3 h4
 unfold aM
 rw [if_neg h0,if_neg h1,if_neg (by omega),if_neg (by omega),if_neg (by omega)]
 exact ⟨fun h=>if_pos h,fun h=>if_neg h⟩
def stR(op:Int)(w:World)(v:Value)(wr:World):Prop:=∃k:Nat,v=.int .i64 k /\ k <= 5 /\ (∀j,j<k -> op∉dS j) /\ Below w.heap.size w wr
def aYr(op:Int)(k:Nat)(v:Value):Prop:=∃i:Nat,v=.int .i64 i /\ i <= (dS k).length /\ op∉(dS k).take i
theorem aDw(op:Int)(w:World):
  Calls prog 154 #[.int .i64 op] w fun e w'=>e=.returned (.int .i64 (aM op)) /\ Below w.heap.size w w':=by
 go_enter func154,Tryz.ntmps154
 go_wp2_with fail
 go_loopw [3] (fun v wr=>stR op w v wr) (fun v _=>5-(intOf v).toNat)
 case atStart=>exact ⟨0,rfl,by omega,fun j h=>absurd h (by omega),Below.refl _ _⟩
 case round=>
  obtain ⟨k,rfl,hk,hno,hb⟩:=hrel
  have HNO:=Lib.hid hno
  clear hno
  have hsz:=hb.size
  by_cases hlt:k<5
  ·have g1:(k:Int)<5:=by omega
   go_wp2_with (go_at_call 156;((with_reducible refine (aJt k _ hlt).mono ?_);rintro e w1 ⟨⟨v,u,rfl,hv,hu⟩,hb1⟩;clear hv;obtain ⟨a,c,rfl,hc,hr⟩:=hu;have HR:=Lib.hid hr;clear hr))
   go_hide hQ
   go_loop [6] (fun v=>aYr op k v) (fun v=>(dS k).length-(intOf v).toNat)
   case atStart=>exact ⟨0,rfl,by omega,by simp⟩
   case round=>
    obtain ⟨i,rfl,hi,hni⟩:=hrel
    have HNI:=Lib.hid hni
    clear hni
    have hll:(dS k).length <= 6:=by
     have hcases:k=0∨k=1∨k=2∨k=3∨k=4:=by omega
     rcases hcases with rfl|rfl|rfl|rfl|rfl<;>decide
    by_cases hil:i<(dS k).length
    ·rcases HR.out with h0|⟨b,off,rfl,hr⟩
     ·exfalso;have:=congrArg List.length h0;simp at this;rw [this] at hil;simp at hil
     have hcell:=hr i (.int .i64 (dS k)[i]) (by simp [hil])
     clear hr
     by_cases he:(dS k)[i]=op
     ·have q:=aE2 k hlt op (he▸getElem_mem hil)
      have hq:((dS k)[i] == op)=true:=by rw [he];simp
      have Q:=Lib.hid q
      clear q he
      go_wp2_with fail
      subst hQ
      go_wp2_with fail
      go_ret
      exact ⟨gG (by rw [Q.out]),hb.trans (hb1.mono hsz)⟩
     have hq:((dS k)[i] == op)=false:=by simpa using he
     have HE:=Lib.hid he
     clear he
     go_wp2_with fail
     go_round
     case rel=>exact ⟨i+1,by go_num,by omega,by rw [List.take_succ_eq_append_getElem hil];simp only [mem_append,List.mem_singleton,not_or];exact ⟨HNI.out,fun h=>HE.out h.symm⟩⟩
     case measure=>simp [intOf];omega
    have hnot:op∉dS k:=by have h:=HNI.out;rw [take_of_length_le (by omega)] at h;exact h
    have hno2:∀j,j<k+1 -> op∉dS j:=by
     intro j hj
     rcases Nat.lt_or_ge j k with h|h
     ·exact HNO.out j h
     obtain rfl:j=k:=by omega
     exact hnot
    have HN2:=Lib.hid hno2
    clear hnot hno2
    go_wp2_with fail
    subst hQ
    go_wp2_with fail
    go_roundw
    case rel=>exact ⟨k+1,by go_num,by omega,HN2.out,hb.trans (hb1.mono hsz)⟩
    case measure=>simp [intOf];omega
  have hout:=aDh op (fun j hj=>HNO.out j (by omega))
  have HO:=Lib.hid hout
  clear hout
  by_cases h3:op=3∨op=4
  ·have hs:=HO.out.1 h3
   have HS:=Lib.hid hs
   clear hs
   rcases h3 with rfl|rfl
   all_goals
    go_wp2_with fail
    go_ret
    exact ⟨gG (by rw [HS.out];rfl),hb⟩
  have hs:=HO.out.2 h3
  have HS:=Lib.hid hs
  have q3:(op == 3)=false:=by rw [beq_eq_false_iff_ne];exact fun h=>h3 (.inl h)
  have q4:(op == 4)=false:=by rw [beq_eq_false_iff_ne];exact fun h=>h3 (.inr h)
  clear hs h3
  go_wp2_with fail
  go_ret
  exact ⟨gG (by rw [HS.out];rfl),hb⟩
end
section
open Go.RowKit
theorem aHq{P:Program}{F:FuncId}{ts:List AT}{us:List Value}{u:Value}(h1:u.oneCell'=true)(hts:ts=us.map fun u=>.c (.val u))(h:∀w,Calls P F us.toArray w fun e w'=>e=.returned u /\ Below w.heap.size w w')(s:Sto):aL P F ts [] s fun r s'=>r=.c (.val u) /\ s'=s:=by
 intro vs w hm _ hl hr
 subst hts
 obtain rfl:vs=us:=by
  refine List.ext_getElem (by simpa using hl) fun i h1 h2=>?_
  have h3:=hr i (by simpa using h2) h1
  simp only [List.getElem_map] at h3
  exact h3.val
 exact (h w).mono fun e w' ⟨h2,h3⟩=>by
  obtain ⟨hk,hm'⟩:=aBl hm h3
  exact ⟨_,_,s,h2,⟨rfl,rfl⟩,.c _ _ (.val _ h1),hm',hk,fun b hb=>.inl hb⟩
theorem aIx{P:Program}{U:List Nat}{o:Oper}{st:AS}{E yt:TypeId}{x y:Operand}{m k:Nat}(r:Nat)(ho:o.op=.binOp .rem E x y yt)(hx:evA st x=some (nI m))(hy:evA st y=some (nI k))(hk:k≠0)(hr:m%k=r):AY P U o st (nI r):=by
 subst hr
 exact aG3 ho hx hy (by omega) rfl
end
end Go.Proofs.YtlmpchoaebhhmaaGreatDoor
