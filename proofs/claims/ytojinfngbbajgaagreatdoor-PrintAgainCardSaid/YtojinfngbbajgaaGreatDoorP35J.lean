import Derived.Test.YtojinfngbbajgaaGreatDoorP5J
import Derived.Test.YtojinfngbbajgaaGreatDoorP34J
import Derived.Test.YtojinfngbbajgaaGreatDoorP28J
import Derived.Test.YtojinfngbbajgaaGreatDoorP8J
set_option linter.all false
set_option synthInstance.maxHeartbeats 1000000
set_option synthInstance.maxSize 1000000
set_option maxHeartbeats 3200000
set_option maxRecDepth 100000
namespace Go.Proofs.YtojinfngbbajgaaGreatDoor
open Go.Proofs.Tryz
open List (length_append length_cons length_nil mem_append mem_cons not_mem_nil append_assoc getElem_mem take_of_length_le)
section
open Go.RowKit
theorem aPs(A B:List Box)(rw:List bA)(P:Nat)(l:List Tok)(k X:Nat)(x0:cK)(vg vm vf:Value)(hok:TOk l)(hk:k<l.length):aL prog 31 [pP P,pP X] (aY vg++(aY vm++(aY vf++[X,P]))) (PSt (⟨X,30,[.val vg,.val vm,.val vf]⟩::A) B (⟨vg,86,2,(x0).globals.length,(x0).globals.flatMap dB⟩::⟨vm,70,3,(x0).mutexes.length,(x0).mutexes.flatMap bT⟩::⟨vf,58,3,(x0).funcs.length,(x0).funcs.flatMap fV⟩::rw) P l k 0 0) fun t s=>∃y vg' vm' vf' k' e',t=.tup [] /\ Run 0 k (gR l x0 k) y k' e' /\ k'<l.length /\ e'<16 /\ s=PSt (⟨X,30,[.val vg',.val vm',.val vf']⟩::A) B (⟨vg',86,2,(y).globals.length,(y).globals.flatMap dB⟩::⟨vm',70,3,(y).mutexes.length,(y).mutexes.flatMap bT⟩::⟨vf',58,3,(y).funcs.length,(y).funcs.flatMap fV⟩::rw) P l k' 0 e':=by
 have hlen:=hok.len
 have he:(0:Nat)<16:=by decide
 refine acB func31 rfl ?_
 show AWp prog _ ⟨102,aY vg++(aY vm++(aY vf++[X,P])),⟨⟨X,30,[.val vg,.val vm,.val vf]⟩::(A++⟨P,64,[.sl l.length (l.flatMap aW),nC k,nC 0,nC 0]⟩::B),⟨vg,86,2,(x0).globals.length,(x0).globals.flatMap dB⟩::⟨vm,70,3,(x0).mutexes.length,(x0).mutexes.flatMap bT⟩::⟨vf,58,3,(x0).funcs.length,(x0).funcs.flatMap fV⟩::rw⟩,[(0,pP P),(1,pP X)]⟩ _
 refine go 1 ?_
 refine dx [X,P] (tz [(0,true),(1,true),(2,true),(3,true),(4,true),(5,true),(6,true),(7,true)] 4 (go 9 ?_))
 refine tx 8 rfl (bH aW aW l bJ (fun _=>rfl) (k) rfl rfl rfl rfl hk (by decide) runUnderlying36 sizeOf66) (tz [(9,true),(10,true),(11,true)] 0 (go 4 ?_))
 refine ax (go 6 ?_)
 refine wcQ rfl call65 rfl (uG (_::A) _ _ _ l k 0 0 [118,97,114] hk) ?_
 rintro t1 s1 (⟨-,ha1,rfl,rfl⟩|⟨ha1,rfl,rfl⟩)
 ·refine go 10 ?_
  refine wyz rfl (iJ [] rfl rfl rfl runUnderlying26) ?_
  by_cases h6:16 <= x0.globals.length
  ·refine wcQ rfl call66 rfl (mT (_::A) _ _ _ l k 0 0 x0.globals.length 16 (by decide) h6) ?_
   rintro t3 s3 ⟨e3,hf3,rfl,rfl⟩
   obtain rfl:=hf3.1 rfl
   refine go 10 ?_
   refine wcp true rfl (by rfl) (go 5 ?_)
   exact ⟨.inr rfl,_,PSt (⟨X,30,[.val vg,.val vm,.val vf]⟩::A) B (⟨vg,86,2,(x0).globals.length,(x0).globals.flatMap dB⟩::⟨vm,70,3,(x0).mutexes.length,(x0).mutexes.flatMap bT⟩::⟨vf,58,3,(x0).funcs.length,(x0).funcs.flatMap fV⟩::rw) P l (k) 0 (3),cH rfl,aA (.refl _) (.refl _),⟨x0,vg,vm,vf,k,3,rfl,.err _ _ _ _ (by unfold gR;rw [if_pos ha1,if_pos h6]) (by decide),hk,(by decide),rfl⟩⟩
  refine wcQ rfl call66 rfl (oQ (_::A) _ _ _ l k 0 0 x0.globals.length 16 (by decide) (by omega)) ?_
  rintro t5 s5 ⟨rfl,rfl⟩
  refine go 10 ?_
  refine wcp false rfl (by rfl) (go 7 ?_)
  have ht:l[k].text=bytes [118,97,114]:=by rw [←bG hk];exact (kP ha1).2
  have hm:=bHd hok hk ha1
  refine go 4 ?_
  refine wad rfl (go 13 ?_)
  refine wyz rfl (aZ true rfl rfl rfl (by rw [ht];kernel_rfl)) (go 4 ?_)
  refine dx [] (tz [(0,true),(1,true),(2,true),(3,true),(5,true)] 7 (go 6 ?_))
  refine t2 4 6 rfl ?_ ?_
  ·refine way rfl (by decide) (aX [] rfl rfl rfl isAgg26 sizeOf26 rfl (fun _ h=>by cases h)) ?_
   refine ox 6 rfl rfl (bD [P] rfl rfl (by decide) call68 rfl (aBw (_::A) _ _ _ l (k+1) 0 0 hok hm (by decide)) (by intro b hb;simp at hb;subst hb;simp) (by intro b hb;simp at hb;subst hb;simp [Sto.bl]) (by intro h b hb;simp at hb;subst hb;exact lU (by simp [Sto.bl])) ?_)
   rintro t8 s8 ⟨x8,k8,e8,rfl,hr8,hk8,he8,rfl⟩
   refine ox 7 rfl rfl (bDk bHf rfl (.cons rfl .nil) (aV dB dB x8 rfl rfl rfl) ?_)
   refine ox 8 rfl rfl (bDm [] bDn rfl rfl (by decide) (by unfold maxLen;skip;omega) (by skip;omega) (@length_append _ x0.globals [x8]).symm (fun _ b hb=>lU (by simp [Sto.bl,hb])) (fun b hb=>by simp [hb]) (List.flatMap_append (f:=dB)).symm fun v9=>?_)
   refine tz [(9,true),(10,true),(11,false)] 0 (go 4 ?_)
   refine ax (go 1 ?_)
   exact ⟨.inl rfl,_,PSt (⟨X,30,[.val v9,.val vm,.val vf]⟩::A) B (⟨v9,86,2,({x0 with globals:=x0.globals++[x8]}).globals.length,({x0 with globals:=x0.globals++[x8]}).globals.flatMap dB⟩::⟨vm,70,3,({x0 with globals:=x0.globals++[x8]}).mutexes.length,({x0 with globals:=x0.globals++[x8]}).mutexes.flatMap bT⟩::⟨vf,58,3,({x0 with globals:=x0.globals++[x8]}).funcs.length,({x0 with globals:=x0.globals++[x8]}).funcs.flatMap fV⟩::rw) P l (k8) 0 (e8),cH rfl,aA (.refl _) (.refl _),⟨{x0 with globals:=x0.globals++[x8]},v9,vm,vf,k8,e8,rfl,(Run.from (hr8.map (f:=fun g=>{x0 with globals:=x0.globals++[g]}))).eq fun _=>by unfold gR;rw [if_pos ha1,if_neg h6],hk8,he8,rfl⟩⟩
  refine (bD [P] rfl rfl (by decide) call68 rfl (aBw (_::A) _ _ _ l (k+1) 0 0 hok hm (by decide)) (by intro b hb;simp at hb;subst hb;simp) (by intro b hb;simp at hb;subst hb;simp [Sto.bl]) (by intro h b hb;simp at hb;subst hb;exact lU (by simp [Sto.bl])) ?_)
  rintro t10 s10 ⟨x10,k10,e10,rfl,hr10,hk10,he10,rfl⟩
  refine t2 4 7 rfl ?_ ?_
  ·refine way rfl (by decide) (aX [] rfl rfl rfl isAgg26 sizeOf26 rfl (fun _ h=>by cases h)) ?_
   refine ox 7 rfl rfl (bDk bHf rfl (.cons rfl .nil) (aV dB dB x10 rfl rfl rfl) ?_)
   refine ox 8 rfl rfl (bDm [] bDn rfl rfl (by decide) (by unfold maxLen;skip;omega) (by skip;omega) (@length_append _ x0.globals [x10]).symm (fun _ b hb=>lU (by simp [Sto.bl,hb])) (fun b hb=>by simp [hb]) (List.flatMap_append (f:=dB)).symm fun v11=>?_)
   refine tz [(9,true),(10,true),(11,false)] 0 (go 4 ?_)
   refine ax (go 1 ?_)
   exact ⟨.inl rfl,_,PSt (⟨X,30,[.val v11,.val vm,.val vf]⟩::A) B (⟨v11,86,2,({x0 with globals:=x0.globals++[x10]}).globals.length,({x0 with globals:=x0.globals++[x10]}).globals.flatMap dB⟩::⟨vm,70,3,({x0 with globals:=x0.globals++[x10]}).mutexes.length,({x0 with globals:=x0.globals++[x10]}).mutexes.flatMap bT⟩::⟨vf,58,3,({x0 with globals:=x0.globals++[x10]}).funcs.length,({x0 with globals:=x0.globals++[x10]}).funcs.flatMap fV⟩::rw) P l (k10) 0 (e10),cH rfl,aA (.refl _) (.refl _),⟨{x0 with globals:=x0.globals++[x10]},v11,vm,vf,k10,e10,rfl,(Run.from (hr10.map (f:=fun g=>{x0 with globals:=x0.globals++[g]}))).eq fun _=>by unfold gR;rw [if_pos ha1,if_neg h6],hk10,he10,rfl⟩⟩
  refine (bDk bHf rfl (.cons rfl .nil) (aV dB dB x10 rfl rfl rfl) ?_)
  refine ox 4 rfl rfl (way rfl (by decide) (aX [] rfl rfl rfl isAgg26 sizeOf26 rfl (fun _ h=>by cases h)) ?_)
  refine ox 8 rfl rfl (bDm [] bDn rfl rfl (by decide) (by unfold maxLen;skip;omega) (by skip;omega) (@length_append _ x0.globals [x10]).symm (fun _ b hb=>lU (by simp [Sto.bl,hb])) (fun b hb=>by simp [hb]) (List.flatMap_append (f:=dB)).symm fun v12=>?_)
  refine tz [(9,true),(10,true),(11,false)] 0 (go 4 ?_)
  refine ax (go 1 ?_)
  exact ⟨.inl rfl,_,PSt (⟨X,30,[.val v12,.val vm,.val vf]⟩::A) B (⟨v12,86,2,({x0 with globals:=x0.globals++[x10]}).globals.length,({x0 with globals:=x0.globals++[x10]}).globals.flatMap dB⟩::⟨vm,70,3,({x0 with globals:=x0.globals++[x10]}).mutexes.length,({x0 with globals:=x0.globals++[x10]}).mutexes.flatMap bT⟩::⟨vf,58,3,({x0 with globals:=x0.globals++[x10]}).funcs.length,({x0 with globals:=x0.globals++[x10]}).funcs.flatMap fV⟩::rw) P l (k10) 0 (e10),cH rfl,aA (.refl _) (.refl _),⟨{x0 with globals:=x0.globals++[x10]},v12,vm,vf,k10,e10,rfl,(Run.from (hr10.map (f:=fun g=>{x0 with globals:=x0.globals++[g]}))).eq fun _=>by unfold gR;rw [if_pos ha1,if_neg h6],hk10,he10,rfl⟩⟩
 refine go 8 ?_
 refine wcQ rfl call65 rfl (uG (_::A) _ _ _ l k 0 0 [109,117,116,101,120] hk) ?_
 rintro t14 s14 (⟨-,ha14,rfl,rfl⟩|⟨ha14,rfl,rfl⟩)
 ·refine go 13 ?_
  refine wyz rfl (iJ [_] rfl rfl rfl runUnderlying27) ?_
  by_cases h6:12 <= x0.mutexes.length
  ·refine wcQ rfl call66 rfl (mT (_::A) _ _ _ l k 0 0 x0.mutexes.length 12 (by decide) h6) ?_
   rintro t17 s17 ⟨e17,hf17,rfl,rfl⟩
   obtain rfl:=hf17.1 rfl
   refine go 10 ?_
   refine wcp true rfl (by rfl) (go 5 ?_)
   exact ⟨.inr rfl,_,PSt (⟨X,30,[.val vg,.val vm,.val vf]⟩::A) B (⟨vg,86,2,(x0).globals.length,(x0).globals.flatMap dB⟩::⟨vm,70,3,(x0).mutexes.length,(x0).mutexes.flatMap bT⟩::⟨vf,58,3,(x0).funcs.length,(x0).funcs.flatMap fV⟩::rw) P l (k) 0 (3),cH rfl,aA (.refl _) (.refl _),⟨x0,vg,vm,vf,k,3,rfl,.err _ _ _ _ (by unfold gR;rw [if_neg (by rw [ha1 rfl];decide),if_pos ha14,if_pos h6]) (by decide),hk,(by decide),rfl⟩⟩
  refine wcQ rfl call66 rfl (oQ (_::A) _ _ _ l k 0 0 x0.mutexes.length 12 (by decide) (by omega)) ?_
  rintro t19 s19 ⟨rfl,rfl⟩
  refine go 10 ?_
  refine wcp false rfl (by rfl) (go 7 ?_)
  have ht:l[k].text=bytes [109,117,116,101,120]:=by rw [←bG hk];exact (kP ha14).2
  have hm:=bHd hok hk ha14
  refine go 4 ?_
  refine wad rfl (go 13 ?_)
  refine wyz rfl (aZ false rfl rfl rfl (by rw [ht];kernel_rfl)) (go 6 ?_)
  refine wyz rfl (aZ false rfl rfl rfl (by rw [ht];kernel_rfl)) (go 4 ?_)
  refine dx [] (tz [(0,true),(1,true),(2,true),(3,true),(5,true),(6,true)] 8 (go 7 ?_))
  refine tx 7 rfl (aZ false rfl rfl rfl (by rw [ht];kernel_rfl)) ?_
  refine t2 4 8 rfl ?_ ?_
  ·refine way rfl (by decide) (aX [] rfl rfl rfl isAgg27 sizeOf27 rfl (fun _ h=>by cases h)) ?_
   refine ox 8 rfl rfl (bD [P] rfl rfl (by decide) call70 rfl (vD (_::A) _ _ _ l (k+1) 0 0 hok hm (by decide)) (by intro b hb;simp at hb;subst hb;simp) (by intro b hb;simp at hb;subst hb;simp [Sto.bl]) (by intro h b hb;simp at hb;subst hb;exact lU (by simp [Sto.bl])) ?_)
   rintro t23 s23 ⟨x23,k23,e23,rfl,hr23,hk23,he23,rfl⟩
   refine ox 9 rfl rfl (bDk zb8 rfl (.cons rfl .nil) (aV bT bT x23 rfl rfl rfl) ?_)
   refine ox 10 rfl rfl (bDm [_] bWh rfl rfl (by decide) (by unfold maxLen;skip;omega) (by skip;omega) (@length_append _ x0.mutexes [x23]).symm (fun _ b hb=>lU (by simp [Sto.bl,hb])) (fun b hb=>by simp [hb]) (List.flatMap_append (f:=bT)).symm fun v24=>?_)
   refine tz [(11,true),(12,true),(13,false)] 0 (go 4 ?_)
   refine ax (go 1 ?_)
   exact ⟨.inl rfl,_,PSt (⟨X,30,[.val vg,.val v24,.val vf]⟩::A) B (⟨vg,86,2,({x0 with mutexes:=x0.mutexes++[x23]}).globals.length,({x0 with mutexes:=x0.mutexes++[x23]}).globals.flatMap dB⟩::⟨v24,70,3,({x0 with mutexes:=x0.mutexes++[x23]}).mutexes.length,({x0 with mutexes:=x0.mutexes++[x23]}).mutexes.flatMap bT⟩::⟨vf,58,3,({x0 with mutexes:=x0.mutexes++[x23]}).funcs.length,({x0 with mutexes:=x0.mutexes++[x23]}).funcs.flatMap fV⟩::rw) P l (k23) 0 (e23),cH rfl,aA (.refl _) (.refl _),⟨{x0 with mutexes:=x0.mutexes++[x23]},vg,v24,vf,k23,e23,rfl,(Run.from (hr23.map (f:=fun g=>{x0 with mutexes:=x0.mutexes++[g]}))).eq fun _=>by unfold gR;rw [if_neg (by rw [ha1 rfl];decide),if_pos ha14,if_neg h6],hk23,he23,rfl⟩⟩
  refine (bD [P] rfl rfl (by decide) call70 rfl (vD (_::A) _ _ _ l (k+1) 0 0 hok hm (by decide)) (by intro b hb;simp at hb;subst hb;simp) (by intro b hb;simp at hb;subst hb;simp [Sto.bl]) (by intro h b hb;simp at hb;subst hb;exact lU (by simp [Sto.bl])) ?_)
  rintro t25 s25 ⟨x25,k25,e25,rfl,hr25,hk25,he25,rfl⟩
  refine t2 4 9 rfl ?_ ?_
  ·refine way rfl (by decide) (aX [] rfl rfl rfl isAgg27 sizeOf27 rfl (fun _ h=>by cases h)) ?_
   refine ox 9 rfl rfl (bDk zb8 rfl (.cons rfl .nil) (aV bT bT x25 rfl rfl rfl) ?_)
   refine ox 10 rfl rfl (bDm [_] bWh rfl rfl (by decide) (by unfold maxLen;skip;omega) (by skip;omega) (@length_append _ x0.mutexes [x25]).symm (fun _ b hb=>lU (by simp [Sto.bl,hb])) (fun b hb=>by simp [hb]) (List.flatMap_append (f:=bT)).symm fun v26=>?_)
   refine tz [(11,true),(12,true),(13,false)] 0 (go 4 ?_)
   refine ax (go 1 ?_)
   exact ⟨.inl rfl,_,PSt (⟨X,30,[.val vg,.val v26,.val vf]⟩::A) B (⟨vg,86,2,({x0 with mutexes:=x0.mutexes++[x25]}).globals.length,({x0 with mutexes:=x0.mutexes++[x25]}).globals.flatMap dB⟩::⟨v26,70,3,({x0 with mutexes:=x0.mutexes++[x25]}).mutexes.length,({x0 with mutexes:=x0.mutexes++[x25]}).mutexes.flatMap bT⟩::⟨vf,58,3,({x0 with mutexes:=x0.mutexes++[x25]}).funcs.length,({x0 with mutexes:=x0.mutexes++[x25]}).funcs.flatMap fV⟩::rw) P l (k25) 0 (e25),cH rfl,aA (.refl _) (.refl _),⟨{x0 with mutexes:=x0.mutexes++[x25]},vg,v26,vf,k25,e25,rfl,(Run.from (hr25.map (f:=fun g=>{x0 with mutexes:=x0.mutexes++[g]}))).eq fun _=>by unfold gR;rw [if_neg (by rw [ha1 rfl];decide),if_pos ha14,if_neg h6],hk25,he25,rfl⟩⟩
  refine (bDk zb8 rfl (.cons rfl .nil) (aV bT bT x25 rfl rfl rfl) ?_)
  refine ox 4 rfl rfl (way rfl (by decide) (aX [] rfl rfl rfl isAgg27 sizeOf27 rfl (fun _ h=>by cases h)) ?_)
  refine ox 10 rfl rfl (bDm [_] bWh rfl rfl (by decide) (by unfold maxLen;skip;omega) (by skip;omega) (@length_append _ x0.mutexes [x25]).symm (fun _ b hb=>lU (by simp [Sto.bl,hb])) (fun b hb=>by simp [hb]) (List.flatMap_append (f:=bT)).symm fun v27=>?_)
  refine tz [(11,true),(12,true),(13,false)] 0 (go 4 ?_)
  refine ax (go 1 ?_)
  exact ⟨.inl rfl,_,PSt (⟨X,30,[.val vg,.val v27,.val vf]⟩::A) B (⟨vg,86,2,({x0 with mutexes:=x0.mutexes++[x25]}).globals.length,({x0 with mutexes:=x0.mutexes++[x25]}).globals.flatMap dB⟩::⟨v27,70,3,({x0 with mutexes:=x0.mutexes++[x25]}).mutexes.length,({x0 with mutexes:=x0.mutexes++[x25]}).mutexes.flatMap bT⟩::⟨vf,58,3,({x0 with mutexes:=x0.mutexes++[x25]}).funcs.length,({x0 with mutexes:=x0.mutexes++[x25]}).funcs.flatMap fV⟩::rw) P l (k25) 0 (e25),cH rfl,aA (.refl _) (.refl _),⟨{x0 with mutexes:=x0.mutexes++[x25]},vg,v27,vf,k25,e25,rfl,(Run.from (hr25.map (f:=fun g=>{x0 with mutexes:=x0.mutexes++[g]}))).eq fun _=>by unfold gR;rw [if_neg (by rw [ha1 rfl];decide),if_pos ha14,if_neg h6],hk25,he25,rfl⟩⟩
 refine go 6 ?_
 refine wcQ rfl call65 rfl (uG (_::A) _ _ _ l k 0 0 [114,109,117,116,101,120] hk) ?_
 rintro t29 s29 (⟨-,ha29,rfl,rfl⟩|⟨ha29,rfl,rfl⟩)
 ·refine go 10 ?_
  refine wyz rfl (iJ [_] rfl rfl rfl runUnderlying27) ?_
  by_cases h6:12 <= x0.mutexes.length
  ·refine wcQ rfl call66 rfl (mT (_::A) _ _ _ l k 0 0 x0.mutexes.length 12 (by decide) h6) ?_
   rintro t31 s31 ⟨e31,hf31,rfl,rfl⟩
   obtain rfl:=hf31.1 rfl
   refine go 10 ?_
   refine wcp true rfl (by rfl) (go 5 ?_)
   exact ⟨.inr rfl,_,PSt (⟨X,30,[.val vg,.val vm,.val vf]⟩::A) B (⟨vg,86,2,(x0).globals.length,(x0).globals.flatMap dB⟩::⟨vm,70,3,(x0).mutexes.length,(x0).mutexes.flatMap bT⟩::⟨vf,58,3,(x0).funcs.length,(x0).funcs.flatMap fV⟩::rw) P l (k) 0 (3),cH rfl,aA (.refl _) (.refl _),⟨x0,vg,vm,vf,k,3,rfl,.err _ _ _ _ (by unfold gR;rw [if_neg (by rw [ha1 rfl];decide),if_neg (by rw [ha14 rfl];decide),if_pos ha29,if_pos h6]) (by decide),hk,(by decide),rfl⟩⟩
  refine wcQ rfl call66 rfl (oQ (_::A) _ _ _ l k 0 0 x0.mutexes.length 12 (by decide) (by omega)) ?_
  rintro t33 s33 ⟨rfl,rfl⟩
  refine go 10 ?_
  refine wcp false rfl (by rfl) (go 7 ?_)
  have ht:l[k].text=bytes [114,109,117,116,101,120]:=by rw [←bG hk];exact (kP ha29).2
  have hm:=bHd hok hk ha29
  refine go 4 ?_
  refine wad rfl (go 13 ?_)
  refine wyz rfl (aZ false rfl rfl rfl (by rw [ht];kernel_rfl)) (go 6 ?_)
  refine wyz rfl (aZ false rfl rfl rfl (by rw [ht];kernel_rfl)) (go 4 ?_)
  refine dx [] (tz [(0,true),(1,true),(2,true),(3,true),(5,true),(6,true)] 8 (go 7 ?_))
  refine tx 7 rfl (aZ true rfl rfl rfl (by rw [ht];kernel_rfl)) ?_
  refine t2 4 8 rfl ?_ ?_
  ·refine way rfl (by decide) (aX [] rfl rfl rfl isAgg27 sizeOf27 rfl (fun _ h=>by cases h)) ?_
   refine ox 8 rfl rfl (bD [P] rfl rfl (by decide) call70 rfl (xD (_::A) _ _ _ l (k+1) 0 0 hok hm (by decide)) (by intro b hb;simp at hb;subst hb;simp) (by intro b hb;simp at hb;subst hb;simp [Sto.bl]) (by intro h b hb;simp at hb;subst hb;exact lU (by simp [Sto.bl])) ?_)
   rintro t37 s37 ⟨x37,k37,e37,rfl,hr37,hk37,he37,rfl⟩
   refine ox 9 rfl rfl (bDk zb8 rfl (.cons rfl .nil) (aV bT bT x37 rfl rfl rfl) ?_)
   refine ox 10 rfl rfl (bDm [_] bWh rfl rfl (by decide) (by unfold maxLen;skip;omega) (by skip;omega) (@length_append _ x0.mutexes [x37]).symm (fun _ b hb=>lU (by simp [Sto.bl,hb])) (fun b hb=>by simp [hb]) (List.flatMap_append (f:=bT)).symm fun v38=>?_)
   refine tz [(11,true),(12,true),(13,false)] 0 (go 4 ?_)
   refine ax (go 1 ?_)
   exact ⟨.inl rfl,_,PSt (⟨X,30,[.val vg,.val v38,.val vf]⟩::A) B (⟨vg,86,2,({x0 with mutexes:=x0.mutexes++[x37]}).globals.length,({x0 with mutexes:=x0.mutexes++[x37]}).globals.flatMap dB⟩::⟨v38,70,3,({x0 with mutexes:=x0.mutexes++[x37]}).mutexes.length,({x0 with mutexes:=x0.mutexes++[x37]}).mutexes.flatMap bT⟩::⟨vf,58,3,({x0 with mutexes:=x0.mutexes++[x37]}).funcs.length,({x0 with mutexes:=x0.mutexes++[x37]}).funcs.flatMap fV⟩::rw) P l (k37) 0 (e37),cH rfl,aA (.refl _) (.refl _),⟨{x0 with mutexes:=x0.mutexes++[x37]},vg,v38,vf,k37,e37,rfl,(Run.from (hr37.map (f:=fun g=>{x0 with mutexes:=x0.mutexes++[g]}))).eq fun _=>by unfold gR;rw [if_neg (by rw [ha1 rfl];decide),if_neg (by rw [ha14 rfl];decide),if_pos ha29,if_neg h6],hk37,he37,rfl⟩⟩
  refine (bD [P] rfl rfl (by decide) call70 rfl (xD (_::A) _ _ _ l (k+1) 0 0 hok hm (by decide)) (by intro b hb;simp at hb;subst hb;simp) (by intro b hb;simp at hb;subst hb;simp [Sto.bl]) (by intro h b hb;simp at hb;subst hb;exact lU (by simp [Sto.bl])) ?_)
  rintro t39 s39 ⟨x39,k39,e39,rfl,hr39,hk39,he39,rfl⟩
  refine t2 4 9 rfl ?_ ?_
  ·refine way rfl (by decide) (aX [] rfl rfl rfl isAgg27 sizeOf27 rfl (fun _ h=>by cases h)) ?_
   refine ox 9 rfl rfl (bDk zb8 rfl (.cons rfl .nil) (aV bT bT x39 rfl rfl rfl) ?_)
   refine ox 10 rfl rfl (bDm [_] bWh rfl rfl (by decide) (by unfold maxLen;skip;omega) (by skip;omega) (@length_append _ x0.mutexes [x39]).symm (fun _ b hb=>lU (by simp [Sto.bl,hb])) (fun b hb=>by simp [hb]) (List.flatMap_append (f:=bT)).symm fun v40=>?_)
   refine tz [(11,true),(12,true),(13,false)] 0 (go 4 ?_)
   refine ax (go 1 ?_)
   exact ⟨.inl rfl,_,PSt (⟨X,30,[.val vg,.val v40,.val vf]⟩::A) B (⟨vg,86,2,({x0 with mutexes:=x0.mutexes++[x39]}).globals.length,({x0 with mutexes:=x0.mutexes++[x39]}).globals.flatMap dB⟩::⟨v40,70,3,({x0 with mutexes:=x0.mutexes++[x39]}).mutexes.length,({x0 with mutexes:=x0.mutexes++[x39]}).mutexes.flatMap bT⟩::⟨vf,58,3,({x0 with mutexes:=x0.mutexes++[x39]}).funcs.length,({x0 with mutexes:=x0.mutexes++[x39]}).funcs.flatMap fV⟩::rw) P l (k39) 0 (e39),cH rfl,aA (.refl _) (.refl _),⟨{x0 with mutexes:=x0.mutexes++[x39]},vg,v40,vf,k39,e39,rfl,(Run.from (hr39.map (f:=fun g=>{x0 with mutexes:=x0.mutexes++[g]}))).eq fun _=>by unfold gR;rw [if_neg (by rw [ha1 rfl];decide),if_neg (by rw [ha14 rfl];decide),if_pos ha29,if_neg h6],hk39,he39,rfl⟩⟩
  refine (bDk zb8 rfl (.cons rfl .nil) (aV bT bT x39 rfl rfl rfl) ?_)
  refine ox 4 rfl rfl (way rfl (by decide) (aX [] rfl rfl rfl isAgg27 sizeOf27 rfl (fun _ h=>by cases h)) ?_)
  refine ox 10 rfl rfl (bDm [_] bWh rfl rfl (by decide) (by unfold maxLen;skip;omega) (by skip;omega) (@length_append _ x0.mutexes [x39]).symm (fun _ b hb=>lU (by simp [Sto.bl,hb])) (fun b hb=>by simp [hb]) (List.flatMap_append (f:=bT)).symm fun v41=>?_)
  refine tz [(11,true),(12,true),(13,false)] 0 (go 4 ?_)
  refine ax (go 1 ?_)
  exact ⟨.inl rfl,_,PSt (⟨X,30,[.val vg,.val v41,.val vf]⟩::A) B (⟨vg,86,2,({x0 with mutexes:=x0.mutexes++[x39]}).globals.length,({x0 with mutexes:=x0.mutexes++[x39]}).globals.flatMap dB⟩::⟨v41,70,3,({x0 with mutexes:=x0.mutexes++[x39]}).mutexes.length,({x0 with mutexes:=x0.mutexes++[x39]}).mutexes.flatMap bT⟩::⟨vf,58,3,({x0 with mutexes:=x0.mutexes++[x39]}).funcs.length,({x0 with mutexes:=x0.mutexes++[x39]}).funcs.flatMap fV⟩::rw) P l (k39) 0 (e39),cH rfl,aA (.refl _) (.refl _),⟨{x0 with mutexes:=x0.mutexes++[x39]},vg,v41,vf,k39,e39,rfl,(Run.from (hr39.map (f:=fun g=>{x0 with mutexes:=x0.mutexes++[g]}))).eq fun _=>by unfold gR;rw [if_neg (by rw [ha1 rfl];decide),if_neg (by rw [ha14 rfl];decide),if_pos ha29,if_neg h6],hk39,he39,rfl⟩⟩
 refine go 7 ?_
 refine wcQ rfl call65 rfl (uG (_::A) _ _ _ l k 0 0 [102,117,110,99] hk) ?_
 rintro t43 s43 (⟨-,ha43,rfl,rfl⟩|⟨ha43,rfl,rfl⟩)
 ·refine go 10 ?_
  refine wyz rfl (iJ [_,_] rfl rfl rfl runUnderlying28) ?_
  by_cases h6:16 <= x0.funcs.length
  ·refine wcQ rfl call66 rfl (mT (_::A) _ _ _ l k 0 0 x0.funcs.length 16 (by decide) h6) ?_
   rintro t45 s45 ⟨e45,hf45,rfl,rfl⟩
   obtain rfl:=hf45.1 rfl
   refine go 10 ?_
   refine wcp true rfl (by rfl) (go 5 ?_)
   exact ⟨.inr rfl,_,PSt (⟨X,30,[.val vg,.val vm,.val vf]⟩::A) B (⟨vg,86,2,(x0).globals.length,(x0).globals.flatMap dB⟩::⟨vm,70,3,(x0).mutexes.length,(x0).mutexes.flatMap bT⟩::⟨vf,58,3,(x0).funcs.length,(x0).funcs.flatMap fV⟩::rw) P l (k) 0 (3),cH rfl,aA (.refl _) (.refl _),⟨x0,vg,vm,vf,k,3,rfl,.err _ _ _ _ (by unfold gR;rw [if_neg (by rw [ha1 rfl];decide),if_neg (by rw [ha14 rfl];decide),if_neg (by rw [ha29 rfl];decide),if_pos ha43,if_pos h6]) (by decide),hk,(by decide),rfl⟩⟩
  refine wcQ rfl call66 rfl (oQ (_::A) _ _ _ l k 0 0 x0.funcs.length 16 (by decide) (by omega)) ?_
  rintro t47 s47 ⟨rfl,rfl⟩
  refine go 10 ?_
  refine wcp false rfl (by rfl) (go 7 ?_)
  have ht:l[k].text=bytes [102,117,110,99]:=by rw [←bG hk];exact (kP ha43).2
  have hm:=bHd hok hk ha43
  refine go 4 ?_
  refine wad rfl (go 13 ?_)
  refine wyz rfl (aZ false rfl rfl rfl (by rw [ht];kernel_rfl)) (go 6 ?_)
  refine wyz rfl (aZ true rfl rfl rfl (by rw [ht];kernel_rfl)) (go 4 ?_)
  refine dx [] (tz [(0,true),(1,true),(2,true),(3,true),(5,true)] 7 (go 6 ?_))
  refine t2 4 6 rfl ?_ ?_
  ·refine way rfl (by decide) (aX [] rfl rfl rfl isAgg28 sizeOf28 rfl (fun _ h=>by cases h)) ?_
   refine ox 6 rfl rfl (bD [P] rfl rfl (by decide) call69 rfl (aIu (_::A) _ _ _ l (k+1) 0 hok hm (by decide)) (by intro b hb;simp at hb;subst hb;simp) (by intro b hb;simp at hb;subst hb;simp [Sto.bl]) (by intro h b hb;simp at hb;subst hb;exact lU (by simp [Sto.bl])) ?_)
   rintro t51 s51 ⟨x51,k51,e51,rfl,hr51,hk51,he51,rfl⟩
   refine ox 7 rfl rfl (bDk zb7 rfl (.cons rfl .nil) (aV fV fV x51 rfl rfl rfl) ?_)
   refine ox 8 rfl rfl (bDm [_,_] bWk rfl rfl (by decide) (by unfold maxLen;skip;omega) (by skip;omega) (@length_append _ x0.funcs [x51]).symm (fun _ b hb=>lU (by simp [Sto.bl,hb])) (fun b hb=>by simp [hb]) (List.flatMap_append (f:=fV)).symm fun v52=>?_)
   refine tz [(9,true),(10,true),(11,false)] 0 (go 4 ?_)
   refine ax (go 1 ?_)
   exact ⟨.inl rfl,_,PSt (⟨X,30,[.val vg,.val vm,.val v52]⟩::A) B (⟨vg,86,2,({x0 with funcs:=x0.funcs++[x51]}).globals.length,({x0 with funcs:=x0.funcs++[x51]}).globals.flatMap dB⟩::⟨vm,70,3,({x0 with funcs:=x0.funcs++[x51]}).mutexes.length,({x0 with funcs:=x0.funcs++[x51]}).mutexes.flatMap bT⟩::⟨v52,58,3,({x0 with funcs:=x0.funcs++[x51]}).funcs.length,({x0 with funcs:=x0.funcs++[x51]}).funcs.flatMap fV⟩::rw) P l (k51) 0 (e51),cH rfl,aA (.refl _) (.refl _),⟨{x0 with funcs:=x0.funcs++[x51]},vg,vm,v52,k51,e51,rfl,(Run.from (hr51.map (f:=fun g=>{x0 with funcs:=x0.funcs++[g]}))).eq fun _=>by unfold gR;rw [if_neg (by rw [ha1 rfl];decide),if_neg (by rw [ha14 rfl];decide),if_neg (by rw [ha29 rfl];decide),if_pos ha43,if_neg h6],hk51,he51,rfl⟩⟩
  refine (bD [P] rfl rfl (by decide) call69 rfl (aIu (_::A) _ _ _ l (k+1) 0 hok hm (by decide)) (by intro b hb;simp at hb;subst hb;simp) (by intro b hb;simp at hb;subst hb;simp [Sto.bl]) (by intro h b hb;simp at hb;subst hb;exact lU (by simp [Sto.bl])) ?_)
  rintro t53 s53 ⟨x53,k53,e53,rfl,hr53,hk53,he53,rfl⟩
  refine t2 4 7 rfl ?_ ?_
  ·refine way rfl (by decide) (aX [] rfl rfl rfl isAgg28 sizeOf28 rfl (fun _ h=>by cases h)) ?_
   refine ox 7 rfl rfl (bDk zb7 rfl (.cons rfl .nil) (aV fV fV x53 rfl rfl rfl) ?_)
   refine ox 8 rfl rfl (bDm [_,_] bWk rfl rfl (by decide) (by unfold maxLen;skip;omega) (by skip;omega) (@length_append _ x0.funcs [x53]).symm (fun _ b hb=>lU (by simp [Sto.bl,hb])) (fun b hb=>by simp [hb]) (List.flatMap_append (f:=fV)).symm fun v54=>?_)
   refine tz [(9,true),(10,true),(11,false)] 0 (go 4 ?_)
   refine ax (go 1 ?_)
   exact ⟨.inl rfl,_,PSt (⟨X,30,[.val vg,.val vm,.val v54]⟩::A) B (⟨vg,86,2,({x0 with funcs:=x0.funcs++[x53]}).globals.length,({x0 with funcs:=x0.funcs++[x53]}).globals.flatMap dB⟩::⟨vm,70,3,({x0 with funcs:=x0.funcs++[x53]}).mutexes.length,({x0 with funcs:=x0.funcs++[x53]}).mutexes.flatMap bT⟩::⟨v54,58,3,({x0 with funcs:=x0.funcs++[x53]}).funcs.length,({x0 with funcs:=x0.funcs++[x53]}).funcs.flatMap fV⟩::rw) P l (k53) 0 (e53),cH rfl,aA (.refl _) (.refl _),⟨{x0 with funcs:=x0.funcs++[x53]},vg,vm,v54,k53,e53,rfl,(Run.from (hr53.map (f:=fun g=>{x0 with funcs:=x0.funcs++[g]}))).eq fun _=>by unfold gR;rw [if_neg (by rw [ha1 rfl];decide),if_neg (by rw [ha14 rfl];decide),if_neg (by rw [ha29 rfl];decide),if_pos ha43,if_neg h6],hk53,he53,rfl⟩⟩
  refine (bDk zb7 rfl (.cons rfl .nil) (aV fV fV x53 rfl rfl rfl) ?_)
  refine ox 4 rfl rfl (way rfl (by decide) (aX [] rfl rfl rfl isAgg28 sizeOf28 rfl (fun _ h=>by cases h)) ?_)
  refine ox 8 rfl rfl (bDm [_,_] bWk rfl rfl (by decide) (by unfold maxLen;skip;omega) (by skip;omega) (@length_append _ x0.funcs [x53]).symm (fun _ b hb=>lU (by simp [Sto.bl,hb])) (fun b hb=>by simp [hb]) (List.flatMap_append (f:=fV)).symm fun v55=>?_)
  refine tz [(9,true),(10,true),(11,false)] 0 (go 4 ?_)
  refine ax (go 1 ?_)
  exact ⟨.inl rfl,_,PSt (⟨X,30,[.val vg,.val vm,.val v55]⟩::A) B (⟨vg,86,2,({x0 with funcs:=x0.funcs++[x53]}).globals.length,({x0 with funcs:=x0.funcs++[x53]}).globals.flatMap dB⟩::⟨vm,70,3,({x0 with funcs:=x0.funcs++[x53]}).mutexes.length,({x0 with funcs:=x0.funcs++[x53]}).mutexes.flatMap bT⟩::⟨v55,58,3,({x0 with funcs:=x0.funcs++[x53]}).funcs.length,({x0 with funcs:=x0.funcs++[x53]}).funcs.flatMap fV⟩::rw) P l (k53) 0 (e53),cH rfl,aA (.refl _) (.refl _),⟨{x0 with funcs:=x0.funcs++[x53]},vg,vm,v55,k53,e53,rfl,(Run.from (hr53.map (f:=fun g=>{x0 with funcs:=x0.funcs++[g]}))).eq fun _=>by unfold gR;rw [if_neg (by rw [ha1 rfl];decide),if_neg (by rw [ha14 rfl];decide),if_neg (by rw [ha29 rfl];decide),if_pos ha43,if_neg h6],hk53,he53,rfl⟩⟩
 refine go 6 ?_
 refine wcQ rfl call67 rfl (lX (_::A) _ _ _ l k 0 0 4) ?_
 rintro t57 s57 ⟨e57,hf57,rfl,rfl⟩
 obtain rfl:=hf57.1 rfl
 refine go 10 ?_
 refine wcp true rfl (by rfl) (go 5 ?_)
 exact ⟨.inr rfl,_,PSt (⟨X,30,[.val vg,.val vm,.val vf]⟩::A) B (⟨vg,86,2,(x0).globals.length,(x0).globals.flatMap dB⟩::⟨vm,70,3,(x0).mutexes.length,(x0).mutexes.flatMap bT⟩::⟨vf,58,3,(x0).funcs.length,(x0).funcs.flatMap fV⟩::rw) P l (k) 0 (4),cH rfl,aA (.refl _) (.refl _),⟨x0,vg,vm,vf,k,4,rfl,.err _ _ _ _ (by unfold gR;rw [if_neg (by rw [ha1 rfl];decide),if_neg (by rw [ha14 rfl];decide),if_neg (by rw [ha29 rfl];decide),if_neg (by rw [ha43 rfl];decide)]) (by decide),hk,(by decide),rfl⟩⟩
end
section
open Go.RowKit
theorem tQ(bs:List UInt8)(m:Int)(s:Sto):aL prog 13 [aC0 bs m] [] s fun t s'=>t=.tup [.agg (jV (jM bs).1),.c (.val (.int .i64 ((jM bs).2.1:Int))),.c (.val (.int .i64 ((jM bs).2.2:Int)))] /\ s'=s:=by
 obtain ⟨bx,rw⟩:=s
 refine acB func13 rfl ?_
 show AWp prog _ ⟨63,[],⟨bx,rw⟩,[(0,aC0 bs m)]⟩ _
 refine go 10 fun b1=>?_
 refine wo rfl (aHw 0 [] rfl rfl (by decide) call30 rfl rfl (aP8 bs m _) bDl bDl (fun _=>bDl) ?_)
 rintro t1 s1 ⟨⟨l,hlx,rfl,hfew⟩|⟨p0,er,hlx,rfl,her⟩,rfl⟩
 ·have hok:=TOk.of hlx
  have hlen:=hok.len
  have hk:0<l.length:=hok.last.1
  have he:(0:Nat)<16:=by decide
  refine go 13 ?_
  refine wcp false rfl (by rfl) (go 20 fun P b3=>?_)
  refine qR 58 3 ?_
  refine qR 70 3 ?_
  refine qR 86 2 ?_
  refine fM (fun g:cK×Value×Value×Value×Nat×Nat=>(⟨63,aY g.2.1++(aY g.2.2.1++(aY g.2.2.2.1++[b3,P,b1])),⟨⟨b3,30,[.val g.2.1,.val g.2.2.1,.val g.2.2.2.1]⟩::⟨P,64,[.sl l.length (l.flatMap aW),.val (.int .i64 (((g.2.2.2.2.1):Nat):Int)),.val (.int .i64 (((0):Nat):Int)),.val (.int .i64 (((g.2.2.2.2.2):Nat):Int))]⟩::⟨b1,30,[.val (.slice none 0 0),.val (.slice none 0 0),.val (.slice none 0 0)]⟩::bx,⟨g.2.1,86,2,(g.1).globals.length,(g.1).globals.flatMap dB⟩::⟨g.2.2.1,70,3,(g.1).mutexes.length,(g.1).mutexes.flatMap bT⟩::⟨g.2.2.2.1,58,3,(g.1).funcs.length,(g.1).funcs.flatMap fV⟩::rw⟩,[(0,aC0 bs m),(9,pP b3),(8,pP P),(6,.c (.val (.int .i64 (bs.length:Int)))),(5,.c (.sl l.length (l.flatMap aW))),(2,pP b1)]⟩:AS)) (fun g=>g.2.2.2.2.1<l.length /\ g.2.2.2.2.2<16 /\ (g.2.2.2.2.2≠0 -> Run 0 0 (fH l) g.1 g.2.2.2.2.1 g.2.2.2.2.2) /\ (g.2.2.2.2.2=0 -> ∃n,l.length <= n+g.2.2.2.2.1 /\ ∀z k' e',Run 0 g.2.2.2.2.1 (lK l n g.1 g.2.2.2.2.1) z k' e' -> Run 0 0 (fH l) z k' e')) (fun g=>if g.2.2.2.2.2=0 then l.length-g.2.2.2.2.1+1 else 0) (⟨[],[],[]⟩,.slice none 0 0,.slice none 0 0,.slice none 0 0,0,0) (cA (.refl _) (.refl _) (by intro x hx;simpa [aY,Value.ownBlock] using hx) (sA rfl)) ⟨hk,he,fun h=>absurd rfl h,fun _=>⟨l.length,Nat.le_add_right _ _,fun z k' e' h2=>h2⟩⟩ ?_
  rintro ⟨x0,vg,vm,vf,k0,e0⟩ ⟨hk0,he0,hn0,hc0⟩
  dsimp only at hk0 he0 hn0 hc0
  show AWp prog _ (⟨63,aY vg++(aY vm++(aY vf++[b3,P,b1])),⟨⟨b3,30,[.val vg,.val vm,.val vf]⟩::⟨P,64,[.sl l.length (l.flatMap aW),.val (.int .i64 (((k0):Nat):Int)),.val (.int .i64 (((0):Nat):Int)),.val (.int .i64 (((e0):Nat):Int))]⟩::⟨b1,30,[.val (.slice none 0 0),.val (.slice none 0 0),.val (.slice none 0 0)]⟩::bx,⟨vg,86,2,(x0).globals.length,(x0).globals.flatMap dB⟩::⟨vm,70,3,(x0).mutexes.length,(x0).mutexes.flatMap bT⟩::⟨vf,58,3,(x0).funcs.length,(x0).funcs.flatMap fV⟩::rw⟩,[(0,aC0 bs m),(9,pP b3),(8,pP P),(6,.c (.val (.int .i64 (bs.length:Int)))),(5,.c (.sl l.length (l.flatMap aW))),(2,pP b1)]⟩:AS) _
  by_cases h0:e0=0
  ·subst h0
   obtain ⟨n0,hn1,hcont⟩:=hc0 rfl
   obtain ⟨q,rfl⟩:∃q,n0=q+1:=⟨n0-1,by omega⟩
   by_cases h5:l[k0].kind=5
   ·refine go 7 ?_
    refine wcp true rfl (by rfl) (go 6 ?_)
    refine wyz rfl (bH aW aW l bJ (fun _=>rfl) (k0) rfl rfl rfl rfl hk0 (by decide) runUnderlying36 sizeOf66) (go 2 ?_)
    refine wcp false rfl (by rw [h5];rfl) (go 12 ?_)
    have hfin:=hcont x0 k0 0 (by rw [lK,if_pos (by rw [bG hk0];exact h5)];exact .ok _ _ _ rfl)
    have hgood:fH l=.ok x0 k0:=(hfin.good rfl).2
    refine go 4 ?_
    refine wcp false rfl (by rfl) (go 7 ?_)
    refine aAg [] 0 rfl rfl ?_
    refine aAg [] 1 rfl rfl ?_
    refine aAg [] 2 rfl rfl ?_
    refine eA 0 rfl aLu (go 9 ?_)
    exact ⟨.inr rfl,_,⟨bx,rw⟩,(pC rfl (aO [_,_] rfl rfl isAgg30 sizeOf30 (bK rfl rfl)) (aF rfl) (aF rfl)),aA (.cons _ (.cons _ (.cons _ (.refl _)))) (.refl _),by rw [pT hlx hgood];rfl,rfl⟩
   refine go 7 ?_
   refine wcp true rfl (by rfl) (go 6 ?_)
   refine wyz rfl (bH aW aW l bJ (fun _=>rfl) (k0) rfl rfl rfl rfl hk0 (by decide) runUnderlying36 sizeOf66) (go 2 ?_)
   refine wcp true rfl (by simp [bC];omega) (go 9 ?_)
   refine wo rfl (aQk (aY vg++(aY vm++(aY vf++[b3,P]))) rfl rfl (by decide) call31 rfl (aPs [] (⟨b1,30,[.val (.slice none 0 0),.val (.slice none 0 0),.val (.slice none 0 0)]⟩::bx) rw P l k0 b3 x0 vg vm vf hok hk0) (by intro b hb;simp at hb⊢;rcases hb with h|h|h|h|h<;>simp [h]) (by intro b hb;simp at hb;simp [Sto.bl];rcases hb with h|h|h|h|h<;>simp [h]) (by intro _ b hb;simp at hb⊢;rcases hb with h|h|h|h|h<;>simp [h]) ?_)
   rintro t4 s4 ⟨y,vg',vm',vf',k1,e1,rfl,hr,hk1,he1,rfl⟩
   refine ⟨aY vg'++(aY vm'++aY vf'),fun hnd b hb=>⟨?_,fun hb2=>?_⟩,?_⟩
   ·simp at hb;simp [Sto.bl];rcases hb with h|h|h<;>simp [h]
   ·have h9:=aJ2 (bx:=⟨b3,30,[.val vg,.val vm,.val vf]⟩::⟨P,64,[.sl l.length (l.flatMap aW),.val (.int .i64 (((k0):Nat):Int)),.val (.int .i64 (((0):Nat):Int)),.val (.int .i64 (((0):Nat):Int))]⟩::⟨b1,30,[.val (.slice none 0 0),.val (.slice none 0 0),.val (.slice none 0 0)]⟩::bx) (rs:=[⟨vg,86,2,x0.globals.length,x0.globals.flatMap dB⟩,⟨vm,70,3,x0.mutexes.length,x0.mutexes.flatMap bT⟩,⟨vf,58,3,x0.funcs.length,x0.funcs.flatMap fV⟩]) (rs':=[⟨vg',86,2,y.globals.length,y.globals.flatMap dB⟩,⟨vm',70,3,y.mutexes.length,y.mutexes.flatMap bT⟩,⟨vf',58,3,y.funcs.length,y.funcs.flatMap fV⟩]) (rw:=rw) (b:=b) (by simp) hnd (by simp at hb⊢;exact hb) hb2
    simp at h9⊢;rcases h9 with h|h|h<;>simp [h]
   show eQ _ _ _ ⟨_,_,⟨⟨b3,30,[.val vg',.val vm',.val vf']⟩::⟨P,64,[.sl l.length (l.flatMap aW),.val (.int .i64 (((k1):Nat):Int)),.val (.int .i64 (((0):Nat):Int)),.val (.int .i64 (((e1):Nat):Int))]⟩::⟨b1,30,[.val (.slice none 0 0),.val (.slice none 0 0),.val (.slice none 0 0)]⟩::bx,⟨vg',86,2,(y).globals.length,(y).globals.flatMap dB⟩::⟨vm',70,3,(y).mutexes.length,(y).mutexes.flatMap bT⟩::⟨vf',58,3,(y).funcs.length,(y).funcs.flatMap fV⟩::rw⟩,_⟩ _
   refine go 2 ?_
   have hk5:¬(bU l k0).kind=5:=by rw [bG hk0];exact h5
   have hst:∀z k' e',Run e1 k1 (lK l q y k1) z k' e' -> Run 0 0 (fH l) z k' e':=fun z k' e' h=>hcont z k' e' (by rw [lK,if_neg hk5];exact hr.bind h)
   have hgo:e1=0 -> k0<k1:=fun h=>by have h9:=aAj hok.last (x:=x0) hk0;rw [(hr.good h).2] at h9;exact h9.1
   refine ⟨(y,vg',vm',vf',k1,e1),⟨hk1,he1,fun h=>hst _ _ _ (.skip h _ _),fun h=>⟨q,?_,fun z k' e' h2=>hst _ _ _ ?_⟩⟩,?_,cA (.refl _) (.refl _) (by grind) (sA rfl)⟩
   ·have:=hgo h;show l.length <= q+k1;omega
   ·rw [show e1=0 from h];exact h2
   show (if e1=0 then _ else _)<(if (0:Nat)=0 then _ else _)
   by_cases h:e1=0
   ·have:=hgo h;rw [if_pos h,if_pos rfl];show l.length-k1+1<l.length-k0+1;omega
   rw [if_neg h,if_pos rfl];show 0<l.length-k0+1;omega
  refine go 7 ?_
  refine wcp false rfl (lA h0) (go 22 ?_)
  have herr:fH l=.err k0 e0:=by
   rcases hn0 h0 with ⟨h,_⟩|⟨_,⟨_,h⟩|⟨h,_⟩⟩
   ·exact absurd rfl h
   ·exact absurd h h0
   exact h
  refine go 4 ?_
  refine wcp true rfl (by simp [bC,h0]) (go 4 ?_)
  refine dx [b3,P] (tz [(0,true),(1,true),(2,true),(3,true),(4,true),(5,true)] 10 (go 7 ?_))
  refine tx 6 rfl (bH aW aW l bJ (fun _=>rfl) (k0) rfl rfl rfl rfl hk0 (by decide) runUnderlying36 sizeOf66) (tz [(7,true),(8,true),(9,true),(10,true),(11,true),(12,true),(13,false),(14,true),(15,true)] 0 (go 10 ?_))
  refine ax (go 3 ?_)
  exact ⟨.inr rfl,_,⟨bx,rw⟩,(pC rfl (aCn (Wk.agg (.n (.n (.n .nil)))) (aO [_,_] rfl rfl isAgg30 sizeOf30 (bK rfl rfl))) (aF rfl) (aF rfl)),aA (.cons _ (.cons _ (.cons _ (.refl _)))) (.cons _ (.cons _ (.cons _ (.refl _)))),by rw [aBe hlx herr hk0];rfl,rfl⟩
 refine go 13 ?_
 refine wcp true rfl (by simp [bC,her]) (go 15 ?_)
 exact ⟨.inr rfl,_,⟨bx,rw⟩,(pC rfl (aCn (Wk.agg (.n (.n (.n .nil)))) (aO [] rfl rfl isAgg30 sizeOf30 (bK rfl rfl))) (aF rfl) (aF rfl)),aA (.cons _ (.refl _)) (.refl _),by rw [aA9 hlx];rfl,rfl⟩
end
end Go.Proofs.YtojinfngbbajgaaGreatDoor
