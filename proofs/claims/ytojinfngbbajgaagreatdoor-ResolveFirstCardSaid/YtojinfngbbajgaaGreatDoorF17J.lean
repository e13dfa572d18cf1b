import Derived.Test.YtojinfngbbajgaaGreatDoorF5J
import Derived.Test.YtojinfngbbajgaaGreatDoorF16J
import Derived.Test.YtojinfngbbajgaaGreatDoorF9J
import Derived.Test.YtojinfngbbajgaaGreatDoorF12J
import Derived.Test.YtojinfngbbajgaaGreatDoorF7J
set_option linter.all false
set_option synthInstance.maxHeartbeats 1000000
set_option synthInstance.maxSize 1000000
set_option maxHeartbeats 1600000
set_option maxRecDepth 100000
namespace Go.Proofs.YtojinfngbbajgaaGreatDoor
open Go.Proofs.Tryz
open List (length_append length_cons length_nil mem_append mem_cons not_mem_nil append_assoc getElem_mem take_of_length_le)
section
open Go.RowKit
theorem cAn{fs:Fns}{l:List aJ}{own:List ByteArray}{st x:RS}{k:Nat}(hk:k<l.length)(h:bZr fs (l.drop k) own st=bZr fs l [] x):
  ((bZ4 fs l[k] st).1≠0 -> bZ2 fs l x=bZ4 fs l[k] st) /\ ((bZ4 fs l[k] st).1=0 -> bZr fs (l.drop (k+1)) (cCp l[k] own) (bZ4 fs l[k] st).2=bZr fs l [] x):=by
 rw [List.drop_eq_getElem_cons hk,bZr] at h
 refine ⟨fun h0=>?_,fun h0=>?_⟩
 ·rw [if_neg h0] at h
  unfold bZ2;rw [←h];unfold cA7;rw [if_neg h0]
 rw [if_pos h0] at h;exact h
theorem cDn{fs:Fns}{l:List aJ}{own:List ByteArray}{st x:RS}{k:Nat}(hk:k=l.length)(h:bZr fs (l.drop k) own st=bZr fs l [] x):bZ2 fs l x=(0,⟨own.foldl bZy st.vis,st.n,st.at_⟩):=by
 rw [List.drop_eq_nil_of_le (by omega),bZr] at h
 unfold bZ2;rw [←h];rfl
theorem cDy(l:List aJ)(k:Nat)(h:k<l.length):wtS (l.drop k)=l[k].wt+wtS (l.drop (k+1)):=by rw [List.drop_eq_getElem_cons h,wtS]
theorem cD7(own:List ByteArray)(v:Vis)(j:Nat)(h:j<own.length):bZy ((own.take j).foldl bZy v) own[j]=(own.take (j+1)).foldl bZy v:=by
 rw [List.take_succ_eq_append_getElem h,List.foldl_append];rfl
theorem cBl(l:List aJ)(ih1:∀k (h:k<l.length) (A B:List Box) (C gv gf:Nat) (p:cK) (fs:Fns) (R rw:List bA) (hgf:hM gf 3 fV fs∈R) (z:Int) (x:RS) (hz:z=((x.n:Nat):Int)) (hfo:bZt x.vis fs) (hn:x.n+wtS l[k].thn <= 900000000),aL prog 81 [pP C,.c (.sl l[k].thn.length (l[k].thn.flatMap encS))] [C,gv] ⟨A++⟨C,94,[.sl p.globals.length (p.globals.flatMap dB),.sl p.mutexes.length (p.mutexes.flatMap bT),.sl p.funcs.length (p.funcs.flatMap fV),.val (.map (some gv)),.val (.map (some gf)),.val (.int .i64 z),.val (.int .i64 x.at_)]⟩::B,R++hM gv 0 evI x.vis::rw⟩ fun t s'=>∃(e:Nat) (y:RS),bZ2 fs l[k].thn x=(e,y) /\ t=nI e /\ s'=⟨A++⟨C,94,[.sl p.globals.length (p.globals.flatMap dB),.sl p.mutexes.length (p.mutexes.flatMap bT),.sl p.funcs.length (p.funcs.flatMap fV),.val (.map (some gv)),.val (.map (some gf)),nC y.n,.val (.int .i64 y.at_)]⟩::B,R++hM gv 0 evI y.vis::rw⟩)(ih2:∀k (h:k<l.length) (A B:List Box) (C gv gf:Nat) (p:cK) (fs:Fns) (R rw:List bA) (hgf:hM gf 3 fV fs∈R) (z:Int) (x:RS) (hz:z=((x.n:Nat):Int)) (hfo:bZt x.vis fs) (hn:x.n+wtS l[k].els <= 900000000),aL prog 81 [pP C,.c (.sl l[k].els.length (l[k].els.flatMap encS))] [C,gv] ⟨A++⟨C,94,[.sl p.globals.length (p.globals.flatMap dB),.sl p.mutexes.length (p.mutexes.flatMap bT),.sl p.funcs.length (p.funcs.flatMap fV),.val (.map (some gv)),.val (.map (some gf)),.val (.int .i64 z),.val (.int .i64 x.at_)]⟩::B,R++hM gv 0 evI x.vis::rw⟩ fun t s'=>∃(e:Nat) (y:RS),bZ2 fs l[k].els x=(e,y) /\ t=nI e /\ s'=⟨A++⟨C,94,[.sl p.globals.length (p.globals.flatMap dB),.sl p.mutexes.length (p.mutexes.flatMap bT),.sl p.funcs.length (p.funcs.flatMap fV),.val (.map (some gv)),.val (.map (some gf)),nC y.n,.val (.int .i64 y.at_)]⟩::B,R++hM gv 0 evI y.vis::rw⟩)(A B:List Box)(C gv gf:Nat)(p:cK)(fs:Fns)(R rw:List bA)(hgf:hM gf 3 fV fs∈R)(z:Int)(x:RS)(hz:z=((x.n:Nat):Int))(hfo:bZt x.vis fs)(hn:x.n+wtS l <= 900000000):aL prog 81 [pP C,.c (.sl l.length (l.flatMap encS))] [C,gv] ⟨A++⟨C,94,[.sl p.globals.length (p.globals.flatMap dB),.sl p.mutexes.length (p.mutexes.flatMap bT),.sl p.funcs.length (p.funcs.flatMap fV),.val (.map (some gv)),.val (.map (some gf)),.val (.int .i64 z),.val (.int .i64 x.at_)]⟩::B,R++hM gv 0 evI x.vis::rw⟩ fun t s'=>∃(e:Nat) (y:RS),bZ2 fs l x=(e,y) /\ t=nI e /\ s'=⟨A++⟨C,94,[.sl p.globals.length (p.globals.flatMap dB),.sl p.mutexes.length (p.mutexes.flatMap bT),.sl p.funcs.length (p.funcs.flatMap fV),.val (.map (some gv)),.val (.map (some gf)),nC y.n,.val (.int .i64 y.at_)]⟩::B,R++hM gv 0 evI y.vis::rw⟩:=by
 subst hz
 obtain ⟨x0,rfl⟩:∃y,y=x:=⟨_,rfl⟩
 have hln:=uZ l
 refine acB func81 rfl ?_
 show AWp prog _ ⟨80,[C,gv],⟨A++⟨C,94,[.sl p.globals.length (p.globals.flatMap dB),.sl p.mutexes.length (p.mutexes.flatMap bT),.sl p.funcs.length (p.funcs.flatMap fV),.val (.map (some gv)),.val (.map (some gf)),nC x0.n,.val (.int .i64 x0.at_)]⟩::B,R++hM gv 0 evI x0.vis::rw⟩,[(0,pP C),(1,.c (.sl l.length (l.flatMap encS)))]⟩ _
 refine go 19 ?_
 refine qR 9 1 ?_
 refine fM (fun g:Nat×Value×List ByteArray×RS=>(⟨80,aY g.2.1++[C,gv],⟨A++⟨C,94,[.sl p.globals.length (p.globals.flatMap dB),.sl p.mutexes.length (p.mutexes.flatMap bT),.sl p.funcs.length (p.funcs.flatMap fV),.val (.map (some gv)),.val (.map (some gf)),nC g.2.2.2.n,.val (.int .i64 g.2.2.2.at_)]⟩::B,⟨g.2.1,9,1,g.2.2.1.length,bP g.2.2.1⟩::R++hM gv 0 evI g.2.2.2.vis::rw⟩,[(15,nI g.1),(5,.c (.val g.2.1)),(0,pP C),(4,.c (.val (.int .i64 0))),(13,.c (.sl l.length (l.flatMap encS))),(14,nI l.length)]⟩:AS)) (fun g=>g.1 <= l.length /\ bZr fs (l.drop g.1) g.2.2.1 g.2.2.2=bZr fs l [] x0 /\ bZt g.2.2.2.vis fs /\ g.2.2.2.n+wtS (l.drop g.1) <= 900000000 /\ g.2.2.1.length <= g.1) (fun g=>l.length-g.1) (0,.slice none 0 0,[],x0) (cA (.refl _) (.refl _) (by intro b hb;simpa [aY,Value.ownBlock] using hb) (sA rfl)) ⟨Nat.zero_le _,rfl,hfo,hn,Nat.le_refl _⟩ ?_
 rintro ⟨k,v,own,⟨vis,n,at_⟩⟩ ⟨hk,hst,hfk,hnk,hol⟩
 dsimp only at hk hst hfk hnk hol
 show AWp prog _ ⟨80,aY v++[C,gv],⟨A++⟨C,94,[.sl p.globals.length (p.globals.flatMap dB),.sl p.mutexes.length (p.mutexes.flatMap bT),.sl p.funcs.length (p.funcs.flatMap fV),.val (.map (some gv)),.val (.map (some gf)),nC n,.val (.int .i64 at_)]⟩::B,⟨v,9,1,own.length,bP own⟩::R++hM gv 0 evI vis::rw⟩,[(15,nI k),(5,.c (.val v)),(0,pP C),(4,.c (.val (.int .i64 0))),(13,.c (.sl l.length (l.flatMap encS))),(14,nI l.length)]⟩ _
 refine go 2 ?_
 by_cases h1:((k:Nat):Int)<((l.length:Nat):Int)
 ·refine wcp true rfl (jZ h1) (go 10 ?_)
  refine wyz rfl (bH encS dG l mE cJ k rfl rfl rfl rfl (by omega) (by decide) runUnderlying56 sizeOf78) (go 23 fun b1=>?_)
  refine wad rfl (go 10 ?_)
  have hwk:=uF l k (by omega)
  have hwd:=cDy l k (by omega)
  have hwq:=gD l[k]
  obtain ⟨e0,hpa⟩:∃e,bZ5 vis fs l[k]=e:=⟨_,rfl⟩
  refine wc0 rfl call119 rfl (cDp (_::A) B C gv gf p vis fs _ _ (_::R) rw (by simp [hgf]) l[k] (by omega) hfk) ?_
  rintro _ _ ⟨rfl,rfl⟩
  rw [hpa]
  refine go 6 ?_
  by_cases h3:((e0:Nat):Int)=0
  ·refine wcp false rfl (xG h3) (go 10 ?_)
   by_cases h5:l[k].kind=1
   ·refine wcp true rfl (eR h5) (go 4 ?_)
    refine dx [b1,C] (tz [(0,true),(1,true),(2,true),(3,true),(4,true),(5,true)] 1 (go 7 ?_))
    refine ox 6 rfl rfl (cAt vis (_::R) rfl rfl rfl rfl rfl underlying91 underlying9 (by simp) (fun hn=>cDv (by simp) hn) ?_)
    refine ax (go 5 ?_)
    refine wo rfl (bDk bT4 rfl (.cons rfl .nil) (r:=bP [l[k].name]) rfl ?_)
    refine wo rfl (bDm [] bWi rfl rfl (by decide) (by unfold maxLen;omega) (by omega) (@length_append _ own [l[k].name]).symm (fun _ b hb=>by simp [hb]) (fun b hb=>by simp [hb]) (r:=bP (own++[l[k].name])) (by simp [bP]) fun w2=>?_)
    refine go 9 ?_
    obtain rfl:e0=0:=by omega
    have hbg:cAy l[k] ⟨vis,n,at_⟩=⟨(bZq vis l[k].name 1),n+1,n⟩:=by unfold cAy;dsimp only;rw [if_pos h5]
    have hf0:bZt (bZq vis l[k].name 1) fs:=hfk.put _ (by decide)
    refine wo rfl (bD [C,gv] rfl rfl (by decide) call81 rfl (ih1 k (by omega) (_::A) B C gv gf p fs (_::R) rw (by simp [hgf]) _ ⟨(bZq vis l[k].name 1),n+1,n⟩ (by first|rfl|(show _=((n+1:Nat):Int);omega)) hf0 (by show n+1+wtS l[k].thn <= 900000000;omega)) (by intro b hb;simp at hb⊢;rcases hb with rfl|rfl<;>simp) (by intro b hb;simp at hb;rcases hb with rfl|rfl<;>simp [Sto.bl,bZw]) (by intro _ b hb;simp at hb⊢;rcases hb with rfl|rfl<;>simp) ?_)
    rintro _ _ ⟨e1,⟨vis1,n1,at1⟩,hy1,rfl,rfl⟩
    have hb1:=cBf fs l[k].thn ⟨(bZq vis l[k].name 1),n+1,n⟩
    rw [hy1] at hb1
    have hf1:=cAs (l:=l[k].thn) (x:=⟨(bZq vis l[k].name 1),n+1,n⟩) hf0
    rw [hy1] at hf1
    dsimp only at hb1 hf1
    refine go 6 ?_
    by_cases h7:((e1:Nat):Int)=0
    ·refine wcp false rfl (xG h7) (go 10 ?_)
     refine wo rfl (bD [C,gv] rfl rfl (by decide) call81 rfl (ih2 k (by omega) (_::A) B C gv gf p fs (_::R) rw (by simp [hgf]) _ ⟨vis1,n1,at1⟩ (by first|rfl|(show _=((n1:Nat):Int);omega)) hf1 (by show n1+wtS l[k].els <= 900000000;omega)) (by intro b hb;simp at hb⊢;rcases hb with rfl|rfl<;>simp) (by intro b hb;simp at hb;rcases hb with rfl|rfl<;>simp [Sto.bl,bZw]) (by intro _ b hb;simp at hb⊢;rcases hb with rfl|rfl<;>simp) ?_)
     rintro _ _ ⟨e2,⟨vis2,n2,at2⟩,hy2,rfl,rfl⟩
     have hb2:=cBf fs l[k].els ⟨vis1,n1,at1⟩
     rw [hy2] at hb2
     have hf2:=cAs (l:=l[k].els) (x:=⟨vis1,n1,at1⟩) hf1
     rw [hy2] at hf2
     dsimp only at hb2 hf2
     refine go 6 ?_
     by_cases h9:((e2:Nat):Int)=0
     ·refine wcp false rfl (xG h9) (go 7 ?_)
      refine wad rfl (go 2 ?_)
      have hs9:bZ4 fs l[k] ⟨vis,n,at_⟩=(0,⟨vis2,n2,at2⟩):=by rw [bZ9,if_pos hpa,hbg,hy1];show (if e1=0 then _ else _)=_;rw [if_pos (by omega)];rw [hy2];rw [show e2=0 by omega]
      have hnx:=(cAn (by omega) hst).2 (by rw [hs9])
      rw [hs9] at hnx
      rw [show cCp l[k] own=(own++[l[k].name]) from if_pos h5] at hnx
      exact ⟨(k+1,w2,(own++[l[k].name]),⟨vis2,n2,at2⟩),⟨by show k+1 <= l.length;omega,hnx,hf2,by show n2+wtS (l.drop (k+1)) <= 900000000;omega,by show (own++[l[k].name]).length <= k+1;rw [length_append];simp only [List.length_singleton];omega⟩,by show l.length-(k+1)<l.length-k;omega,cA (.cons _ (.refl _)) (.refl _) (by intro x hx;simp only [mem_append,mem_cons,not_mem_nil,or_false] at hx⊢;grind) (aG rfl (gQ (by omega)) (sA rfl))⟩
     refine wcp true rfl (xL h9) (go 15 ?_)
     have hs9:bZ4 fs l[k] ⟨vis,n,at_⟩=(e2,⟨vis2,n2,at2⟩):=by rw [bZ9,if_pos hpa,hbg,hy1];show (if e1=0 then _ else _)=_;rw [if_pos (by omega)];exact hy2
     have hbk:=(cAn (by omega) hst).1 (by rw [hs9];show e2≠0;omega)
     rw [hs9] at hbk
     exact ⟨.inr rfl,_,⟨A++⟨C,94,[.sl p.globals.length (p.globals.flatMap dB),.sl p.mutexes.length (p.mutexes.flatMap bT),.sl p.funcs.length (p.funcs.flatMap fV),.val (.map (some gv)),.val (.map (some gf)),nC n2,.val (.int .i64 at2)]⟩::B,R++hM gv 0 evI vis2::rw⟩,aR rfl (aF rfl),aA (.cons _ (.refl _)) (.cons _ (.refl _)),e2,⟨vis2,n2,at2⟩,hbk,rfl,rfl⟩
    refine wcp true rfl (xL h7) (go 16 ?_)
    have hs9:bZ4 fs l[k] ⟨vis,n,at_⟩=(e1,⟨vis1,n1,at1⟩):=by rw [bZ9,if_pos hpa,hbg,hy1];show (if e1=0 then _ else _)=_;rw [if_neg (by omega)]
    have hbk:=(cAn (by omega) hst).1 (by rw [hs9];show e1≠0;omega)
    rw [hs9] at hbk
    exact ⟨.inr rfl,_,⟨A++⟨C,94,[.sl p.globals.length (p.globals.flatMap dB),.sl p.mutexes.length (p.mutexes.flatMap bT),.sl p.funcs.length (p.funcs.flatMap fV),.val (.map (some gv)),.val (.map (some gf)),nC n1,.val (.int .i64 at1)]⟩::B,R++hM gv 0 evI vis1::rw⟩,aR rfl (aF rfl),aA (.cons _ (.refl _)) (.cons _ (.refl _)),e1,⟨vis1,n1,at1⟩,hbk,rfl,rfl⟩
   refine wcp false rfl (eD h5) (go 11 ?_)
   obtain rfl:e0=0:=by omega
   have hbg:cAy l[k] ⟨vis,n,at_⟩=⟨vis,n+1,n⟩:=by unfold cAy;dsimp only;rw [if_neg h5]
   have hf0:bZt vis fs:=hfk
   refine wo rfl (bD [C,gv] rfl rfl (by decide) call81 rfl (ih1 k (by omega) (_::A) B C gv gf p fs (_::R) rw (by simp [hgf]) _ ⟨vis,n+1,n⟩ (by first|rfl|(show _=((n+1:Nat):Int);omega)) hf0 (by show n+1+wtS l[k].thn <= 900000000;omega)) (by intro b hb;simp at hb⊢;rcases hb with rfl|rfl<;>simp) (by intro b hb;simp at hb;rcases hb with rfl|rfl<;>simp [Sto.bl,bZw]) (by intro _ b hb;simp at hb⊢;rcases hb with rfl|rfl<;>simp) ?_)
   rintro _ _ ⟨e1,⟨vis1,n1,at1⟩,hy1,rfl,rfl⟩
   have hb1:=cBf fs l[k].thn ⟨vis,n+1,n⟩
   rw [hy1] at hb1
   have hf1:=cAs (l:=l[k].thn) (x:=⟨vis,n+1,n⟩) hf0
   rw [hy1] at hf1
   dsimp only at hb1 hf1
   refine go 6 ?_
   by_cases h14:((e1:Nat):Int)=0
   ·refine wcp false rfl (xG h14) (go 10 ?_)
    refine wo rfl (bD [C,gv] rfl rfl (by decide) call81 rfl (ih2 k (by omega) (_::A) B C gv gf p fs (_::R) rw (by simp [hgf]) _ ⟨vis1,n1,at1⟩ (by first|rfl|(show _=((n1:Nat):Int);omega)) hf1 (by show n1+wtS l[k].els <= 900000000;omega)) (by intro b hb;simp at hb⊢;rcases hb with rfl|rfl<;>simp) (by intro b hb;simp at hb;rcases hb with rfl|rfl<;>simp [Sto.bl,bZw]) (by intro _ b hb;simp at hb⊢;rcases hb with rfl|rfl<;>simp) ?_)
    rintro _ _ ⟨e2,⟨vis2,n2,at2⟩,hy2,rfl,rfl⟩
    have hb2:=cBf fs l[k].els ⟨vis1,n1,at1⟩
    rw [hy2] at hb2
    have hf2:=cAs (l:=l[k].els) (x:=⟨vis1,n1,at1⟩) hf1
    rw [hy2] at hf2
    dsimp only at hb2 hf2
    refine go 6 ?_
    by_cases h16:((e2:Nat):Int)=0
    ·refine wcp false rfl (xG h16) (go 7 ?_)
     refine wad rfl (go 2 ?_)
     have hs9:bZ4 fs l[k] ⟨vis,n,at_⟩=(0,⟨vis2,n2,at2⟩):=by rw [bZ9,if_pos hpa,hbg,hy1];show (if e1=0 then _ else _)=_;rw [if_pos (by omega)];rw [hy2];rw [show e2=0 by omega]
     have hnx:=(cAn (by omega) hst).2 (by rw [hs9])
     rw [hs9] at hnx
     rw [show cCp l[k] own=own from if_neg h5] at hnx
     exact ⟨(k+1,v,own,⟨vis2,n2,at2⟩),⟨by show k+1 <= l.length;omega,hnx,hf2,by show n2+wtS (l.drop (k+1)) <= 900000000;omega,by show own.length <= k+1;omega⟩,by show l.length-(k+1)<l.length-k;omega,cA (.cons _ (.refl _)) (.refl _) (by intro x hx;simp only [mem_append,mem_cons,not_mem_nil,or_false] at hx⊢;grind) (aG rfl (gQ (by omega)) (sA rfl))⟩
    refine wcp true rfl (xL h16) (go 15 ?_)
    have hs9:bZ4 fs l[k] ⟨vis,n,at_⟩=(e2,⟨vis2,n2,at2⟩):=by rw [bZ9,if_pos hpa,hbg,hy1];show (if e1=0 then _ else _)=_;rw [if_pos (by omega)];exact hy2
    have hbk:=(cAn (by omega) hst).1 (by rw [hs9];show e2≠0;omega)
    rw [hs9] at hbk
    exact ⟨.inr rfl,_,⟨A++⟨C,94,[.sl p.globals.length (p.globals.flatMap dB),.sl p.mutexes.length (p.mutexes.flatMap bT),.sl p.funcs.length (p.funcs.flatMap fV),.val (.map (some gv)),.val (.map (some gf)),nC n2,.val (.int .i64 at2)]⟩::B,R++hM gv 0 evI vis2::rw⟩,aR rfl (aF rfl),aA (.cons _ (.refl _)) (.cons _ (.refl _)),e2,⟨vis2,n2,at2⟩,hbk,rfl,rfl⟩
   refine wcp true rfl (xL h14) (go 16 ?_)
   have hs9:bZ4 fs l[k] ⟨vis,n,at_⟩=(e1,⟨vis1,n1,at1⟩):=by rw [bZ9,if_pos hpa,hbg,hy1];show (if e1=0 then _ else _)=_;rw [if_neg (by omega)]
   have hbk:=(cAn (by omega) hst).1 (by rw [hs9];show e1≠0;omega)
   rw [hs9] at hbk
   exact ⟨.inr rfl,_,⟨A++⟨C,94,[.sl p.globals.length (p.globals.flatMap dB),.sl p.mutexes.length (p.mutexes.flatMap bT),.sl p.funcs.length (p.funcs.flatMap fV),.val (.map (some gv)),.val (.map (some gf)),nC n1,.val (.int .i64 at1)]⟩::B,R++hM gv 0 evI vis1::rw⟩,aR rfl (aF rfl),aA (.cons _ (.refl _)) (.cons _ (.refl _)),e1,⟨vis1,n1,at1⟩,hbk,rfl,rfl⟩
  refine wcp true rfl (xL h3) (go 16 ?_)
  have hs9:bZ4 fs l[k] ⟨vis,n,at_⟩=(e0,⟨vis,n+1,n⟩):=by rw [bZ9,if_neg (by rw [hpa];omega),hpa]
  have hbk:=(cAn (by omega) hst).1 (by rw [hs9];show e0≠0;omega)
  rw [hs9] at hbk
  exact ⟨.inr rfl,_,⟨A++⟨C,94,[.sl p.globals.length (p.globals.flatMap dB),.sl p.mutexes.length (p.mutexes.flatMap bT),.sl p.funcs.length (p.funcs.flatMap fV),.val (.map (some gv)),.val (.map (some gf)),.val (.int .i64 ((n+1:Nat):Int)),nC n]⟩::B,R++hM gv 0 evI vis::rw⟩,aR rfl (aF rfl),aA (.cons _ (.refl _)) (.cons _ (.refl _)),e0,⟨vis,n+1,n⟩,hbk,rfl,rfl⟩
 refine wcp false rfl (jQ h1) (go 11 ?_)
 obtain rfl:k=l.length:=by omega
 have hb9:=cDn rfl hst
 refine aH0 5 rfl ?_
 refine go 7 ?_
 refine fM (fun j:Nat=>(⟨80,[C,gv],⟨A++⟨C,94,[.sl p.globals.length (p.globals.flatMap dB),.sl p.mutexes.length (p.mutexes.flatMap bT),.sl p.funcs.length (p.funcs.flatMap fV),.val (.map (some gv)),.val (.map (some gf)),nC n,.val (.int .i64 at_)]⟩::B,R++hM gv 0 evI ((own.take j).foldl bZy vis)::rw⟩,[(70,nI j),(0,pP C),(4,.c (.val (.int .i64 0))),(68,.c (.sl own.length (bP own))),(69,nI own.length)]⟩:AS)) (fun j=>j <= own.length) (fun j=>own.length-j) 0 (cA (.refl _) (.refl _) (by intro b hb;simp at hb⊢;rcases hb with rfl|rfl<;>simp) (sA rfl)) (Nat.zero_le _) ?_
 intro j hj
 show AWp prog _ ⟨80,[C,gv],⟨A++⟨C,94,[.sl p.globals.length (p.globals.flatMap dB),.sl p.mutexes.length (p.mutexes.flatMap bT),.sl p.funcs.length (p.funcs.flatMap fV),.val (.map (some gv)),.val (.map (some gf)),nC n,.val (.int .i64 at_)]⟩::B,R++hM gv 0 evI ((own.take j).foldl bZy vis)::rw⟩,[(70,nI j),(0,pP C),(4,.c (.val (.int .i64 0))),(68,.c (.sl own.length (bP own))),(69,nI own.length)]⟩ _
 refine go 2 ?_
 by_cases h22:((j:Nat):Int)<((own.length:Nat):Int)
 ·refine wcp true rfl (jZ h22) (go 10 ?_)
  refine wyz rfl (rT (fun x=>.val (.string x)) own j rfl rfl rfl rfl (by omega) runUnderlying50 sizeOf9) (go 10 ?_)
  refine wo rfl (cBu ((own.take j).foldl bZy vis) R rfl rfl rfl rfl underlying91 underlying9 (by simp) (fun _=>by simp) ?_)
  refine go 4 ?_
  refine wad rfl (go 2 ?_)
  rw [cD7 own vis j (by omega)]
  exact ⟨j+1,by omega,by show own.length-(j+1)<own.length-j;omega,cA (.refl _) (.refl _) (fun b hb=>hb) (aG rfl (gQ (by omega)) (sA rfl))⟩
 refine wcp false rfl (jQ h22) (go 15 ?_)
 obtain rfl:j=own.length:=by omega
 rw [take_of_length_le (Nat.le_refl _)]
 exact ⟨.inr rfl,_,⟨A++⟨C,94,[.sl p.globals.length (p.globals.flatMap dB),.sl p.mutexes.length (p.mutexes.flatMap bT),.sl p.funcs.length (p.funcs.flatMap fV),.val (.map (some gv)),.val (.map (some gf)),nC n,.val (.int .i64 at_)]⟩::B,R++hM gv 0 evI (own.foldl bZy vis)::rw⟩,aR rfl (aF rfl),aA (.refl _) (.refl _),0,⟨own.foldl bZy vis,n,at_⟩,hb9,rfl,rfl⟩
end
section
open Go.RowKit
theorem cBr:∀(N:Nat)(l:List aJ),wtS l <= N -> ∀(A B:List Box) (C gv gf:Nat) (p:cK) (fs:Fns) (R rw:List bA) (hgf:hM gf 3 fV fs∈R) (z:Int) (x:RS) (hz:z=((x.n:Nat):Int)) (hfo:bZt x.vis fs) (hn:x.n+wtS l <= 900000000),aL prog 81 [pP C,.c (.sl l.length (l.flatMap encS))] [C,gv] ⟨A++⟨C,94,[.sl p.globals.length (p.globals.flatMap dB),.sl p.mutexes.length (p.mutexes.flatMap bT),.sl p.funcs.length (p.funcs.flatMap fV),.val (.map (some gv)),.val (.map (some gf)),.val (.int .i64 z),.val (.int .i64 x.at_)]⟩::B,R++hM gv 0 evI x.vis::rw⟩ fun t s'=>∃(e:Nat) (y:RS),bZ2 fs l x=(e,y) /\ t=nI e /\ s'=⟨A++⟨C,94,[.sl p.globals.length (p.globals.flatMap dB),.sl p.mutexes.length (p.mutexes.flatMap bT),.sl p.funcs.length (p.funcs.flatMap fV),.val (.map (some gv)),.val (.map (some gf)),nC y.n,.val (.int .i64 y.at_)]⟩::B,R++hM gv 0 evI y.vis::rw⟩
 |0,l,h=>fun A B C gv gf p fs R rw hgf z x hz hfo hn=>cBl l (fun k hk=>by have:=uZ l;omega) (fun k hk=>by have:=uZ l;omega) A B C gv gf p fs R rw hgf z x hz hfo hn
 |N+1,l,h=>fun A B C gv gf p fs R rw hgf z x hz hfo hn=>cBl l
   (fun k hk=>cBr N l[k].thn (by have h1:=uF l k hk;have h2:=gD l[k];omega))
   (fun k hk=>cBr N l[k].els (by have h1:=uF l k hk;have h2:=gD l[k];omega)) A B C gv gf p fs R rw hgf z x hz hfo hn
theorem cBc{fs:Fns}:∀(l:List aS) {v:Vis},bZt v fs -> bZt (bZv l v).2 fs
 |[],_,h=>h
 |x::l,v,h=>by
  rw [bZv];split
  ·exact cBc l (h.put _ (by unfold cAw;split<;>decide))
  exact h
theorem cCl{fs:Fns}:∀(l:List aS) {v:Vis},bZt v fs -> bZt (cAk l v) fs
 |[],_,h=>h
 |x::l,v,h=>cCl l (h.del x.name)
theorem cDt{fs:Fns}(f:bS){v:Vis}(h:bZt v fs):bZt (cAe fs f v).2.vis fs:=by
 unfold cAe;split
 ·exact cCl _ (cAs (cBc _ h))
 exact cBc _ h
theorem cBv{l:List aS}{v v0:Vis}{k:Nat}(hk:k<l.length)(h:bZv (l.drop k) v=bZv l v0):
  (bZp v l[k].name=0 -> bZv (l.drop (k+1)) (bZq v l[k].name (cAw l[k]))=bZv l v0) /\ (bZp v l[k].name≠0 -> bZv l v0=(false,v)):=by
 rw [List.drop_eq_getElem_cons hk,bZv] at h
 refine ⟨fun h0=>?_,fun h0=>?_⟩
 ·rw [if_pos h0] at h;exact h
 rw [if_neg h0] at h;exact h.symm
theorem cDe(l:List aS)(v:Vis)(j:Nat)(h:j<l.length):bZy (cAk (l.take j) v) l[j].name=cAk (l.take (j+1)) v:=by
 unfold cAk;rw [List.take_succ_eq_append_getElem h,List.foldl_append];rfl
theorem cD6(A B:List Box)(C gv gf:Nat)(p:cK)(fs:Fns)(R rw:List bA)(hgf:hM gf 3 fV fs∈R)(n0 a0:Int)(v0:Vis)(f:bS)(hfo:bZt v0 fs)(hw:f.wt <= 900000000):aL prog 43 [pP C,.agg (fV f)] [C,gv] ⟨A++⟨C,94,[.sl p.globals.length (p.globals.flatMap dB),.sl p.mutexes.length (p.mutexes.flatMap bT),.sl p.funcs.length (p.funcs.flatMap fV),.val (.map (some gv)),.val (.map (some gf)),.val (.int .i64 n0),.val (.int .i64 a0)]⟩::B,R++hM gv 0 evI v0::rw⟩ fun t s'=>∃(e:Nat) (y:RS),cAe fs f v0=(e,y) /\ t=nI e /\ s'=⟨A++⟨C,94,[.sl p.globals.length (p.globals.flatMap dB),.sl p.mutexes.length (p.mutexes.flatMap bT),.sl p.funcs.length (p.funcs.flatMap fV),.val (.map (some gv)),.val (.map (some gf)),nC y.n,.val (.int .i64 y.at_)]⟩::B,R++hM gv 0 evI y.vis::rw⟩:=by
 unfold bS.wt at hw
 refine acB func43 rfl ?_
 show AWp prog _ ⟨65,[C,gv],⟨A++⟨C,94,[.sl p.globals.length (p.globals.flatMap dB),.sl p.mutexes.length (p.mutexes.flatMap bT),.sl p.funcs.length (p.funcs.flatMap fV),.val (.map (some gv)),.val (.map (some gf)),.val (.int .i64 n0),.val (.int .i64 a0)]⟩::B,R++hM gv 0 evI v0::rw⟩,[(0,pP C),(1,.agg (fV f))]⟩ _
 refine go 28 fun b1=>?_
 refine fM (fun g:Nat×Vis=>(⟨65,[b1,C,gv],⟨⟨b1,58,fV f⟩::A++⟨C,94,[.sl p.globals.length (p.globals.flatMap dB),.sl p.mutexes.length (p.mutexes.flatMap bT),.sl p.funcs.length (p.funcs.flatMap fV),.val (.map (some gv)),.val (.map (some gf)),nC 0,.val (.int .i64 (-1))]⟩::B,R++hM gv 0 evI g.2::rw⟩,[(19,nI g.1),(0,pP C),(3,pP b1),(4,.c (.val (.int .i64 0))),(17,.c (.sl f.params.length (f.params.flatMap cP))),(18,nI f.params.length)]⟩:AS)) (fun g=>g.1 <= f.params.length /\ bZv (f.params.drop g.1) g.2=bZv f.params v0 /\ bZt g.2 fs) (fun g=>f.params.length-g.1) (0,v0) (cA (.refl _) (.refl _) (fun b hb=>hb) (sA rfl)) ⟨Nat.zero_le _,rfl,hfo⟩ ?_
 rintro ⟨k,vis⟩ ⟨hk,hst,hfk⟩
 dsimp only at hk hst hfk
 show AWp prog _ ⟨65,[b1,C,gv],⟨⟨b1,58,fV f⟩::A++⟨C,94,[.sl p.globals.length (p.globals.flatMap dB),.sl p.mutexes.length (p.mutexes.flatMap bT),.sl p.funcs.length (p.funcs.flatMap fV),.val (.map (some gv)),.val (.map (some gf)),nC 0,.val (.int .i64 (-1))]⟩::B,R++hM gv 0 evI vis::rw⟩,[(19,nI k),(0,pP C),(3,pP b1),(4,.c (.val (.int .i64 0))),(17,.c (.sl f.params.length (f.params.flatMap cP))),(18,nI f.params.length)]⟩ _
 refine go 2 ?_
 by_cases h1:((k:Nat):Int)<((f.params.length:Nat):Int)
 ·refine wcp true rfl (jZ h1) (go 10 ?_)
  refine wyz rfl (bH cP cP f.params gL (fun _=>rfl) k rfl rfl rfl rfl (by omega) (by decide) runUnderlying55 sizeOf89) (go 7 fun b2=>?_)
  refine dx [b2,b1,C,gv,gf] (tz [(0,true),(1,true),(2,true),(3,true),(4,true),(5,true)] 2 (go 7 ?_))
  refine tx 6 rfl (cAm vis rfl rfl rfl (by simp) underlying91 underlying9 zeroValue142 (fun _ h=>(kH.1 h).2 (by simp))) ?_
  by_cases h3:(bZp vis f.params[k].name)=0
  ·refine tx 7 rfl (bO false rfl rfl rfl (xG h3)) ?_
   refine ax (go 5 ?_)
   refine dx [b2,b1,C] (tz [(0,true),(1,true),(2,true),(3,true),(4,true),(5,true)] 1 (go 7 ?_))
   refine ox 6 rfl rfl (cAt vis R rfl rfl rfl rfl rfl underlying91 underlying9 (by simp) (fun hn=>cDv (by simp) hn) ?_)
   refine ax (go 4 ?_)
   rcases Bool.eq_false_or_eq_true (f.params[k].mutex) with h5|h5
   ·refine wyz rfl (fL (bZ h5) (aX [] rfl rfl rfl isAgg4 sizeOf4 rfl (fun _ h=>by cases h))) (go 3 ?_)
    refine dx [b2,b1,C] (tz [(0,true),(1,true),(2,true),(3,true),(4,true),(5,true)] 1 (go 7 ?_))
    refine ox 6 rfl rfl (cAt (bZq vis f.params[k].name 1) R rfl rfl rfl rfl rfl underlying91 underlying9 (by simp) (fun hn=>cDv (by simp) hn) ?_)
    refine ax (go 3 ?_)
    refine wad rfl (go 2 ?_)
    have hnx:=(cBv (by omega) hst).1 (by omega)
    have hsp:cAw f.params[k]=4:=by unfold cAw;rw [h5];rfl
    rw [cEg]
    rw [hsp] at hnx
    exact ⟨(k+1,bZq vis f.params[k].name 4),⟨by show k+1 <= f.params.length;omega,hnx,hfk.put _ (by decide)⟩,by show f.params.length-(k+1)<f.params.length-k;omega,cA (.cons _ (.refl _)) (.refl _) (by intro x hx;simp only [mem_cons,not_mem_nil,or_false] at hx⊢;grind) (aG rfl (gQ (by omega)) (sA rfl))⟩
   refine wyz rfl (fL (bZ h5) (aX [] rfl rfl rfl isAgg4 sizeOf4 rfl (fun _ h=>by cases h))) (go 7 ?_)
   refine wad rfl (go 2 ?_)
   have hnx:=(cBv (by omega) hst).1 (by omega)
   have hsp:cAw f.params[k]=1:=by unfold cAw;rw [h5];rfl
   rw [hsp] at hnx
   exact ⟨(k+1,bZq vis f.params[k].name 1),⟨by show k+1 <= f.params.length;omega,hnx,hfk.put _ (by decide)⟩,by show f.params.length-(k+1)<f.params.length-k;omega,cA (.cons _ (.refl _)) (.refl _) (by intro x hx;simp only [mem_cons,not_mem_nil,or_false] at hx⊢;grind) (aG rfl (gQ (by omega)) (sA rfl))⟩
  refine tx 7 rfl (bO true rfl rfl rfl (xL h3)) ?_
  refine ax (go 14 ?_)
  exact ⟨.inr rfl,_,⟨A++⟨C,94,[.sl p.globals.length (p.globals.flatMap dB),.sl p.mutexes.length (p.mutexes.flatMap bT),.sl p.funcs.length (p.funcs.flatMap fV),.val (.map (some gv)),.val (.map (some gf)),nC 0,.val (.int .i64 (-1))]⟩::B,R++hM gv 0 evI vis::rw⟩,aR rfl (aF rfl),aA (.cons _ (.cons _ (.refl _))) (.refl _),5,⟨vis,0,-1⟩,by unfold cAe;rw [(cBv (by omega) hst).2 (by omega)];rfl,rfl,rfl⟩
 refine wcp false rfl (jQ h1) (go 14 ?_)
 obtain rfl:k=f.params.length:=by omega
 have hpr:bZv f.params v0=(true,vis):=by rw [←hst,List.drop_eq_nil_of_le (Nat.le_refl _),bZv]
 refine wo rfl (bD [C,gv] rfl rfl (by decide) call81 rfl (cBr _ f.body (Nat.le_refl _) (_::A) B C gv gf p fs R rw hgf _ ⟨vis,0,-1⟩ (by rfl) hfk (by show 0+wtS f.body <= 900000000;omega)) (by intro b hb;simp at hb⊢;rcases hb with rfl|rfl<;>simp) (by intro b hb;simp at hb;rcases hb with rfl|rfl<;>simp [Sto.bl,bZw]) (by intro _ b hb;simp at hb⊢;rcases hb with rfl|rfl<;>simp) ?_)
 rintro _ _ ⟨e1,⟨vis1,n1,at1⟩,hy1,rfl,rfl⟩
 refine go 13 ?_
 refine fM (fun j:Nat=>(⟨65,[b1,C,gv],⟨⟨b1,58,fV f⟩::A++⟨C,94,[.sl p.globals.length (p.globals.flatMap dB),.sl p.mutexes.length (p.mutexes.flatMap bT),.sl p.funcs.length (p.funcs.flatMap fV),.val (.map (some gv)),.val (.map (some gf)),nC n1,.val (.int .i64 at1)]⟩::B,R++hM gv 0 evI (cAk (f.params.take j) vis1)::rw⟩,[(53,nI j),(0,pP C),(4,.c (.val (.int .i64 0))),(7,nI e1),(51,.c (.sl f.params.length (f.params.flatMap cP))),(52,nI f.params.length)]⟩:AS)) (fun j=>j <= f.params.length) (fun j=>f.params.length-j) 0 (cA (.refl _) (.refl _) (fun b hb=>hb) (sA rfl)) (Nat.zero_le _) ?_
 intro j hj
 show AWp prog _ ⟨65,[b1,C,gv],⟨⟨b1,58,fV f⟩::A++⟨C,94,[.sl p.globals.length (p.globals.flatMap dB),.sl p.mutexes.length (p.mutexes.flatMap bT),.sl p.funcs.length (p.funcs.flatMap fV),.val (.map (some gv)),.val (.map (some gf)),nC n1,.val (.int .i64 at1)]⟩::B,R++hM gv 0 evI (cAk (f.params.take j) vis1)::rw⟩,[(53,nI j),(0,pP C),(4,.c (.val (.int .i64 0))),(7,nI e1),(51,.c (.sl f.params.length (f.params.flatMap cP))),(52,nI f.params.length)]⟩ _
 refine go 2 ?_
 by_cases h10:((j:Nat):Int)<((f.params.length:Nat):Int)
 ·refine wcp true rfl (jZ h10) (go 10 ?_)
  refine wyz rfl (bH cP cP f.params gL (fun _=>rfl) j rfl rfl rfl rfl (by omega) (by decide) runUnderlying55 sizeOf89) (go 5 fun b3=>?_)
  refine dx [b3,b1,C] (tz [(0,true),(1,true),(2,true),(3,true),(4,true),(5,true)] 1 (go 7 ?_))
  refine ox 6 rfl rfl (cBu (cAk (f.params.take j) vis1) R rfl rfl rfl rfl underlying91 underlying9 (by simp) (fun hn=>cDv (by simp) hn) ?_)
  refine ax (go 3 ?_)
  refine wad rfl (go 2 ?_)
  rw [cDe f.params vis1 j (by omega)]
  exact ⟨j+1,by omega,by show f.params.length-(j+1)<f.params.length-j;omega,cA (.cons _ (.refl _)) (.refl _) (by intro x hx;simp only [mem_cons,not_mem_nil,or_false] at hx⊢;grind) (aG rfl (gQ (by omega)) (sA rfl))⟩
 refine wcp false rfl (jQ h10) (go 16 ?_)
 obtain rfl:j=f.params.length:=by omega
 rw [take_of_length_le (Nat.le_refl _)]
 exact ⟨.inr rfl,_,⟨A++⟨C,94,[.sl p.globals.length (p.globals.flatMap dB),.sl p.mutexes.length (p.mutexes.flatMap bT),.sl p.funcs.length (p.funcs.flatMap fV),.val (.map (some gv)),.val (.map (some gf)),nC n1,.val (.int .i64 at1)]⟩::B,R++hM gv 0 evI (cAk f.params vis1)::rw⟩,aR rfl (aF rfl),aA (.cons _ (.refl _)) (.refl _),e1,⟨cAk f.params vis1,n1,at1⟩,by unfold cAe;rw [hpr,if_pos rfl,hy1],rfl,rfl⟩
end
section
open Go.RowKit
theorem cCb(A B:List Box)(C gv gf Nb Pb:Nat)(X:Box)(p:cK)(vis:Vis)(fs:Fns)(n at_:Int)(rw:List bA)(m:Nat)(nm:ByteArray)(sr:Int)(hg:bZp vis nm=0)(hm:m <= 90000000):aL prog 80 [.c (.val (.string nm)),.c (.val (.int .i64 sr)),pP Pb,pP Nb] [Nb,gv] ⟨X::⟨Nb,3,[nC m]⟩::⟨Pb,90,[.val (.pointer (some ⟨C,0,none⟩))]⟩::A++⟨C,94,[.sl p.globals.length (p.globals.flatMap dB),.sl p.mutexes.length (p.mutexes.flatMap bT),.sl p.funcs.length (p.funcs.flatMap fV),.val (.map (some gv)),.val (.map (some gf)),.val (.int .i64 n),.val (.int .i64 at_)]⟩::B,hM gf 3 fV fs::hM gv 0 evI vis::rw⟩ fun t s'=>t=.c (.val (.bool true)) /\ s'=⟨X::⟨Nb,3,[.val (.int .i64 ((m+1:Nat):Int))]⟩::⟨Pb,90,[.val (.pointer (some ⟨C,0,none⟩))]⟩::A++⟨C,94,[.sl p.globals.length (p.globals.flatMap dB),.sl p.mutexes.length (p.mutexes.flatMap bT),.sl p.funcs.length (p.funcs.flatMap fV),.val (.map (some gv)),.val (.map (some gf)),.val (.int .i64 n),.val (.int .i64 at_)]⟩::B,hM gf 3 fV fs::hM gv 0 evI (bZq vis nm sr)::rw⟩:=by
 refine acB func80 rfl ?_
 show AWp prog _ ⟨22,[Nb,gv],⟨X::⟨Nb,3,[nC m]⟩::⟨Pb,90,[.val (.pointer (some ⟨C,0,none⟩))]⟩::A++⟨C,94,[.sl p.globals.length (p.globals.flatMap dB),.sl p.mutexes.length (p.mutexes.flatMap bT),.sl p.funcs.length (p.funcs.flatMap fV),.val (.map (some gv)),.val (.map (some gf)),.val (.int .i64 n),.val (.int .i64 at_)]⟩::B,hM gf 3 fV fs::hM gv 0 evI vis::rw⟩,[(0,.c (.val (.string nm))),(1,.c (.val (.int .i64 sr))),(2,pP Pb),(3,pP Nb)]⟩ _
 refine go 13 ?_
 refine wyz rfl (cAm vis rfl rfl rfl (by simp) underlying91 underlying9 zeroValue142 (fun _ h=>by cases h)) ?_
 refine wcp false rfl (xG hg) (go 13 ?_)
 refine wo rfl (cAt vis [_] rfl rfl rfl rfl rfl underlying91 underlying9 (by simp) (fun _=>by simp) ?_)
 refine go 5 ?_
 refine wad rfl (go 9 ?_)
 exact ⟨.inr rfl,_,⟨X::⟨Nb,3,[.val (.int .i64 ((m+1:Nat):Int))]⟩::⟨Pb,90,[.val (.pointer (some ⟨C,0,none⟩))]⟩::A++⟨C,94,[.sl p.globals.length (p.globals.flatMap dB),.sl p.mutexes.length (p.mutexes.flatMap bT),.sl p.funcs.length (p.funcs.flatMap fV),.val (.map (some gv)),.val (.map (some gf)),.val (.int .i64 n),.val (.int .i64 at_)]⟩::B,hM gf 3 fV fs::hM gv 0 evI (bZq vis nm sr)::rw⟩,aR rfl (aF rfl),aA (.refl _) (.refl _),rfl,rfl⟩
theorem cCa(A B:List Box)(C gv gf Nb Pb:Nat)(X:Box)(p:cK)(vis:Vis)(fs:Fns)(n at_:Int)(rw:List bA)(m:Nat)(nm:ByteArray)(sr:Int)(hg:¬bZp vis nm=0):aL prog 80 [.c (.val (.string nm)),.c (.val (.int .i64 sr)),pP Pb,pP Nb] [Nb,gv] ⟨X::⟨Nb,3,[nC m]⟩::⟨Pb,90,[.val (.pointer (some ⟨C,0,none⟩))]⟩::A++⟨C,94,[.sl p.globals.length (p.globals.flatMap dB),.sl p.mutexes.length (p.mutexes.flatMap bT),.sl p.funcs.length (p.funcs.flatMap fV),.val (.map (some gv)),.val (.map (some gf)),.val (.int .i64 n),.val (.int .i64 at_)]⟩::B,hM gf 3 fV fs::hM gv 0 evI vis::rw⟩ fun t s'=>t=.c (.val (.bool false)) /\ s'=⟨X::⟨Nb,3,[nC m]⟩::⟨Pb,90,[.val (.pointer (some ⟨C,0,none⟩))]⟩::A++⟨C,94,[.sl p.globals.length (p.globals.flatMap dB),.sl p.mutexes.length (p.mutexes.flatMap bT),.sl p.funcs.length (p.funcs.flatMap fV),.val (.map (some gv)),.val (.map (some gf)),.val (.int .i64 n),.val (.int .i64 at_)]⟩::B,hM gf 3 fV fs::hM gv 0 evI vis::rw⟩:=by
 refine acB func80 rfl ?_
 show AWp prog _ ⟨22,[Nb,gv],⟨X::⟨Nb,3,[nC m]⟩::⟨Pb,90,[.val (.pointer (some ⟨C,0,none⟩))]⟩::A++⟨C,94,[.sl p.globals.length (p.globals.flatMap dB),.sl p.mutexes.length (p.mutexes.flatMap bT),.sl p.funcs.length (p.funcs.flatMap fV),.val (.map (some gv)),.val (.map (some gf)),.val (.int .i64 n),.val (.int .i64 at_)]⟩::B,hM gf 3 fV fs::hM gv 0 evI vis::rw⟩,[(0,.c (.val (.string nm))),(1,.c (.val (.int .i64 sr))),(2,pP Pb),(3,pP Nb)]⟩ _
 refine go 13 ?_
 refine wyz rfl (cAm vis rfl rfl rfl (by simp) underlying91 underlying9 zeroValue142 (fun _ h=>by cases h)) ?_
 refine wcp true rfl (xL hg) (go 10 ?_)
 exact ⟨.inr rfl,_,⟨X::⟨Nb,3,[nC m]⟩::⟨Pb,90,[.val (.pointer (some ⟨C,0,none⟩))]⟩::A++⟨C,94,[.sl p.globals.length (p.globals.flatMap dB),.sl p.mutexes.length (p.mutexes.flatMap bT),.sl p.funcs.length (p.funcs.flatMap fV),.val (.map (some gv)),.val (.map (some gf)),.val (.int .i64 n),.val (.int .i64 at_)]⟩::B,hM gf 3 fV fs::hM gv 0 evI vis::rw⟩,aR rfl (aF rfl),aA (.refl _) (.refl _),rfl,rfl⟩
theorem cAc{S:List (ByteArray×Int)}{v v0:Vis}{j n0:Nat}{q:ByteArray×Int}(hq:S.drop j=q::S.drop (j+1))(h:bZz (S.drop j) v j=bZz S v0 n0):
  (bZp v q.1=0 -> bZz (S.drop (j+1)) (bZq v q.1 q.2) (j+1)=bZz S v0 n0) /\ (¬bZp v q.1=0 -> bZz S v0 n0=(some j,v)):=by
 rw [hq,bZz] at h
 refine ⟨fun h0=>?_,fun h0=>?_⟩
 ·rw [if_pos h0] at h;exact h
 rw [if_neg h0] at h;exact h.symm
theorem cAu(p:cK):(bZs p).length=p.globals.length+(p.mutexes.length+p.funcs.length):=by unfold bZs;simp
theorem cC5(p:cK)(k:Nat)(h:k<p.globals.length):(bZs p).drop k=(p.globals[k].name,1)::(bZs p).drop (k+1):=by
 rw [List.drop_eq_getElem_cons (by rw [cAu];omega)];congr 1
 unfold bZs;rw [List.getElem_append_left (by simpa using h)];simp
theorem cBp(p:cK)(k:Nat)(h:k<p.mutexes.length):(bZs p).drop (p.globals.length+k)=(p.mutexes[k].name,cAr p.mutexes[k])::(bZs p).drop (p.globals.length+k+1):=by
 rw [List.drop_eq_getElem_cons (by rw [cAu];omega)];congr 1
 unfold bZs;rw [List.getElem_append_right (by simp),List.getElem_append_left (by simp;omega)];simp
theorem cC3(p:cK)(k:Nat)(h:k<p.funcs.length):(bZs p).drop (p.globals.length+p.mutexes.length+k)=(p.funcs[k].name,5)::(bZs p).drop (p.globals.length+p.mutexes.length+k+1):=by
 rw [List.drop_eq_getElem_cons (by rw [cAu];omega)];congr 1
 unfold bZs;rw [List.getElem_append_right (by simp;omega),List.getElem_append_right (by simp;omega)];simp;congr 2;omega
theorem cB1(l:List bS)(k:Nat)(h:k<l.length):bZq (bZ7 (l.take k)) l[k].name l[k]=bZ7 (l.take (k+1)):=by
 unfold bZ7;rw [List.take_succ_eq_append_getElem h,List.foldl_append];rfl
theorem bZt.fun{v:Vis}{fs:Fns}(h:bZt v fs)(s:ByteArray)(f:bS):bZt (bZq v s 5) (bZq fs s f):=
 ⟨h.1.put s 5,fun q hq=>by
  rw [cBo]
  rw [cAl] at hq
  split at hq
  ·rename_i e;rw [if_pos e];exact ⟨f,rfl⟩
  rename_i e;rw [if_neg e];exact h.2 q hq⟩
theorem bZt.nil:bZt [] []:=⟨by unfold KN;simp,fun s h=>by unfold bZp bZu at h;cases h⟩
def cEj:Option Nat -> Int
 |none=>-1
 |some i=>(i:Int)
theorem cD4(A B:List Box)(C gv gf:Nat)(p:cK)(rw:List bA)(hg:p.globals.length <= 9000000)(hm:p.mutexes.length <= 9000000)(hf:p.funcs.length <= 9000000):aL prog 42 [pP C] [C,gv,gf] ⟨A++⟨C,94,[.sl p.globals.length (p.globals.flatMap dB),.sl p.mutexes.length (p.mutexes.flatMap bT),.sl p.funcs.length (p.funcs.flatMap fV),.val (.map (some gv)),.val (.map (some gf)),.val (.int .i64 0),.val (.int .i64 0)]⟩::B,hM gf 3 fV ([]:Fns)::hM gv 0 evI ([]:Vis)::rw⟩ fun t s'=>∃(r:Option Nat) (v:Vis) (fsx:Fns),bZz (bZs p) [] 0=(r,v) /\ t=.c (.val (.int .i64 (cEj r))) /\ s'=⟨A++⟨C,94,[.sl p.globals.length (p.globals.flatMap dB),.sl p.mutexes.length (p.mutexes.flatMap bT),.sl p.funcs.length (p.funcs.flatMap fV),.val (.map (some gv)),.val (.map (some gf)),.val (.int .i64 0),.val (.int .i64 0)]⟩::B,hM gf 3 fV fsx::hM gv 0 evI v::rw⟩ /\ (r=none -> fsx=bZ7 p.funcs /\ bZt v fsx):=by
 refine acB func42 rfl ?_
 show AWp prog _ ⟨75,[C,gv,gf],⟨A++⟨C,94,[.sl p.globals.length (p.globals.flatMap dB),.sl p.mutexes.length (p.mutexes.flatMap bT),.sl p.funcs.length (p.funcs.flatMap fV),.val (.map (some gv)),.val (.map (some gf)),.val (.int .i64 0),.val (.int .i64 0)]⟩::B,hM gf 3 fV ([]:Fns)::hM gv 0 evI ([]:Vis)::rw⟩,[(0,pP C)]⟩ _
 refine go 14 fun Pb Nb=>?_
 refine wyz rfl (xR rfl (vs:=[.pointer (some ⟨Pb,0,none⟩),.pointer (some ⟨Nb,0,none⟩)]) rfl) (go 16 ?_)
 refine fM (fun g:Nat×Vis=>(⟨75,[Nb,Pb,C,gv,gf],⟨⟨Nb,3,[nC g.1]⟩::⟨Pb,90,[.val (.pointer (some ⟨C,0,none⟩))]⟩::A++⟨C,94,[.sl p.globals.length (p.globals.flatMap dB),.sl p.mutexes.length (p.mutexes.flatMap bT),.sl p.funcs.length (p.funcs.flatMap fV),.val (.map (some gv)),.val (.map (some gf)),.val (.int .i64 0),.val (.int .i64 0)]⟩::B,hM gf 3 fV []::hM gv 0 evI g.2::rw⟩,[(19,nI g.1),(1,pP Pb),(2,.c (.val (.int .i64 0))),(3,pP Nb),(4,.c (.val (.func (.func 80) #[] #[.pointer (some ⟨Pb,0,none⟩),.pointer (some ⟨Nb,0,none⟩)]))),(17,.c (.sl p.globals.length (p.globals.flatMap dB))),(18,nI p.globals.length)]⟩:AS)) (fun g=>g.1 <= p.globals.length /\ bZz ((bZs p).drop (g.1)) g.2 (g.1)=bZz (bZs p) [] 0 /\ bZt g.2 []) (fun g=>p.globals.length-g.1) (0,[]) (cA (.refl _) (.refl _) (by intro x hx;simp only [mem_cons,not_mem_nil,or_false] at hx⊢;grind) (sA rfl)) ⟨Nat.zero_le _,rfl,bZt.nil⟩ ?_
 rintro ⟨k,vis1⟩ ⟨hk,hst1,hfk1⟩
 dsimp only at hk hst1 hfk1
 show AWp prog _ ⟨75,[Nb,Pb,C,gv,gf],⟨⟨Nb,3,[nC k]⟩::⟨Pb,90,[.val (.pointer (some ⟨C,0,none⟩))]⟩::A++⟨C,94,[.sl p.globals.length (p.globals.flatMap dB),.sl p.mutexes.length (p.mutexes.flatMap bT),.sl p.funcs.length (p.funcs.flatMap fV),.val (.map (some gv)),.val (.map (some gf)),.val (.int .i64 0),.val (.int .i64 0)]⟩::B,hM gf 3 fV []::hM gv 0 evI vis1::rw⟩,[(19,nI k),(1,pP Pb),(2,.c (.val (.int .i64 0))),(3,pP Nb),(4,.c (.val (.func (.func 80) #[] #[.pointer (some ⟨Pb,0,none⟩),.pointer (some ⟨Nb,0,none⟩)]))),(17,.c (.sl p.globals.length (p.globals.flatMap dB))),(18,nI p.globals.length)]⟩ _
 refine go 2 ?_
 by_cases h1:((k:Nat):Int)<((p.globals.length:Nat):Int)
 ·refine wcp true rfl (jZ h1) (go 10 ?_)
  refine wyz rfl (bH dB dB p.globals nS (fun _=>rfl) k rfl rfl rfl rfl (by omega) (by decide) runUnderlying26 sizeOf86) (go 10 fun b1=>?_)
  by_cases hgk:bZp vis1 p.globals[k].name=0
  ·refine wo rfl (rL [Nb,gv] rfl rfl rfl (by decide) call80 (us:=[.c (.val (.string p.globals[k].name)),.c (.val (.int .i64 1))]) rfl (cCb A B C gv gf Nb Pb _ p vis1 _ _ _ rw (k) p.globals[k].name 1 hgk (by omega)) (by intro b hb;simp at hb⊢;rcases hb with rfl|rfl<;>simp) (by intro b hb;simp at hb;rcases hb with rfl|rfl<;>simp [Sto.bl,bZw]) (by intro _ b hb;simp at hb⊢;rcases hb with rfl|rfl<;>simp) ?_)
   rintro _ _ ⟨rfl,rfl⟩
   refine ⟨[],(fun _ b hb=>nomatch hb),?_⟩
   refine go 8 ?_
   refine wad rfl (go 2 ?_)
   have hnx:=(cAc (cC5 p k (by omega)) hst1).1 hgk
   exact ⟨(k+1,bZq vis1 p.globals[k].name 1),⟨by show k+1 <= p.globals.length;omega,hnx,hfk1.put _ (by decide)⟩,by show p.globals.length-(k+1)<p.globals.length-k;omega,cA (.cons _ (.refl _)) (.refl _) (by intro x hx;simp only [mem_cons,not_mem_nil,or_false] at hx⊢;grind) (aG rfl (gQ (by omega)) (sA rfl))⟩
  refine wo rfl (rL [Nb,gv] rfl rfl rfl (by decide) call80 (us:=[.c (.val (.string p.globals[k].name)),.c (.val (.int .i64 1))]) rfl (cCa A B C gv gf Nb Pb _ p vis1 _ _ _ rw (k) p.globals[k].name 1 hgk) (by intro b hb;simp at hb⊢;rcases hb with rfl|rfl<;>simp) (by intro b hb;simp at hb;rcases hb with rfl|rfl<;>simp [Sto.bl,bZw]) (by intro _ b hb;simp at hb⊢;rcases hb with rfl|rfl<;>simp) ?_)
  rintro _ _ ⟨rfl,rfl⟩
  refine ⟨[],(fun _ b hb=>nomatch hb),?_⟩
  refine go 16 ?_
  have hbd:=(cAc (cC5 p k (by omega)) hst1).2 hgk
  exact ⟨.inr rfl,_,⟨A++⟨C,94,[.sl p.globals.length (p.globals.flatMap dB),.sl p.mutexes.length (p.mutexes.flatMap bT),.sl p.funcs.length (p.funcs.flatMap fV),.val (.map (some gv)),.val (.map (some gf)),.val (.int .i64 0),.val (.int .i64 0)]⟩::B,hM gf 3 fV []::hM gv 0 evI vis1::rw⟩,aR rfl (aF rfl),aA (.cons _ (.cons _ (.cons _ (.refl _)))) (.refl _),some (k),vis1,[],hbd,rfl,rfl,fun h=>by cases h⟩
 refine wcp false rfl (jQ h1) (go 11 ?_)
 obtain rfl:k=p.globals.length:=by omega
 replace hst1:bZz ((bZs p).drop (p.globals.length+0)) vis1 (p.globals.length+0)=bZz (bZs p) [] 0:=hst1
 refine go 11 ?_
 refine fM (fun g:Nat×Vis=>(⟨75,[Nb,Pb,C,gv,gf],⟨⟨Nb,3,[.val (.int .i64 ((p.globals.length+g.1:Nat):Int))]⟩::⟨Pb,90,[.val (.pointer (some ⟨C,0,none⟩))]⟩::A++⟨C,94,[.sl p.globals.length (p.globals.flatMap dB),.sl p.mutexes.length (p.mutexes.flatMap bT),.sl p.funcs.length (p.funcs.flatMap fV),.val (.map (some gv)),.val (.map (some gf)),.val (.int .i64 0),.val (.int .i64 0)]⟩::B,hM gf 3 fV []::hM gv 0 evI g.2::rw⟩,[(36,nI g.1),(1,pP Pb),(2,.c (.val (.int .i64 0))),(3,pP Nb),(4,.c (.val (.func (.func 80) #[] #[.pointer (some ⟨Pb,0,none⟩),.pointer (some ⟨Nb,0,none⟩)]))),(34,.c (.sl p.mutexes.length (p.mutexes.flatMap bT))),(35,nI p.mutexes.length)]⟩:AS)) (fun g=>g.1 <= p.mutexes.length /\ bZz ((bZs p).drop (p.globals.length+g.1)) g.2 (p.globals.length+g.1)=bZz (bZs p) [] 0 /\ bZt g.2 []) (fun g=>p.mutexes.length-g.1) (0,vis1) (cA (.refl _) (.refl _) (by intro x hx;simp only [mem_cons,not_mem_nil,or_false] at hx⊢;grind) (sA rfl)) ⟨Nat.zero_le _,hst1,hfk1⟩ ?_
 rintro ⟨k,vis2⟩ ⟨hk,hst2,hfk2⟩
 dsimp only at hk hst2 hfk2
 show AWp prog _ ⟨75,[Nb,Pb,C,gv,gf],⟨⟨Nb,3,[.val (.int .i64 ((p.globals.length+k:Nat):Int))]⟩::⟨Pb,90,[.val (.pointer (some ⟨C,0,none⟩))]⟩::A++⟨C,94,[.sl p.globals.length (p.globals.flatMap dB),.sl p.mutexes.length (p.mutexes.flatMap bT),.sl p.funcs.length (p.funcs.flatMap fV),.val (.map (some gv)),.val (.map (some gf)),.val (.int .i64 0),.val (.int .i64 0)]⟩::B,hM gf 3 fV []::hM gv 0 evI vis2::rw⟩,[(36,nI k),(1,pP Pb),(2,.c (.val (.int .i64 0))),(3,pP Nb),(4,.c (.val (.func (.func 80) #[] #[.pointer (some ⟨Pb,0,none⟩),.pointer (some ⟨Nb,0,none⟩)]))),(34,.c (.sl p.mutexes.length (p.mutexes.flatMap bT))),(35,nI p.mutexes.length)]⟩ _
 refine go 2 ?_
 by_cases h6:((k:Nat):Int)<((p.mutexes.length:Nat):Int)
 ·refine wcp true rfl (jZ h6) (go 10 ?_)
  refine wyz rfl (bH bT bT p.mutexes mZ (fun _=>rfl) k rfl rfl rfl rfl (by omega) (by decide) runUnderlying27 sizeOf70) (go 15 fun b2=>?_)
  by_cases h8:(0:Int)<p.mutexes[k].size
  ·refine wcp true rfl (mH h8) (go 13 ?_)
   have hsm:cAr p.mutexes[k]=3:=by unfold cAr;first|(rw [if_pos (by omega)])|(rw [if_neg (by omega)])
   by_cases hgk:bZp vis2 p.mutexes[k].name=0
   ·refine wo rfl (rL [Nb,gv] rfl rfl rfl (by decide) call80 (us:=[.c (.val (.string p.mutexes[k].name)),.c (.val (.int .i64 3))]) rfl (cCb A B C gv gf Nb Pb _ p vis2 _ _ _ rw (p.globals.length+k) p.mutexes[k].name 3 hgk (by omega)) (by intro b hb;simp at hb⊢;rcases hb with rfl|rfl<;>simp) (by intro b hb;simp at hb;rcases hb with rfl|rfl<;>simp [Sto.bl,bZw]) (by intro _ b hb;simp at hb⊢;rcases hb with rfl|rfl<;>simp) ?_)
    rintro _ _ ⟨rfl,rfl⟩
    refine ⟨[],(fun _ b hb=>nomatch hb),?_⟩
    refine go 8 ?_
    refine wad rfl (go 2 ?_)
    have hnx:=(cAc (cBp p k (by omega)) hst2).1 hgk
    rw [show cAr p.mutexes[k]=3 from hsm] at hnx
    exact ⟨(k+1,bZq vis2 p.mutexes[k].name 3),⟨by show k+1 <= p.mutexes.length;omega,hnx,hfk2.put _ (by decide)⟩,by show p.mutexes.length-(k+1)<p.mutexes.length-k;omega,cA (.cons _ (.refl _)) (.refl _) (by intro x hx;simp only [mem_cons,not_mem_nil,or_false] at hx⊢;grind) (aG rfl (gQ (by omega)) (sA rfl))⟩
   refine wo rfl (rL [Nb,gv] rfl rfl rfl (by decide) call80 (us:=[.c (.val (.string p.mutexes[k].name)),.c (.val (.int .i64 3))]) rfl (cCa A B C gv gf Nb Pb _ p vis2 _ _ _ rw (p.globals.length+k) p.mutexes[k].name 3 hgk) (by intro b hb;simp at hb⊢;rcases hb with rfl|rfl<;>simp) (by intro b hb;simp at hb;rcases hb with rfl|rfl<;>simp [Sto.bl,bZw]) (by intro _ b hb;simp at hb⊢;rcases hb with rfl|rfl<;>simp) ?_)
   rintro _ _ ⟨rfl,rfl⟩
   refine ⟨[],(fun _ b hb=>nomatch hb),?_⟩
   refine go 16 ?_
   have hbd:=(cAc (cBp p k (by omega)) hst2).2 hgk
   exact ⟨.inr rfl,_,⟨A++⟨C,94,[.sl p.globals.length (p.globals.flatMap dB),.sl p.mutexes.length (p.mutexes.flatMap bT),.sl p.funcs.length (p.funcs.flatMap fV),.val (.map (some gv)),.val (.map (some gf)),.val (.int .i64 0),.val (.int .i64 0)]⟩::B,hM gf 3 fV []::hM gv 0 evI vis2::rw⟩,aR rfl (aF rfl),aA (.cons _ (.cons _ (.cons _ (.refl _)))) (.refl _),some (p.globals.length+k),vis2,[],hbd,rfl,rfl,fun h=>by cases h⟩
  refine wcp false rfl (mI h8) (go 11 ?_)
  have hsm:cAr p.mutexes[k]=2:=by unfold cAr;first|(rw [if_pos (by omega)])|(rw [if_neg (by omega)])
  by_cases hgk:bZp vis2 p.mutexes[k].name=0
  ·refine wo rfl (rL [Nb,gv] rfl rfl rfl (by decide) call80 (us:=[.c (.val (.string p.mutexes[k].name)),.c (.val (.int .i64 2))]) rfl (cCb A B C gv gf Nb Pb _ p vis2 _ _ _ rw (p.globals.length+k) p.mutexes[k].name 2 hgk (by omega)) (by intro b hb;simp at hb⊢;rcases hb with rfl|rfl<;>simp) (by intro b hb;simp at hb;rcases hb with rfl|rfl<;>simp [Sto.bl,bZw]) (by intro _ b hb;simp at hb⊢;rcases hb with rfl|rfl<;>simp) ?_)
   rintro _ _ ⟨rfl,rfl⟩
   refine ⟨[],(fun _ b hb=>nomatch hb),?_⟩
   refine go 8 ?_
   refine wad rfl (go 2 ?_)
   have hnx:=(cAc (cBp p k (by omega)) hst2).1 hgk
   rw [show cAr p.mutexes[k]=2 from hsm] at hnx
   exact ⟨(k+1,bZq vis2 p.mutexes[k].name 2),⟨by show k+1 <= p.mutexes.length;omega,hnx,hfk2.put _ (by decide)⟩,by show p.mutexes.length-(k+1)<p.mutexes.length-k;omega,cA (.cons _ (.refl _)) (.refl _) (by intro x hx;simp only [mem_cons,not_mem_nil,or_false] at hx⊢;grind) (aG rfl (gQ (by omega)) (sA rfl))⟩
  refine wo rfl (rL [Nb,gv] rfl rfl rfl (by decide) call80 (us:=[.c (.val (.string p.mutexes[k].name)),.c (.val (.int .i64 2))]) rfl (cCa A B C gv gf Nb Pb _ p vis2 _ _ _ rw (p.globals.length+k) p.mutexes[k].name 2 hgk) (by intro b hb;simp at hb⊢;rcases hb with rfl|rfl<;>simp) (by intro b hb;simp at hb;rcases hb with rfl|rfl<;>simp [Sto.bl,bZw]) (by intro _ b hb;simp at hb⊢;rcases hb with rfl|rfl<;>simp) ?_)
  rintro _ _ ⟨rfl,rfl⟩
  refine ⟨[],(fun _ b hb=>nomatch hb),?_⟩
  refine go 16 ?_
  have hbd:=(cAc (cBp p k (by omega)) hst2).2 hgk
  exact ⟨.inr rfl,_,⟨A++⟨C,94,[.sl p.globals.length (p.globals.flatMap dB),.sl p.mutexes.length (p.mutexes.flatMap bT),.sl p.funcs.length (p.funcs.flatMap fV),.val (.map (some gv)),.val (.map (some gf)),.val (.int .i64 0),.val (.int .i64 0)]⟩::B,hM gf 3 fV []::hM gv 0 evI vis2::rw⟩,aR rfl (aF rfl),aA (.cons _ (.cons _ (.cons _ (.refl _)))) (.refl _),some (p.globals.length+k),vis2,[],hbd,rfl,rfl,fun h=>by cases h⟩
 refine wcp false rfl (jQ h6) (go 11 ?_)
 obtain rfl:k=p.mutexes.length:=by omega
 replace hst2:bZz ((bZs p).drop (p.globals.length+p.mutexes.length+0)) vis2 (p.globals.length+p.mutexes.length+0)=bZz (bZs p) [] 0:=hst2
 refine go 11 ?_
 refine fM (fun g:Nat×Vis=>(⟨75,[Nb,Pb,C,gv,gf],⟨⟨Nb,3,[.val (.int .i64 ((p.globals.length+p.mutexes.length+g.1:Nat):Int))]⟩::⟨Pb,90,[.val (.pointer (some ⟨C,0,none⟩))]⟩::A++⟨C,94,[.sl p.globals.length (p.globals.flatMap dB),.sl p.mutexes.length (p.mutexes.flatMap bT),.sl p.funcs.length (p.funcs.flatMap fV),.val (.map (some gv)),.val (.map (some gf)),.val (.int .i64 0),.val (.int .i64 0)]⟩::B,hM gf 3 fV (bZ7 (p.funcs.take g.1))::hM gv 0 evI g.2::rw⟩,[(57,nI g.1),(1,pP Pb),(2,.c (.val (.int .i64 0))),(3,pP Nb),(4,.c (.val (.func (.func 80) #[] #[.pointer (some ⟨Pb,0,none⟩),.pointer (some ⟨Nb,0,none⟩)]))),(55,.c (.sl p.funcs.length (p.funcs.flatMap fV))),(56,nI p.funcs.length)]⟩:AS)) (fun g=>g.1 <= p.funcs.length /\ bZz ((bZs p).drop (p.globals.length+p.mutexes.length+g.1)) g.2 (p.globals.length+p.mutexes.length+g.1)=bZz (bZs p) [] 0 /\ bZt g.2 (bZ7 (p.funcs.take g.1))) (fun g=>p.funcs.length-g.1) (0,vis2) (cA (.refl _) (.refl _) (by intro x hx;simp only [mem_cons,not_mem_nil,or_false] at hx⊢;grind) (sA rfl)) ⟨Nat.zero_le _,hst2,hfk2⟩ ?_
 rintro ⟨k,vis3⟩ ⟨hk,hst3,hfk3⟩
 dsimp only at hk hst3 hfk3
 show AWp prog _ ⟨75,[Nb,Pb,C,gv,gf],⟨⟨Nb,3,[.val (.int .i64 ((p.globals.length+p.mutexes.length+k:Nat):Int))]⟩::⟨Pb,90,[.val (.pointer (some ⟨C,0,none⟩))]⟩::A++⟨C,94,[.sl p.globals.length (p.globals.flatMap dB),.sl p.mutexes.length (p.mutexes.flatMap bT),.sl p.funcs.length (p.funcs.flatMap fV),.val (.map (some gv)),.val (.map (some gf)),.val (.int .i64 0),.val (.int .i64 0)]⟩::B,hM gf 3 fV (bZ7 (p.funcs.take k))::hM gv 0 evI vis3::rw⟩,[(57,nI k),(1,pP Pb),(2,.c (.val (.int .i64 0))),(3,pP Nb),(4,.c (.val (.func (.func 80) #[] #[.pointer (some ⟨Pb,0,none⟩),.pointer (some ⟨Nb,0,none⟩)]))),(55,.c (.sl p.funcs.length (p.funcs.flatMap fV))),(56,nI p.funcs.length)]⟩ _
 refine go 2 ?_
 by_cases h16:((k:Nat):Int)<((p.funcs.length:Nat):Int)
 ·refine wcp true rfl (jZ h16) (go 10 ?_)
  refine wyz rfl (bH fV fV p.funcs vC (fun _=>rfl) k rfl rfl rfl rfl (by omega) (by decide) runUnderlying28 sizeOf58) (go 11 fun b3=>?_)
  by_cases hgk:bZp vis3 p.funcs[k].name=0
  ·refine wo rfl (rL [Nb,gv] rfl rfl rfl (by decide) call80 (us:=[.c (.val (.string p.funcs[k].name)),.c (.val (.int .i64 5))]) rfl (cCb A B C gv gf Nb Pb _ p vis3 _ _ _ rw (p.globals.length+p.mutexes.length+k) p.funcs[k].name 5 hgk (by omega)) (by intro b hb;simp at hb⊢;rcases hb with rfl|rfl<;>simp) (by intro b hb;simp at hb;rcases hb with rfl|rfl<;>simp [Sto.bl,bZw]) (by intro _ b hb;simp at hb⊢;rcases hb with rfl|rfl<;>simp) ?_)
   rintro _ _ ⟨rfl,rfl⟩
   refine ⟨[],(fun _ b hb=>nomatch hb),?_⟩
   refine go 6 ?_
   refine dx [b3,Nb,Pb,C] (tz [(0,true),(1,true),(2,true),(3,true),(4,true),(5,true),(6,true)] 1 (go 8 ?_))
   refine ox 7 rfl rfl (cCw (m:=3) (ev:=fV) (b:=p.funcs[k]) (bZ7 (p.funcs.take k)) [] rfl rfl rfl rfl rfl (by decide) (fun _=>rfl) underlying92 underlying9 (by simp) (fun hn=>cDv (by simp) hn) ?_)
   refine ax (go 3 ?_)
   refine wad rfl (go 2 ?_)
   have hnx:=(cAc (cC3 p k (by omega)) hst3).1 hgk
   rw [cB1 p.funcs k (by omega)]
   exact ⟨(k+1,bZq vis3 p.funcs[k].name 5),⟨by show k+1 <= p.funcs.length;omega,hnx,by have h9:=hfk3.fun p.funcs[k].name p.funcs[k];rw [cB1 p.funcs k (by omega)] at h9;exact h9⟩,by show p.funcs.length-(k+1)<p.funcs.length-k;omega,cA (.cons _ (.refl _)) (.refl _) (by intro x hx;simp only [mem_cons,not_mem_nil,or_false] at hx⊢;grind) (aG rfl (gQ (by omega)) (sA rfl))⟩
  refine wo rfl (rL [Nb,gv] rfl rfl rfl (by decide) call80 (us:=[.c (.val (.string p.funcs[k].name)),.c (.val (.int .i64 5))]) rfl (cCa A B C gv gf Nb Pb _ p vis3 _ _ _ rw (p.globals.length+p.mutexes.length+k) p.funcs[k].name 5 hgk) (by intro b hb;simp at hb⊢;rcases hb with rfl|rfl<;>simp) (by intro b hb;simp at hb;rcases hb with rfl|rfl<;>simp [Sto.bl,bZw]) (by intro _ b hb;simp at hb⊢;rcases hb with rfl|rfl<;>simp) ?_)
  rintro _ _ ⟨rfl,rfl⟩
  refine ⟨[],(fun _ b hb=>nomatch hb),?_⟩
  refine go 17 ?_
  have hbd:=(cAc (cC3 p k (by omega)) hst3).2 hgk
  exact ⟨.inr rfl,_,⟨A++⟨C,94,[.sl p.globals.length (p.globals.flatMap dB),.sl p.mutexes.length (p.mutexes.flatMap bT),.sl p.funcs.length (p.funcs.flatMap fV),.val (.map (some gv)),.val (.map (some gf)),.val (.int .i64 0),.val (.int .i64 0)]⟩::B,hM gf 3 fV (bZ7 (p.funcs.take k))::hM gv 0 evI vis3::rw⟩,aR rfl (aF rfl),aA (.cons _ (.cons _ (.cons _ (.refl _)))) (.refl _),some (p.globals.length+p.mutexes.length+k),vis3,(bZ7 (p.funcs.take k)),hbd,rfl,rfl,fun h=>by cases h⟩
 refine wcp false rfl (jQ h16) (go 10 ?_)
 obtain rfl:k=p.funcs.length:=by omega
 rw [List.drop_eq_nil_of_le (by rw [cAu];omega),bZz] at hst3
 rw [take_of_length_le (Nat.le_refl _)] at hfk3
 refine go 5 ?_
 rw [take_of_length_le (Nat.le_refl _)]
 exact ⟨.inr rfl,_,⟨A++⟨C,94,[.sl p.globals.length (p.globals.flatMap dB),.sl p.mutexes.length (p.mutexes.flatMap bT),.sl p.funcs.length (p.funcs.flatMap fV),.val (.map (some gv)),.val (.map (some gf)),.val (.int .i64 0),.val (.int .i64 0)]⟩::B,hM gf 3 fV (bZ7 p.funcs)::hM gv 0 evI vis3::rw⟩,aR rfl (aF rfl),aA (.cons _ (.cons _ (.refl _))) (.refl _),none,vis3,bZ7 p.funcs,hst3.symm,rfl,rfl,fun _=>⟨rfl,hfk3⟩⟩
end
end Go.Proofs.YtojinfngbbajgaaGreatDoor
