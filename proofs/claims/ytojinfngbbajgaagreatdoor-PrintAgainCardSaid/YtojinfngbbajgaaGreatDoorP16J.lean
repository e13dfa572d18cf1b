import Derived.Test.YtojinfngbbajgaaGreatDoorP5J
import Derived.Test.YtojinfngbbajgaaGreatDoorP15J
set_option linter.all false
set_option synthInstance.maxHeartbeats 1000000
set_option synthInstance.maxSize 1000000
set_option maxHeartbeats 1600000
set_option maxRecDepth 100000
namespace Go.Proofs.YtojinfngbbajgaaGreatDoor
open Go.Proofs.Tryz
open List (length_append length_cons length_nil mem_append mem_cons not_mem_nil append_assoc getElem_mem take_of_length_le)
section
open Go.RowKit
theorem tP{tabs:List UInt8}{s:aJ}(h:s.kind=1):bY tabs s=tabs++([118,97,114,32]++s.name.data.toList++[32,61,32]++aP s.expr++[59])++[10]:=by
 obtain ⟨kind,name,e,r,args,t,el⟩:=s
 obtain rfl:kind=1:=h
 rw [bY];rfl
theorem tT{tabs:List UInt8}{s:aJ}(h:s.kind=2):bY tabs s=tabs++(s.name.data.toList++[32,61,32]++aP s.expr++[59])++[10]:=by
 obtain ⟨kind,name,e,r,args,t,el⟩:=s
 obtain rfl:kind=2:=h
 rw [bY];rfl
theorem tZ{tabs:List UInt8}{s:aJ}(h:s.kind=3):bY tabs s=tabs++(s.name.data.toList++dF s.args++[59])++[10]:=by
 obtain ⟨kind,name,e,r,args,t,el⟩:=s
 obtain rfl:kind=3:=h
 rw [bY];rfl
theorem tH{tabs:List UInt8}{s:aJ}(h:s.kind=4):bY tabs s=tabs++([103,111,32]++s.name.data.toList++dF s.args++[59])++[10]:=by
 obtain ⟨kind,name,e,r,args,t,el⟩:=s
 obtain rfl:kind=4:=h
 rw [bY];rfl
theorem uD{tabs:List UInt8}{s:aJ}(h:s.kind=5):bY tabs s=tabs++([108,111,99,107,32]++dC s.ref++[59])++[10]:=by
 obtain ⟨kind,name,e,r,args,t,el⟩:=s
 obtain rfl:kind=5:=h
 rw [bY];rfl
theorem tI{tabs:List UInt8}{s:aJ}(h:s.kind=6):bY tabs s=tabs++([117,110,108,111,99,107,32]++dC s.ref++[59])++[10]:=by
 obtain ⟨kind,name,e,r,args,t,el⟩:=s
 obtain rfl:kind=6:=h
 rw [bY];rfl
theorem pU{tabs:List UInt8}{s:aJ}(h:s.kind=7):bY tabs s=tabs++([105,102,32]++aP s.expr++[32,123,10]++aC (tabs++[9]) s.thn++tabs++[125]++(if s.els.length=0 then [] else [32,101,108,115,101,32,123,10]++aC (tabs++[9]) s.els++tabs++[125]))++[10]:=by
 obtain ⟨kind,name,e,r,args,t,el⟩:=s
 obtain rfl:kind=7:=h
 rw [bY];rfl
theorem pV{tabs:List UInt8}{s:aJ}(h:s.kind=8):bY tabs s=tabs++([119,104,105,108,101,32]++aP s.expr++[32,123,10]++aC (tabs++[9]) s.thn++tabs++[125]++(if s.els.length=0 then [] else [32,101,108,115,101,32,123,10]++aC (tabs++[9]) s.els++tabs++[125]))++[10]:=by
 obtain ⟨kind,name,e,r,args,t,el⟩:=s
 obtain rfl:kind=8:=h
 rw [bY];rfl
theorem uB{tabs:List UInt8}{s:aJ}(h:¬s.kind=1 /\ ¬s.kind=2 /\ ¬s.kind=3 /\ ¬s.kind=4 /\ ¬s.kind=5 /\ ¬s.kind=6 /\ ¬s.kind=7 /\ ¬s.kind=8):bY tabs s=tabs++[114,101,116,117,114,110,59]++[10]:=by
 obtain ⟨kind,name,e,r,args,t,el⟩:=s
 obtain ⟨h1,h2,h3,h4,h5,h6,h7,h8⟩:=h
 simp only [aJ.kind] at h1 h2 h3 h4 h5 h6 h7 h8
 rw [bY,if_neg h1,if_neg h2,if_neg h3,if_neg h4,if_neg h5,if_neg h6,if_neg (fun h=>h.elim h7 h8)]
theorem dX(tabs:List UInt8)(l:List aJ)(k:Nat)(hk:k<l.length):aC tabs (l.take (k+1))=aC tabs (l.take k)++bY tabs l[k]:=by
 rw [List.take_succ_eq_append_getElem hk,oX,aC,aC,List.append_nil]
theorem nQ(tabs:List UInt8):∀(l:List aJ)(k:Nat),(aC tabs (l.take k)).length <= (aC tabs l).length
 |[],k=>by simp
 |s::l,0=>by rw [List.take_zero,aC];simp
 |s::l,k+1=>by have:=nQ tabs l k;rw [List.take_succ_cons,aC,aC,length_append,length_append];omega
theorem aL7(tabs:List UInt8)(l:List aJ)(k:Nat)(hk:k<l.length):(bY tabs l[k]).length <= (aC tabs l).length:=by
 have h1:=nQ tabs l (k+1)
 rw [dX tabs l k hk,length_append] at h1;omega
structure OkS (D:Nat) (s:aJ):Prop where
 name:s.name.data.toList.length <= 4611686018427387904
 expr:(s.kind=1∨s.kind=2∨s.kind=7∨s.kind=8) -> eO s.expr=true
 ref:(s.kind=5∨s.kind=6) -> okRefB s.ref=true
 args:∀a,a∈s.args -> fY a=true
 thn:(s.kind=7∨s.kind=8) -> bM (D+1) s.thn=true
 els:s.els.length=0∨bM (D+1) s.els=true
 saneE:s.expr.sane
 saneR:s.ref.sane
 saneA:∀a,a∈s.args -> a.sane
 saneT:gC s.thn
 saneF:gC s.els
theorem qA(D:Nat):∀(l:List aJ),bM D l=true -> ∀s,s∈l -> bK9 D s=true
 |[],_,s,h=>by cases h
 |x::l,h,s,hs=>by
  rw [bM,Bool.and_eq_true] at h
  rcases mem_cons.1 hs with rfl|hs
  ·exact h.1
  exact qA D l h.2 s hs
theorem aHv{D:Nat}{s:aJ}(hs:s.sane)(h:bK9 D s=true):OkS D s:=by
 obtain ⟨k,n,e,r,args,t,el⟩:=s
 rw [aJ.sane] at hs
 rw [bK9] at h
 obtain ⟨hn,he,hr,ha,ht,hel⟩:=hs
 simp only [Bool.and_eq_true,Bool.or_eq_true,decide_eq_true_eq] at h
 obtain ⟨⟨⟨⟨⟨⟨⟨h1,h2⟩,h3⟩,h4⟩,h5⟩,h6⟩,h7⟩,h8⟩:=h
 exact ⟨hn,fun hp=>by
  have hp:k=1∨k=2∨k=7∨k=8:=hp
  rw [if_pos hp] at h3;exact kR h3,fun hp=>by
  have hp:k=5∨k=6:=hp
  rwa [if_pos hp] at h4,List.all_eq_true.1 h6,fun hp=>by
  have hp:k=7∨k=8:=hp
  rwa [if_pos hp] at h7,h8.imp id (fun h=>h.2),he,hr,ha,ht,hel⟩
theorem aAm(D:Nat)(l:List aJ)(tabs:List UInt8)(hok:bM D l=true)(hs:gC l)(hw:wtS l <= 900000000)(ht:tabs.length <= 1000)(hL:(aC tabs l).length <= 1000000000000000)(ih1:∀k (h:k<l.length),bM (D+1) l[k].thn=true -> (aC (tabs++[9]) l[k].thn).length <= 1000000000000000 -> ∀s:Sto,aL prog 93 [.c (.sl l[k].thn.length (l[k].thn.flatMap encS)),.c (.val (.string (bytes (tabs++[9]))))] [] s fun t s'=>t=.c (.val (.string (bytes (aC (tabs++[9]) l[k].thn)))) /\ s'=s)(ih2:∀k (h:k<l.length),bM (D+1) l[k].els=true -> (aC (tabs++[9]) l[k].els).length <= 1000000000000000 -> ∀s:Sto,aL prog 93 [.c (.sl l[k].els.length (l[k].els.flatMap encS)),.c (.val (.string (bytes (tabs++[9]))))] [] s fun t s'=>t=.c (.val (.string (bytes (aC (tabs++[9]) l[k].els)))) /\ s'=s)(s:Sto):aL prog 93 [.c (.sl l.length (l.flatMap encS)),.c (.val (.string (bytes tabs)))] [] s fun t s'=>t=.c (.val (.string (bytes (aC tabs l)))) /\ s'=s:=by
 obtain ⟨bx,rw⟩:=s
 have hll:=uZ l
 have hnil:aC tabs []=[]:=by rw [aC]
 refine acB func93 rfl ?_
 show AWp prog _ ⟨133,_,⟨bx,rw⟩,[(0,.c (.sl l.length (l.flatMap encS))),(1,.c (.val (.string (bytes tabs))))]⟩ _
 refine go 17 ?_
 refine oC (l.length) 6 (fun k=>[(5,.c (.val (.string (bytes (aC tabs (l.take (k))))))),(0,.c (.sl l.length (l.flatMap encS))),(1,.c (.val (.string (bytes tabs))))]) (sA rfl) fun k hk=>?_
 show AWp prog _ ⟨133,_,_,(6,nI k)::[(5,.c (.val (.string (bytes (aC tabs (l.take (k))))))),(0,.c (.sl l.length (l.flatMap encS))),(1,.c (.val (.string (bytes tabs))))]⟩ _
 have hmo:=nQ tabs l k
 refine go 6 ?_
 by_cases h1:((k:Nat):Int)<((l.length:Nat):Int)
 ·refine wcp true rfl (jZ h1) (go 9 ?_)
  have hlt:k<l.length:=by omega
  have ok:=aHv (oS _ hs _ (getElem_mem hlt)) (qA D l hok _ (getElem_mem hlt))
  have hwk:=uF l k hlt
  rw [gD] at hwk
  unfold cY.wt at hwk
  have hsl:=aL7 tabs l k hlt
  have hnm:=ok.name
  refine go 2 ?_
  refine wyz rfl (bH encS dG l mE cJ k rfl rfl rfl rfl (by omega) (by decide) runUnderlying56 sizeOf78) (go 9 fun b1=>?_)
  refine wyz rfl (cz (aC tabs (l.take (k))) tabs rfl rfl rfl rfl rfl) (go 13 ?_)
  by_cases h3:l[k].kind=1
  ·refine wcp true rfl (eR h3) (go 4 ?_)
   refine dx [b1] ?_
   have hq:=hsl
   rw [tP h3] at hq
   simp only [length_append] at hq
   refine tz [(0,true)] 11 (go 2 ?_)
   refine tx 1 rfl (cz ((aC tabs (l.take (k)))++tabs) [118,97,114,32] rfl rfl rfl rfl rfl) (tz [(2,true),(3,true)] 8 (go 3 ?_))
   refine tx 4 rfl (cz (((aC tabs (l.take (k)))++tabs)++[118,97,114,32]) l[k].name.data.toList rfl rfl rfl rfl (back _)) ?_
   refine tx 5 rfl (cz ((((aC tabs (l.take (k)))++tabs)++[118,97,114,32])++l[k].name.data.toList) [32,61,32] rfl rfl rfl rfl rfl) (tz [(6,true),(7,true)] 4 (go 3 ?_))
   refine ox 8 rfl rfl (bV rfl rfl (by decide) call133 rfl (rR _ l[k].expr (Nat.le_refl _) (by omega) ok.saneE (ok.expr (by omega)) (by omega) _) ?_)
   rintro _ _ ⟨rfl,rfl⟩
   refine tx 9 rfl (cz (((((aC tabs (l.take (k)))++tabs)++[118,97,114,32])++l[k].name.data.toList)++[32,61,32]) (aP l[k].expr) rfl rfl rfl rfl rfl) ?_
   refine tx 10 rfl (cz ((((((aC tabs (l.take (k)))++tabs)++[118,97,114,32])++l[k].name.data.toList)++[32,61,32])++(aP l[k].expr)) [59] rfl rfl rfl rfl rfl) (tz [(11,true)] 0 (go 2 ?_))
   refine ax (go 4 ?_)
   refine wyz rfl (cz (((((((aC tabs (l.take (k)))++tabs)++[118,97,114,32])++l[k].name.data.toList)++[32,61,32])++(aP l[k].expr))++[59]) [10] rfl rfl rfl rfl rfl) (go 6 ?_)
   refine wad rfl (go 2 ?_)
   exact ⟨by omega,cA (.cons _ (.refl _)) (.refl _) (fun b hb=>List.mem_cons_of_mem _ (hb)) (aG rfl (gQ (by omega)) (aG rfl (jX (by rw [dX tabs l k (by omega),tP h3];simp only [append_assoc,List.append_nil,List.nil_append,List.cons_append])) (sA rfl)))⟩
  refine wcp false rfl (eD h3) (go 6 ?_)
  by_cases h7:l[k].kind=2
  ·refine wcp true rfl (eR h7) (go 4 ?_)
   refine dx [b1] ?_
   have hq:=hsl
   rw [tT h7] at hq
   simp only [length_append] at hq
   refine tz [(0,true),(1,true),(2,true)] 8 (go 4 ?_)
   refine tx 3 rfl (cz ((aC tabs (l.take (k)))++tabs) l[k].name.data.toList rfl rfl rfl rfl (back _)) ?_
   refine tx 4 rfl (cz (((aC tabs (l.take (k)))++tabs)++l[k].name.data.toList) [32,61,32] rfl rfl rfl rfl rfl) (tz [(5,true),(6,true)] 4 (go 3 ?_))
   refine ox 7 rfl rfl (bV rfl rfl (by decide) call133 rfl (rR _ l[k].expr (Nat.le_refl _) (by omega) ok.saneE (ok.expr (by omega)) (by omega) _) ?_)
   rintro _ _ ⟨rfl,rfl⟩
   refine tx 8 rfl (cz ((((aC tabs (l.take (k)))++tabs)++l[k].name.data.toList)++[32,61,32]) (aP l[k].expr) rfl rfl rfl rfl rfl) ?_
   refine tx 9 rfl (cz (((((aC tabs (l.take (k)))++tabs)++l[k].name.data.toList)++[32,61,32])++(aP l[k].expr)) [59] rfl rfl rfl rfl rfl) (tz [(10,true)] 0 (go 2 ?_))
   refine ax (go 4 ?_)
   refine wyz rfl (cz ((((((aC tabs (l.take (k)))++tabs)++l[k].name.data.toList)++[32,61,32])++(aP l[k].expr))++[59]) [10] rfl rfl rfl rfl rfl) (go 6 ?_)
   refine wad rfl (go 2 ?_)
   exact ⟨by omega,cA (.cons _ (.refl _)) (.refl _) (fun b hb=>List.mem_cons_of_mem _ (hb)) (aG rfl (gQ (by omega)) (aG rfl (jX (by rw [dX tabs l k (by omega),tT h7];simp only [append_assoc,List.append_nil,List.nil_append,List.cons_append])) (sA rfl)))⟩
  refine wcp false rfl (eD h7) (go 6 ?_)
  by_cases h11:l[k].kind=3
  ·refine wcp true rfl (eR h11) (go 4 ?_)
   refine dx [b1] ?_
   have hq:=hsl
   rw [tZ h11] at hq
   simp only [length_append] at hq
   refine tz [(0,true),(1,true),(2,true)] 7 (go 4 ?_)
   refine tx 3 rfl (cz ((aC tabs (l.take (k)))++tabs) l[k].name.data.toList rfl rfl rfl rfl (back _)) (tz [(4,true),(5,true)] 4 (go 3 ?_))
   refine ox 6 rfl rfl (bV rfl rfl (by decide) call134 rfl (zL l[k].args ok.args ok.saneA (by omega) (by omega) _) ?_)
   rintro _ _ ⟨rfl,rfl⟩
   refine tx 7 rfl (cz (((aC tabs (l.take (k)))++tabs)++l[k].name.data.toList) (dF l[k].args) rfl rfl rfl rfl rfl) ?_
   refine tx 8 rfl (cz ((((aC tabs (l.take (k)))++tabs)++l[k].name.data.toList)++(dF l[k].args)) [59] rfl rfl rfl rfl rfl) (tz [(9,true)] 0 (go 2 ?_))
   refine ax (go 4 ?_)
   refine wyz rfl (cz (((((aC tabs (l.take (k)))++tabs)++l[k].name.data.toList)++(dF l[k].args))++[59]) [10] rfl rfl rfl rfl rfl) (go 6 ?_)
   refine wad rfl (go 2 ?_)
   exact ⟨by omega,cA (.cons _ (.refl _)) (.refl _) (fun b hb=>List.mem_cons_of_mem _ (hb)) (aG rfl (gQ (by omega)) (aG rfl (jX (by rw [dX tabs l k (by omega),tZ h11];simp only [append_assoc,List.append_nil,List.nil_append,List.cons_append])) (sA rfl)))⟩
  refine wcp false rfl (eD h11) (go 6 ?_)
  by_cases h15:l[k].kind=4
  ·refine wcp true rfl (eR h15) (go 4 ?_)
   refine dx [b1] ?_
   have hq:=hsl
   rw [tH h15] at hq
   simp only [length_append] at hq
   refine tz [(0,true)] 10 (go 2 ?_)
   refine tx 1 rfl (cz ((aC tabs (l.take (k)))++tabs) [103,111,32] rfl rfl rfl rfl rfl) (tz [(2,true),(3,true)] 7 (go 3 ?_))
   refine tx 4 rfl (cz (((aC tabs (l.take (k)))++tabs)++[103,111,32]) l[k].name.data.toList rfl rfl rfl rfl (back _)) (tz [(5,true),(6,true)] 4 (go 3 ?_))
   refine ox 7 rfl rfl (bV rfl rfl (by decide) call134 rfl (zL l[k].args ok.args ok.saneA (by omega) (by omega) _) ?_)
   rintro _ _ ⟨rfl,rfl⟩
   refine tx 8 rfl (cz ((((aC tabs (l.take (k)))++tabs)++[103,111,32])++l[k].name.data.toList) (dF l[k].args) rfl rfl rfl rfl rfl) ?_
   refine tx 9 rfl (cz (((((aC tabs (l.take (k)))++tabs)++[103,111,32])++l[k].name.data.toList)++(dF l[k].args)) [59] rfl rfl rfl rfl rfl) (tz [(10,true)] 0 (go 2 ?_))
   refine ax (go 4 ?_)
   refine wyz rfl (cz ((((((aC tabs (l.take (k)))++tabs)++[103,111,32])++l[k].name.data.toList)++(dF l[k].args))++[59]) [10] rfl rfl rfl rfl rfl) (go 6 ?_)
   refine wad rfl (go 2 ?_)
   exact ⟨by omega,cA (.cons _ (.refl _)) (.refl _) (fun b hb=>List.mem_cons_of_mem _ (hb)) (aG rfl (gQ (by omega)) (aG rfl (jX (by rw [dX tabs l k (by omega),tH h15];simp only [append_assoc,List.append_nil,List.nil_append,List.cons_append])) (sA rfl)))⟩
  refine wcp false rfl (eD h15) (go 6 ?_)
  by_cases h19:l[k].kind=5
  ·refine wcp true rfl (eR h19) (go 5 ?_)
   have hq:=hsl
   rw [uD h19] at hq
   simp only [length_append] at hq
   refine go 1 ?_
   refine wyz rfl (cz ((aC tabs (l.take (k)))++tabs) [108,111,99,107,32] rfl rfl rfl rfl rfl) (go 2 ?_)
   refine wc0 rfl call135 rfl (sP l[k].ref (ok.ref (by omega)) ok.saneR (by omega) (by omega) _) ?_
   rintro _ _ ⟨rfl,rfl⟩
   refine wyz rfl (cz (((aC tabs (l.take (k)))++tabs)++[108,111,99,107,32]) (dC l[k].ref) rfl rfl rfl rfl rfl) ?_
   refine wyz rfl (cz ((((aC tabs (l.take (k)))++tabs)++[108,111,99,107,32])++(dC l[k].ref)) [59] rfl rfl rfl rfl rfl) (go 6 ?_)
   refine wyz rfl (cz (((((aC tabs (l.take (k)))++tabs)++[108,111,99,107,32])++(dC l[k].ref))++[59]) [10] rfl rfl rfl rfl rfl) (go 6 ?_)
   refine wad rfl (go 2 ?_)
   exact ⟨by omega,cA (.cons _ (.refl _)) (.refl _) (fun b hb=>List.mem_cons_of_mem _ (hb)) (aG rfl (gQ (by omega)) (aG rfl (jX (by rw [dX tabs l k (by omega),uD h19];simp only [append_assoc,List.append_nil,List.nil_append,List.cons_append])) (sA rfl)))⟩
  refine wcp false rfl (eD h19) (go 6 ?_)
  by_cases h23:l[k].kind=6
  ·refine wcp true rfl (eR h23) (go 5 ?_)
   have hq:=hsl
   rw [tI h23] at hq
   simp only [length_append] at hq
   refine go 1 ?_
   refine wyz rfl (cz ((aC tabs (l.take (k)))++tabs) [117,110,108,111,99,107,32] rfl rfl rfl rfl rfl) (go 2 ?_)
   refine wc0 rfl call135 rfl (sP l[k].ref (ok.ref (by omega)) ok.saneR (by omega) (by omega) _) ?_
   rintro _ _ ⟨rfl,rfl⟩
   refine wyz rfl (cz (((aC tabs (l.take (k)))++tabs)++[117,110,108,111,99,107,32]) (dC l[k].ref) rfl rfl rfl rfl rfl) ?_
   refine wyz rfl (cz ((((aC tabs (l.take (k)))++tabs)++[117,110,108,111,99,107,32])++(dC l[k].ref)) [59] rfl rfl rfl rfl rfl) (go 6 ?_)
   refine wyz rfl (cz (((((aC tabs (l.take (k)))++tabs)++[117,110,108,111,99,107,32])++(dC l[k].ref))++[59]) [10] rfl rfl rfl rfl rfl) (go 6 ?_)
   refine wad rfl (go 2 ?_)
   exact ⟨by omega,cA (.cons _ (.refl _)) (.refl _) (fun b hb=>List.mem_cons_of_mem _ (hb)) (aG rfl (gQ (by omega)) (aG rfl (jX (by rw [dX tabs l k (by omega),tI h23];simp only [append_assoc,List.append_nil,List.nil_append,List.cons_append])) (sA rfl)))⟩
  refine wcp false rfl (eD h23) (go 7 ?_)
  by_cases h27:l[k].kind=7
  ·refine wcp true rfl (eR h27) (go 17 ?_)
   refine wcp false rfl (eD (by omega)) (go 6 ?_)
   refine dx [b1] ?_
   have hq:=hsl
   rw [pU h27] at hq
   simp only [length_append] at hq
   refine tz [(0,true),(1,true)] 16 (go 3 ?_)
   refine tx 2 rfl (cz ((aC tabs (l.take (k)))++tabs) [105,102,32] rfl rfl rfl rfl rfl) (tz [(3,true),(4,true),(8,true),(9,true),(10,true)] 10 (go 6 ?_))
   refine tx 11 rfl (cz tabs [9] rfl rfl rfl rfl rfl) (tz [(14,true)] 8 (go 2 ?_))
   refine ox 5 rfl rfl (bV rfl rfl (by decide) call133 rfl (rR _ l[k].expr (Nat.le_refl _) (by omega) ok.saneE (ok.expr (by omega)) (by omega) _) ?_)
   rintro _ _ ⟨rfl,rfl⟩
   refine tx 6 rfl (cz (((aC tabs (l.take (k)))++tabs)++[105,102,32]) (aP l[k].expr) rfl rfl rfl rfl rfl) ?_
   refine tx 7 rfl (cz ((((aC tabs (l.take (k)))++tabs)++[105,102,32])++(aP l[k].expr)) [32,123,10] rfl rfl rfl rfl rfl) ?_
   refine ox 12 rfl rfl (bV rfl rfl (by decide) call93 rfl (ih1 k (by omega) (ok.thn (by omega)) (by omega) _) ?_)
   rintro _ _ ⟨rfl,rfl⟩
   refine tx 13 rfl (cz (((((aC tabs (l.take (k)))++tabs)++[105,102,32])++(aP l[k].expr))++[32,123,10]) (aC (tabs++[9]) l[k].thn) rfl rfl rfl rfl rfl) ?_
   refine tx 15 rfl (cz ((((((aC tabs (l.take (k)))++tabs)++[105,102,32])++(aP l[k].expr))++[32,123,10])++(aC (tabs++[9]) l[k].thn)) tabs rfl rfl rfl rfl rfl) ?_
   refine tx 16 rfl (cz (((((((aC tabs (l.take (k)))++tabs)++[105,102,32])++(aP l[k].expr))++[32,123,10])++(aC (tabs++[9]) l[k].thn))++tabs) [125] rfl rfl rfl rfl rfl) (tz [(17,true)] 0 (go 2 ?_))
   refine ax (go 6 ?_)
   by_cases h33:(0:Int)<((l[k].els.length:Nat):Int)
   ·refine wcp true rfl (mH h33) (go 4 ?_)
    rw [if_neg (by omega)] at hq
    simp only [length_append] at hq
    refine go 1 ?_
    refine wyz rfl (cz ((((((((aC tabs (l.take (k)))++tabs)++[105,102,32])++(aP l[k].expr))++[32,123,10])++(aC (tabs++[9]) l[k].thn))++tabs)++[125]) [32,101,108,115,101,32,123,10] rfl rfl rfl rfl rfl) (go 3 ?_)
    refine wyz rfl (cz tabs [9] rfl rfl rfl rfl rfl) ?_
    refine wc0 rfl call93 rfl (ih2 k (by omega) (ok.els.resolve_left (by omega)) (by omega) _) ?_
    rintro _ _ ⟨rfl,rfl⟩
    refine wyz rfl (cz (((((((((aC tabs (l.take (k)))++tabs)++[105,102,32])++(aP l[k].expr))++[32,123,10])++(aC (tabs++[9]) l[k].thn))++tabs)++[125])++[32,101,108,115,101,32,123,10]) (aC (tabs++[9]) l[k].els) rfl rfl rfl rfl rfl) (go 1 ?_)
    refine wyz rfl (cz ((((((((((aC tabs (l.take (k)))++tabs)++[105,102,32])++(aP l[k].expr))++[32,123,10])++(aC (tabs++[9]) l[k].thn))++tabs)++[125])++[32,101,108,115,101,32,123,10])++(aC (tabs++[9]) l[k].els)) tabs rfl rfl rfl rfl rfl) ?_
    refine wyz rfl (cz (((((((((((aC tabs (l.take (k)))++tabs)++[105,102,32])++(aP l[k].expr))++[32,123,10])++(aC (tabs++[9]) l[k].thn))++tabs)++[125])++[32,101,108,115,101,32,123,10])++(aC (tabs++[9]) l[k].els))++tabs) [125] rfl rfl rfl rfl rfl) (go 6 ?_)
    refine wyz rfl (cz ((((((((((((aC tabs (l.take (k)))++tabs)++[105,102,32])++(aP l[k].expr))++[32,123,10])++(aC (tabs++[9]) l[k].thn))++tabs)++[125])++[32,101,108,115,101,32,123,10])++(aC (tabs++[9]) l[k].els))++tabs)++[125]) [10] rfl rfl rfl rfl rfl) (go 6 ?_)
    refine wad rfl (go 2 ?_)
    exact ⟨by omega,cA (.cons _ (.refl _)) (.refl _) (fun b hb=>List.mem_cons_of_mem _ (hb)) (aG rfl (gQ (by omega)) (aG rfl (jX (by rw [dX tabs l k (by omega),pU h27,if_neg (by omega)];simp only [append_assoc,List.append_nil,List.nil_append,List.cons_append])) (sA rfl)))⟩
   refine wcp false rfl (mI h33) (go 8 ?_)
   refine wyz rfl (cz ((((((((aC tabs (l.take (k)))++tabs)++[105,102,32])++(aP l[k].expr))++[32,123,10])++(aC (tabs++[9]) l[k].thn))++tabs)++[125]) [10] rfl rfl rfl rfl rfl) (go 6 ?_)
   refine wad rfl (go 2 ?_)
   exact ⟨by omega,cA (.cons _ (.refl _)) (.refl _) (fun b hb=>List.mem_cons_of_mem _ (hb)) (aG rfl (gQ (by omega)) (aG rfl (jX (by rw [dX tabs l k (by omega),pU h27,if_pos (by omega)];simp only [append_assoc,List.append_nil,List.nil_append,List.cons_append])) (sA rfl)))⟩
  refine wcp false rfl (eD h27) (go 5 ?_)
  by_cases h38:l[k].kind=8
  ·refine wcp true rfl (eR h38) (go 14 ?_)
   refine wcp true rfl (eR h38) (go 8 ?_)
   refine dx [b1] ?_
   have hq:=hsl
   rw [pV h38] at hq
   simp only [length_append] at hq
   refine tz [(0,true),(1,true)] 16 (go 3 ?_)
   refine tx 2 rfl (cz ((aC tabs (l.take (k)))++tabs) [119,104,105,108,101,32] rfl rfl rfl rfl rfl) (tz [(3,true),(4,true),(8,true),(9,true),(10,true)] 10 (go 6 ?_))
   refine tx 11 rfl (cz tabs [9] rfl rfl rfl rfl rfl) (tz [(14,true)] 8 (go 2 ?_))
   refine ox 5 rfl rfl (bV rfl rfl (by decide) call133 rfl (rR _ l[k].expr (Nat.le_refl _) (by omega) ok.saneE (ok.expr (by omega)) (by omega) _) ?_)
   rintro _ _ ⟨rfl,rfl⟩
   refine tx 6 rfl (cz (((aC tabs (l.take (k)))++tabs)++[119,104,105,108,101,32]) (aP l[k].expr) rfl rfl rfl rfl rfl) ?_
   refine tx 7 rfl (cz ((((aC tabs (l.take (k)))++tabs)++[119,104,105,108,101,32])++(aP l[k].expr)) [32,123,10] rfl rfl rfl rfl rfl) ?_
   refine ox 12 rfl rfl (bV rfl rfl (by decide) call93 rfl (ih1 k (by omega) (ok.thn (by omega)) (by omega) _) ?_)
   rintro _ _ ⟨rfl,rfl⟩
   refine tx 13 rfl (cz (((((aC tabs (l.take (k)))++tabs)++[119,104,105,108,101,32])++(aP l[k].expr))++[32,123,10]) (aC (tabs++[9]) l[k].thn) rfl rfl rfl rfl rfl) ?_
   refine tx 15 rfl (cz ((((((aC tabs (l.take (k)))++tabs)++[119,104,105,108,101,32])++(aP l[k].expr))++[32,123,10])++(aC (tabs++[9]) l[k].thn)) tabs rfl rfl rfl rfl rfl) ?_
   refine tx 16 rfl (cz (((((((aC tabs (l.take (k)))++tabs)++[119,104,105,108,101,32])++(aP l[k].expr))++[32,123,10])++(aC (tabs++[9]) l[k].thn))++tabs) [125] rfl rfl rfl rfl rfl) (tz [(17,true)] 0 (go 2 ?_))
   refine ax (go 6 ?_)
   by_cases h43:(0:Int)<((l[k].els.length:Nat):Int)
   ·refine wcp true rfl (mH h43) (go 4 ?_)
    rw [if_neg (by omega)] at hq
    simp only [length_append] at hq
    refine go 1 ?_
    refine wyz rfl (cz ((((((((aC tabs (l.take (k)))++tabs)++[119,104,105,108,101,32])++(aP l[k].expr))++[32,123,10])++(aC (tabs++[9]) l[k].thn))++tabs)++[125]) [32,101,108,115,101,32,123,10] rfl rfl rfl rfl rfl) (go 3 ?_)
    refine wyz rfl (cz tabs [9] rfl rfl rfl rfl rfl) ?_
    refine wc0 rfl call93 rfl (ih2 k (by omega) (ok.els.resolve_left (by omega)) (by omega) _) ?_
    rintro _ _ ⟨rfl,rfl⟩
    refine wyz rfl (cz (((((((((aC tabs (l.take (k)))++tabs)++[119,104,105,108,101,32])++(aP l[k].expr))++[32,123,10])++(aC (tabs++[9]) l[k].thn))++tabs)++[125])++[32,101,108,115,101,32,123,10]) (aC (tabs++[9]) l[k].els) rfl rfl rfl rfl rfl) (go 1 ?_)
    refine wyz rfl (cz ((((((((((aC tabs (l.take (k)))++tabs)++[119,104,105,108,101,32])++(aP l[k].expr))++[32,123,10])++(aC (tabs++[9]) l[k].thn))++tabs)++[125])++[32,101,108,115,101,32,123,10])++(aC (tabs++[9]) l[k].els)) tabs rfl rfl rfl rfl rfl) ?_
    refine wyz rfl (cz (((((((((((aC tabs (l.take (k)))++tabs)++[119,104,105,108,101,32])++(aP l[k].expr))++[32,123,10])++(aC (tabs++[9]) l[k].thn))++tabs)++[125])++[32,101,108,115,101,32,123,10])++(aC (tabs++[9]) l[k].els))++tabs) [125] rfl rfl rfl rfl rfl) (go 6 ?_)
    refine wyz rfl (cz ((((((((((((aC tabs (l.take (k)))++tabs)++[119,104,105,108,101,32])++(aP l[k].expr))++[32,123,10])++(aC (tabs++[9]) l[k].thn))++tabs)++[125])++[32,101,108,115,101,32,123,10])++(aC (tabs++[9]) l[k].els))++tabs)++[125]) [10] rfl rfl rfl rfl rfl) (go 6 ?_)
    refine wad rfl (go 2 ?_)
    exact ⟨by omega,cA (.cons _ (.refl _)) (.refl _) (fun b hb=>List.mem_cons_of_mem _ (hb)) (aG rfl (gQ (by omega)) (aG rfl (jX (by rw [dX tabs l k (by omega),pV h38,if_neg (by omega)];simp only [append_assoc,List.append_nil,List.nil_append,List.cons_append])) (sA rfl)))⟩
   refine wcp false rfl (mI h43) (go 8 ?_)
   refine wyz rfl (cz ((((((((aC tabs (l.take (k)))++tabs)++[119,104,105,108,101,32])++(aP l[k].expr))++[32,123,10])++(aC (tabs++[9]) l[k].thn))++tabs)++[125]) [10] rfl rfl rfl rfl rfl) (go 6 ?_)
   refine wad rfl (go 2 ?_)
   exact ⟨by omega,cA (.cons _ (.refl _)) (.refl _) (fun b hb=>List.mem_cons_of_mem _ (hb)) (aG rfl (gQ (by omega)) (aG rfl (jX (by rw [dX tabs l k (by omega),pV h38,if_pos (by omega)];simp only [append_assoc,List.append_nil,List.nil_append,List.cons_append])) (sA rfl)))⟩
  refine wcp false rfl (eD h38) (go 5 ?_)
  have hq:=hsl
  rw [uB ⟨h3,h7,h11,h15,h19,h23,h27,h38⟩] at hq
  simp only [length_append] at hq
  refine go 1 ?_
  refine wyz rfl (cz ((aC tabs (l.take (k)))++tabs) [114,101,116,117,114,110,59] rfl rfl rfl rfl rfl) (go 6 ?_)
  refine wyz rfl (cz (((aC tabs (l.take (k)))++tabs)++[114,101,116,117,114,110,59]) [10] rfl rfl rfl rfl rfl) (go 6 ?_)
  refine wad rfl (go 2 ?_)
  exact ⟨by omega,cA (.cons _ (.refl _)) (.refl _) (fun b hb=>List.mem_cons_of_mem _ (hb)) (aG rfl (gQ (by omega)) (aG rfl (jX (by rw [dX tabs l k (by omega),uB ⟨h3,h7,h11,h15,h19,h23,h27,h38⟩];simp only [append_assoc,List.append_nil,List.nil_append,List.cons_append])) (sA rfl)))⟩
 refine wcp false rfl (jQ h1) (go 15 ?_)
 exact bHe (s':=⟨bx,rw⟩) rfl sb0 ⟨oW (by rw [take_of_length_le (by omega)]),rfl⟩
theorem aDp:∀(N:Nat)(D:Nat)(l:List aJ)(tabs:List UInt8),wtS l <= N -> N <= 900000000 -> bM D l=true -> gC l -> tabs.length <= D+1 -> (aC tabs l).length <= 1000000000000000 -> ∀s:Sto,aL prog 93 [.c (.sl l.length (l.flatMap encS)),.c (.val (.string (bytes tabs)))] [] s fun t s'=>t=.c (.val (.string (bytes (aC tabs l)))) /\ s'=s
 |0,D,l,tabs,hw,hN,hok,hs,ht,hL,s=>by
  have hD:=iL D l hok
  have h0:=uZ l
  exact aAm D l tabs hok hs (by omega) (by omega) hL (fun k hk=>by omega) (fun k hk=>by omega) s
 |N+1,D,l,tabs,hw,hN,hok,hs,ht,hL,s=>by
  have hD:=iL D l hok
  have hp:∀k (hk:k<l.length),wtS l[k].thn <= N /\ wtS l[k].els <= N /\ OkS D l[k]:=fun k hk=>by
   have h3:=uF l k hk
   rw [gD] at h3
   exact ⟨by omega,by omega,aHv (oS _ hs _ (getElem_mem hk)) (qA D l hok _ (getElem_mem hk))⟩
  exact aAm D l tabs hok hs (by omega) (by omega) hL (fun k hk h1 h2 s=>aDp N (D+1) l[k].thn (tabs++[9]) (hp k hk).1 (by omega) h1 (hp k hk).2.2.saneT (by simp;omega) h2 s)
   (fun k hk h1 h2 s=>aDp N (D+1) l[k].els (tabs++[9]) (hp k hk).2.1 (by omega) h1 (hp k hk).2.2.saneF (by simp;omega) h2 s) s
end
end Go.Proofs.YtojinfngbbajgaaGreatDoor
