import Derived.Test.YtjgeihmhppadaaaGreatDoorRG32J
set_option linter.all false
set_option synthInstance.maxHeartbeats 1000000
set_option synthInstance.maxSize 1000000
set_option maxHeartbeats 8000000
set_option maxRecDepth 100000
namespace Go.Proofs.YtjgeihmhppadaaaGreatDoor
open Go.Proofs.Tryz
open List (length_append length_cons length_nil mem_append mem_cons not_mem_nil append_assoc getElem_mem take_of_length_le)
section
open Go.RowKit
structure ChB (p q:cK):Prop where
 sane:q.sane
 wt:q.wt <= 24*p.wt+20
 funcs:p.funcs.length <= q.funcs.length
 body:∃(k:Nat) (t:List aJ) (h:k<p.funcs.length),q=⟨p.globals,p.mutexes,p.funcs.set k (bTb p.funcs[k] t)⟩ /\ (cZs Nz p.funcs[k].body -> cZs Nz t)
theorem hM(p:cK)(which a how x:Int)(hk5:5 <= which)(hk11:which <= 11)(hs:p.sane)(hw:p.wt <= 300000)(hf:1 <= p.funcs.length)(hx:fit x)(s:Sto):aL prog 15 [.agg (jV p),Ci which,Ci a,Ci how,Ci x] [] s λt s'=>(∃q:cK,t=.agg (jV q) /\ ChB p q) /\ s'=s:=by
 obtain ⟨bx,rw⟩:=s
 have hwp:p.wt=p.globals.length+p.mutexes.length+(p.funcs.map bS.wt).sum:=Y
 have hfn:=aDr bS.wt Cg p.funcs
 refine acX 137 func15 ?_
 refine go 6 λb1 b2=>?_
 refine bUy (λg:Value×Value×Value=>(⟨137,(aY g.1++aY g.2.1++aY g.2.2)++[b1,b2],⟨⟨b2,27,[Nl,Nl,Nl]⟩::⟨b1,27,[.val g.1,.val g.2.1,.val g.2.2]⟩::bx,⟨g.1,63,2,p.globals.length,p.globals.flatMap dB⟩::⟨g.2.1,60,3,p.mutexes.length,p.mutexes.flatMap bT⟩::⟨g.2.2,67,3,p.funcs.length,p.funcs.flatMap fV⟩::rw⟩,[(1,Ci which),(2,Ci a),(3,Ci how),(4,Ci x),(5,pP b1),(10,pP b2)]⟩:AS)) ?_ ?_
 ·refine bTy 13 [b2,b1] [b2] #[true,true,true,true,true,true,true,true,true,true,true,true,true,false,false,false,false,false] B6 B6 B6 ?_
  refine tz [(1,true),(2,true),(5,true),(6,true),(9,true),(10,true)] 7 (go 7 ?_)
  refine three 0 4 8 B6 Y Y Y Y Y Y ?_ ?_ ?_
  focus
   refine (aTr underlying23 sizeOf63 λg3=>?_)
   refine three 3 4 8 B6 Y Y Y Y Y Y ?_ ?_ ?_
   focus
    refine (jU [] Tryz.t63 24 Y Y V Y Y underlying23 B6 Y Y Y Y V (aFz dB 2 (λ_=>Y) p.globals) B1 J (Nat.zero_add p.globals.length) (λhn b hb=>cZl (r:=(⟨(.slice (some ⟨g3,0,none⟩) 0 0),63,2,0,[]⟩:bA)) hn hb) FH (List.nil_append _) λw67=>?_)
    refine tz [(12,true)] 4 (go 2 ?_)
    refine t2 4 8 Y ?_ ?_
    focus
     refine (aTr underlying24 sizeOf60 λg5=>?_)
     refine t2 7 8 Y ?_ ?_
     focus
      refine (jU [] Tryz.t60 32 Y Y V Y Y underlying24 B6 Y Y Y Y V (aFz bT 3 (λ_=>Y) p.mutexes) B1 J (Nat.zero_add p.mutexes.length) (λhn b hb=>cZl (r:=(⟨(.slice (some ⟨g5,0,none⟩) 0 0),60,3,0,[]⟩:bA)) hn hb) FH (List.nil_append _) λw68=>?_)
      refine ox 8 Y Y (aTr underlying25 sizeOf67 λg9=>?_)
     rotate_left
     refine (aTr underlying25 sizeOf67 λg9=>?_)
     refine ox 7 Y Y (jU [_] Tryz.t60 32 Y Y V Y Y underlying24 B6 Y Y Y Y V (aFz bT 3 (λ_=>Y) p.mutexes) B1 J (Nat.zero_add p.mutexes.length) (λhn b hb=>cZl (r:=(⟨(.slice (some ⟨g5,0,none⟩) 0 0),60,3,0,[]⟩:bA)) hn hb) FH (List.nil_append _) λw68=>?_)
     all_goals
      refine ox 11 Y Y (jU [] Tryz.t67 64 Y Y V Y Y underlying25 B6 Y Y Y Y V (aFz fV 3 (λ_=>Y) p.funcs) B1 J (Nat.zero_add p.funcs.length) (λhn b hb=>cZl (r:=(⟨(.slice (some ⟨g9,0,none⟩) 0 0),67,3,0,[]⟩:bA)) hn hb) FH (List.nil_append _) λw69=>?_)
    rotate_left 2
    refine (aTr underlying25 sizeOf67 λg12=>?_)
    refine ox 4 Y Y (aTr underlying24 sizeOf60 λg13=>?_)
    refine ox 7 Y Y (jU [] Tryz.t60 32 Y Y V Y Y underlying24 B6 Y Y Y Y V (aFz bT 3 (λ_=>Y) p.mutexes) B1 J (Nat.zero_add p.mutexes.length) (λhn b hb=>cZl (r:=(⟨(.slice (some ⟨g13,0,none⟩) 0 0),60,3,0,[]⟩:bA)) hn hb) FH (List.nil_append _) λw68=>?_)
    refine ox 11 Y Y (jU [_] Tryz.t67 64 Y Y V Y Y underlying25 B6 Y Y Y Y V (aFz fV 3 (λ_=>Y) p.funcs) B1 J (Nat.zero_add p.funcs.length) (λhn b hb=>cZl (r:=(⟨(.slice (some ⟨g12,0,none⟩) 0 0),67,3,0,[]⟩:bA)) hn hb) FH (List.nil_append _) λw69=>?_)
   rotate_left 3
   focus
    refine (aTr underlying24 sizeOf60 λg16=>?_)
    refine t2 3 8 Y ?_ ?_
    focus
     refine (jU [_] Tryz.t63 24 Y Y V Y Y underlying23 B6 Y Y Y Y V (aFz dB 2 (λ_=>Y) p.globals) B1 J (Nat.zero_add p.globals.length) (λhn b hb=>cZl (r:=(⟨(.slice (some ⟨g3,0,none⟩) 0 0),63,2,0,[]⟩:bA)) hn hb) FH (List.nil_append _) λw67=>?_)
     refine tz [(12,true)] 3 (go 2 ?_)
     refine t2 7 8 Y ?_ ?_
     focus
      refine (jU [] Tryz.t60 32 Y Y V Y Y underlying24 B6 Y Y Y Y V (aFz bT 3 (λ_=>Y) p.mutexes) B1 J (Nat.zero_add p.mutexes.length) (λhn b hb=>cZl (r:=(⟨(.slice (some ⟨g16,0,none⟩) 0 0),60,3,0,[]⟩:bA)) hn hb) FH (List.nil_append _) λw68=>?_)
      refine ox 8 Y Y (aTr underlying25 sizeOf67 λg24=>?_)
     rotate_left
     refine (aTr underlying25 sizeOf67 λg24=>?_)
     refine ox 7 Y Y (jU [_] Tryz.t60 32 Y Y V Y Y underlying24 B6 Y Y Y Y V (aFz bT 3 (λ_=>Y) p.mutexes) B1 J (Nat.zero_add p.mutexes.length) (λhn b hb=>cZl (r:=(⟨(.slice (some ⟨g16,0,none⟩) 0 0),60,3,0,[]⟩:bA)) hn hb) FH (List.nil_append _) λw68=>?_)
    rotate_left 2
    refine (aTr underlying25 sizeOf67 λg24=>?_)
    refine ox 3 Y Y (jU [_,_] Tryz.t63 24 Y Y V Y Y underlying23 B6 Y Y Y Y V (aFz dB 2 (λ_=>Y) p.globals) B1 J (Nat.zero_add p.globals.length) (λhn b hb=>cZl (r:=(⟨(.slice (some ⟨g3,0,none⟩) 0 0),63,2,0,[]⟩:bA)) hn hb) FH (List.nil_append _) λw67=>?_)
    refine tz [(12,true)] 2 (go 2 ?_)
    refine ox 7 Y Y (jU [_] Tryz.t60 32 Y Y V Y Y underlying24 B6 Y Y Y Y V (aFz bT 3 (λ_=>Y) p.mutexes) B1 J (Nat.zero_add p.mutexes.length) (λhn b hb=>cZl (r:=(⟨(.slice (some ⟨g16,0,none⟩) 0 0),60,3,0,[]⟩:bA)) hn hb) FH (List.nil_append _) λw68=>?_)
    all_goals
     refine ox 11 Y Y (jU [] Tryz.t67 64 Y Y V Y Y underlying25 B6 Y Y Y Y V (aFz fV 3 (λ_=>Y) p.funcs) B1 J (Nat.zero_add p.funcs.length) (λhn b hb=>cZl (r:=(⟨(.slice (some ⟨g24,0,none⟩) 0 0),67,3,0,[]⟩:bA)) hn hb) FH (List.nil_append _) λw69=>?_)
   rotate_left 3
   focus
    refine (aTr underlying25 sizeOf67 λg28=>?_)
    refine t2 3 4 Y ?_ ?_
    focus
     refine (jU [_] Tryz.t63 24 Y Y V Y Y underlying23 B6 Y Y Y Y V (aFz dB 2 (λ_=>Y) p.globals) B1 J (Nat.zero_add p.globals.length) (λhn b hb=>cZl (r:=(⟨(.slice (some ⟨g3,0,none⟩) 0 0),63,2,0,[]⟩:bA)) hn hb) FH (List.nil_append _) λw67=>?_)
     refine tz [(12,true)] 3 (go 2 ?_)
     refine ox 4 Y Y (aTr underlying24 sizeOf60 λg33=>?_)
    rotate_left
    refine (aTr underlying24 sizeOf60 λg33=>?_)
    refine ox 3 Y Y (jU [_,_] Tryz.t63 24 Y Y V Y Y underlying23 B6 Y Y Y Y V (aFz dB 2 (λ_=>Y) p.globals) B1 J (Nat.zero_add p.globals.length) (λhn b hb=>cZl (r:=(⟨(.slice (some ⟨g3,0,none⟩) 0 0),63,2,0,[]⟩:bA)) hn hb) FH (List.nil_append _) λw67=>?_)
    refine tz [(12,true)] 2 (go 2 ?_)
    all_goals
     refine ox 7 Y Y (jU [] Tryz.t60 32 Y Y V Y Y underlying24 B6 Y Y Y Y V (aFz bT 3 (λ_=>Y) p.mutexes) B1 J (Nat.zero_add p.mutexes.length) (λhn b hb=>cZl (r:=(⟨(.slice (some ⟨g33,0,none⟩) 0 0),60,3,0,[]⟩:bA)) hn hb) FH (List.nil_append _) λw68=>?_)
     refine ox 11 Y Y (jU [_] Tryz.t67 64 Y Y V Y Y underlying25 B6 Y Y Y Y V (aFz fV 3 (λ_=>Y) p.funcs) B1 J (Nat.zero_add p.funcs.length) (λhn b hb=>cZl (r:=(⟨(.slice (some ⟨g28,0,none⟩) 0 0),67,3,0,[]⟩:bA)) hn hb) FH (List.nil_append _) λw69=>?_)
  rotate_left 8
  focus
   refine (aTr underlying24 sizeOf60 λg37=>?_)
   refine t2 0 8 Y ?_ ?_
   focus
    refine (aTr underlying23 sizeOf63 λg38=>?_)
    refine t2 3 8 Y ?_ ?_
    focus
     refine (jU [] Tryz.t63 24 Y Y V Y Y underlying23 B6 Y Y Y Y V (aFz dB 2 (λ_=>Y) p.globals) B1 J (Nat.zero_add p.globals.length) (λhn b hb=>cZl (r:=(⟨(.slice (some ⟨g38,0,none⟩) 0 0),63,2,0,[]⟩:bA)) hn hb) FH (List.nil_append _) λw67=>?_)
     refine tz [(12,true)] 3 (go 2 ?_)
     refine t2 7 8 Y ?_ ?_
     focus
      refine (jU [_] Tryz.t60 32 Y Y V Y Y underlying24 B6 Y Y Y Y V (aFz bT 3 (λ_=>Y) p.mutexes) B1 J (Nat.zero_add p.mutexes.length) (λhn b hb=>cZl (r:=(⟨(.slice (some ⟨g37,0,none⟩) 0 0),60,3,0,[]⟩:bA)) hn hb) FH (List.nil_append _) λw68=>?_)
      refine ox 8 Y Y (aTr underlying25 sizeOf67 λg46=>?_)
     rotate_left
     refine (aTr underlying25 sizeOf67 λg46=>?_)
     refine ox 7 Y Y (jU [_,_] Tryz.t60 32 Y Y V Y Y underlying24 B6 Y Y Y Y V (aFz bT 3 (λ_=>Y) p.mutexes) B1 J (Nat.zero_add p.mutexes.length) (λhn b hb=>cZl (r:=(⟨(.slice (some ⟨g37,0,none⟩) 0 0),60,3,0,[]⟩:bA)) hn hb) FH (List.nil_append _) λw68=>?_)
    rotate_left 2
    refine (aTr underlying25 sizeOf67 λg46=>?_)
    refine ox 3 Y Y (jU [_] Tryz.t63 24 Y Y V Y Y underlying23 B6 Y Y Y Y V (aFz dB 2 (λ_=>Y) p.globals) B1 J (Nat.zero_add p.globals.length) (λhn b hb=>cZl (r:=(⟨(.slice (some ⟨g38,0,none⟩) 0 0),63,2,0,[]⟩:bA)) hn hb) FH (List.nil_append _) λw67=>?_)
    refine tz [(12,true)] 2 (go 2 ?_)
    refine ox 7 Y Y (jU [_,_] Tryz.t60 32 Y Y V Y Y underlying24 B6 Y Y Y Y V (aFz bT 3 (λ_=>Y) p.mutexes) B1 J (Nat.zero_add p.mutexes.length) (λhn b hb=>cZl (r:=(⟨(.slice (some ⟨g37,0,none⟩) 0 0),60,3,0,[]⟩:bA)) hn hb) FH (List.nil_append _) λw68=>?_)
    all_goals
     refine ox 11 Y Y (jU [] Tryz.t67 64 Y Y V Y Y underlying25 B6 Y Y Y Y V (aFz fV 3 (λ_=>Y) p.funcs) B1 J (Nat.zero_add p.funcs.length) (λhn b hb=>cZl (r:=(⟨(.slice (some ⟨g46,0,none⟩) 0 0),67,3,0,[]⟩:bA)) hn hb) FH (List.nil_append _) λw69=>?_)
   rotate_left 3
   refine (aTr underlying25 sizeOf67 λg50=>?_)
   refine ox 0 Y Y (aTr underlying23 sizeOf63 λg51=>?_)
   refine ox 3 Y Y (jU [] Tryz.t63 24 Y Y V Y Y underlying23 B6 Y Y Y Y V (aFz dB 2 (λ_=>Y) p.globals) B1 J (Nat.zero_add p.globals.length) (λhn b hb=>cZl (r:=(⟨(.slice (some ⟨g51,0,none⟩) 0 0),63,2,0,[]⟩:bA)) hn hb) FH (List.nil_append _) λw67=>?_)
   refine tz [(12,true)] 2 (go 2 ?_)
   refine ox 7 Y Y (jU [_,_] Tryz.t60 32 Y Y V Y Y underlying24 B6 Y Y Y Y V (aFz bT 3 (λ_=>Y) p.mutexes) B1 J (Nat.zero_add p.mutexes.length) (λhn b hb=>cZl (r:=(⟨(.slice (some ⟨g37,0,none⟩) 0 0),60,3,0,[]⟩:bA)) hn hb) FH (List.nil_append _) λw68=>?_)
   refine ox 11 Y Y (jU [_] Tryz.t67 64 Y Y V Y Y underlying25 B6 Y Y Y Y V (aFz fV 3 (λ_=>Y) p.funcs) B1 J (Nat.zero_add p.funcs.length) (λhn b hb=>cZl (r:=(⟨(.slice (some ⟨g50,0,none⟩) 0 0),67,3,0,[]⟩:bA)) hn hb) FH (List.nil_append _) λw69=>?_)
  rotate_left 4
  focus
   refine (aTr underlying25 sizeOf67 λg55=>?_)
   refine t2 0 4 Y ?_ ?_
   focus
    refine (aTr underlying23 sizeOf63 λg56=>?_)
    refine t2 3 4 Y ?_ ?_
    focus
     refine (jU [] Tryz.t63 24 Y Y V Y Y underlying23 B6 Y Y Y Y V (aFz dB 2 (λ_=>Y) p.globals) B1 J (Nat.zero_add p.globals.length) (λhn b hb=>cZl (r:=(⟨(.slice (some ⟨g56,0,none⟩) 0 0),63,2,0,[]⟩:bA)) hn hb) FH (List.nil_append _) λw67=>?_)
     refine tz [(12,true)] 3 (go 2 ?_)
     refine ox 4 Y Y (aTr underlying24 sizeOf60 λg61=>?_)
    rotate_left
    refine (aTr underlying24 sizeOf60 λg61=>?_)
    refine ox 3 Y Y (jU [_] Tryz.t63 24 Y Y V Y Y underlying23 B6 Y Y Y Y V (aFz dB 2 (λ_=>Y) p.globals) B1 J (Nat.zero_add p.globals.length) (λhn b hb=>cZl (r:=(⟨(.slice (some ⟨g56,0,none⟩) 0 0),63,2,0,[]⟩:bA)) hn hb) FH (List.nil_append _) λw67=>?_)
    refine tz [(12,true)] 2 (go 2 ?_)
    all_goals
     refine ox 7 Y Y (jU [] Tryz.t60 32 Y Y V Y Y underlying24 B6 Y Y Y Y V (aFz bT 3 (λ_=>Y) p.mutexes) B1 J (Nat.zero_add p.mutexes.length) (λhn b hb=>cZl (r:=(⟨(.slice (some ⟨g61,0,none⟩) 0 0),60,3,0,[]⟩:bA)) hn hb) FH (List.nil_append _) λw68=>?_)
   rotate_left 2
   refine (aTr underlying24 sizeOf60 λg65=>?_)
   refine ox 0 Y Y (aTr underlying23 sizeOf63 λg66=>?_)
   refine ox 3 Y Y (jU [] Tryz.t63 24 Y Y V Y Y underlying23 B6 Y Y Y Y V (aFz dB 2 (λ_=>Y) p.globals) B1 J (Nat.zero_add p.globals.length) (λhn b hb=>cZl (r:=(⟨(.slice (some ⟨g66,0,none⟩) 0 0),63,2,0,[]⟩:bA)) hn hb) FH (List.nil_append _) λw67=>?_)
   refine tz [(12,true)] 2 (go 2 ?_)
   refine ox 7 Y Y (jU [_] Tryz.t60 32 Y Y V Y Y underlying24 B6 Y Y Y Y V (aFz bT 3 (λ_=>Y) p.mutexes) B1 J (Nat.zero_add p.mutexes.length) (λhn b hb=>cZl (r:=(⟨(.slice (some ⟨g65,0,none⟩) 0 0),60,3,0,[]⟩:bA)) hn hb) FH (List.nil_append _) λw68=>?_)
   all_goals
    refine ox 11 Y Y (jU [_,_] Tryz.t67 64 Y Y V Y Y underlying25 B6 Y Y Y Y V (aFz fV 3 (λ_=>Y) p.funcs) B1 J (Nat.zero_add p.funcs.length) (λhn b hb=>cZl (r:=(⟨(.slice (some ⟨g55,0,none⟩) 0 0),67,3,0,[]⟩:bA)) hn hb) FH (List.nil_append _) λw69=>?_)
  all_goals
   refine ax ?_
   refine id ?_
   refine tz [(13,false),(14,true),(15,false),(16,true),(17,false)] 0 (go 6 ?_)
   refine ax ?_
   show ∃g:Value×Value×Value,Sub _ _
   exact ⟨(w67,w68,w69),bSn G1 (by intro b hb;simp only [mem_append,mem_cons,not_mem_nil,or_false] at hb⊢;rcases hb with ((h|h)|h)|h|h<;>simp [h]) (sA rfl)⟩
 rintro ⟨vG,vM,vF⟩
 try dsimp only
 refine go 5 ?_
 refine wyz Y (kV [_,_] Y Y Y runUnderlying25) ?_
 obtain ⟨j1,hj1,hlj1⟩:=bEj (a) (((p.funcs.length:Nat):Int)) J
 refine wc0 Y call16 Y (bEl (a) (((p.funcs.length:Nat):Int)) j1 J J hj1 _) ?_
 rintro _ _ ⟨rfl,rfl⟩
 refine go 6 ?_
 have hj1:j1<p.funcs.length:=J
 have hfs:=hs.funcs p.funcs[j1] (getElem_mem hj1)
 have hfw:=aDi bS.wt p.funcs j1 hj1
 have hfw2:bS.wt p.funcs[j1]=1+p.funcs[j1].params.length+wtS p.funcs[j1].body:=Y
 refine aF1 [_,_] J λgF cF hgF=>?_
 subst hgF
 refine go 1 ?_
 obtain ⟨j2,hj2,hlj2⟩:=bEj (which) (12) J
 refine wc0 Y call16 Y (bEl (which) (12) j2 J J hj2 _) ?_
 rintro _ _ ⟨rfl,rfl⟩
 refine go 5 ?_
 by_cases h1:((j2:Nat):Int)=0
 ·exfalso;omega
 refine wcp false Y (eD h1) (go 6 ?_)
 by_cases h6:((j2:Nat):Int)=1
 ·exfalso;omega
 refine wcp false Y (eD h6) (go 6 ?_)
 by_cases h14:((j2:Nat):Int)=2
 ·exfalso;omega
 refine wcp false Y (eD h14) (go 6 ?_)
 by_cases h18:((j2:Nat):Int)=3
 ·exfalso;omega
 refine wcp false Y (eD h18) (go 6 ?_)
 by_cases h26:((j2:Nat):Int)=4
 ·exfalso;omega
 refine wcp false Y (eD h26) (go 9 ?_)
 refine wyz Y (dH (z:=3) j1 Y Y Y Y hj1 runUnderlying25 sizeOf67) ?_
 refine wyz Y (id <|uX 2 (0+j1*3+2) runUnderlying67 sizeOf65) ?_
 refine wyz Y (rM [_,_] isAgg65 sizeOf65 (bTd hj1 2 _ Y)) ?_
 have hcw:=bNe p.funcs[j1].body
 refine wc0 Y call35 Y (bPd (bLh p.funcs[j1].body) p.funcs[j1].body (Nat.le_refl _) J _) ?_
 rintro _ _ ⟨rfl,rfl⟩
 refine wyz Y (aNq _ Y Y Y Y) (go 3 ?_)
 refine dx [b2,b1] (tz [(0,true),(1,true),(2,true),(3,true),(4,true),(5,true)] 16 (go 7 ?_))
 refine tx 6 Y (dH (z:=3) j1 Y Y Y Y hj1 runUnderlying25 sizeOf67) ?_
 refine tx 7 Y (id <|uX 2 (0+j1*3+2) runUnderlying67 sizeOf65) (tz [(9,true)] 13 (go 2 ?_))
 refine tx 10 Y (bTi Y Y Y) (tz [(11,true),(13,true),(14,true)] 9 (go 4 ?_))
 refine t2 8 12 Y ?_ ?_
 focus
  refine way Y V (rM [_,_] isAgg65 sizeOf65 (bTd hj1 2 _ Y)) ?_
  obtain ⟨j4,hj4,hlj4⟩:=bEj ((a.fdiv 16)) ((max 1 ((bLh p.funcs[j1].body:Nat):Int))) J
  refine ox 12 Y Y (bV Y Y V call16 Y (bEl ((a.fdiv 16)) ((max 1 ((bLh p.funcs[j1].body:Nat):Int))) j4 J J hj4 _) ?_)
  rintro _ _ ⟨rfl,rfl⟩
 rotate_left
 obtain ⟨j4,hj4,hlj4⟩:=bEj ((a.fdiv 16)) ((max 1 ((bLh p.funcs[j1].body:Nat):Int))) J
 refine (bV Y Y V call16 Y (bEl ((a.fdiv 16)) ((max 1 ((bLh p.funcs[j1].body:Nat):Int))) j4 J J hj4 _) ?_)
 rintro _ _ ⟨rfl,rfl⟩
 refine ox 8 Y Y (way Y V (rM [_,_] isAgg65 sizeOf65 (bTd hj1 2 _ Y)) ?_)
 all_goals
  refine ox 15 Y Y (bV Y Y V call36 Y (bUh (wtS p.funcs[j1].body) p.funcs[j1].body ((j4:Nat):Int) how x J (Nat.le_refl _) hfs.2.2 J J _) ?_)
  rintro _ _ ⟨⟨t1,m1,rfl,hE1⟩,rfl⟩
  refine tz [(16,true),(17,true),(18,true)] 3 (go 4 ?_)
  refine tx 19 Y (dH (z:=3) j1 Y Y Y Y hj1 runUnderlying25 sizeOf67) ?_
  refine tx 20 Y (id <|uX 2 (0+j1*3+2) runUnderlying67 sizeOf65) ?_
  refine ox 21 Y Y (aO0 (r:=(p.funcs.set j1 (bTb p.funcs[j1] t1)).flatMap fV) [_,_] Y Y Y Y Y sizeOf65 Y (bSz hj1 2 1 V) (bS1 hj1 2 _ V Y) Cq (λhn=>cZl (r:=(⟨(.slice (some ⟨gF,0,none⟩) p.funcs.length cF),67,3,p.funcs.length,p.funcs.flatMap fV⟩:bA)) hn Cq) ?_)
  refine ax (go 4 ?_)
  refine aAg [_] 0 Y Y ?_
  refine aAg [_] 1 Y Y ?_
  refine aAg [_] 2 Y Y ?_
  refine go 1 ?_
  refine eA 136 Y (t:=.agg (jV (⟨p.globals,p.mutexes,(p.funcs.set j1 (bTb p.funcs[j1] t1))⟩:cK))) (dGf (q:=(⟨p.globals,p.mutexes,(p.funcs.set j1 (bTb p.funcs[j1] t1))⟩:cK)) G0 G0 G0) (go 4 ?_)
  exact ⟨.inr Y,_,⟨bx,rw⟩,aR Y (aO [] Y Y isAgg27 sizeOf27 (bK Y Y)),aA (.cons _ (.cons _ (.refl _))) (.refl _),⟨(⟨p.globals,p.mutexes,(p.funcs.set j1 (bTb p.funcs[j1] t1))⟩:cK),Y,⟨⟨hs.globals,hs.mutexes,bS0 hs.funcs ⟨hfs.1,hfs.2.1,hE1.sane⟩⟩,by unfold cK.wt;dsimp only;have h8:=bSw p.funcs j1 (bTb p.funcs[j1] t1);have h9:bS.wt (bTb p.funcs[j1] t1)=1+p.funcs[j1].params.length+wtS t1:=rfl;have:=hE1.wt;unfold wtF at h8;omega,by first|exact Nat.le_refl _|(rw [List.length_set];exact Nat.le_refl _),j1,t1,hj1,Y,hE1.gd⟩⟩,Y⟩
end
section
theorem dFh{R:ByteArray -> Prop}{p q:cK}(c:ChB p q)(h:gdP Nz R p):gdP Nz R q:=by
 obtain ⟨k,t,hk,rfl,ht⟩:=c.body
 refine ⟨h.globals,h.mutexes,bS0 h.funcs ?_⟩
 have h1:=h.funcs _ (getElem_mem hk)
 exact ⟨h1.1,h1.2.1,ht h1.2.2⟩
theorem dE8{p q:cK}(c:ChB p q):cZ1 q=cZ1 p:=by
 obtain ⟨k,t,hk,rfl,ht⟩:=c.body
 have e:(p.funcs.set k (bTb p.funcs[k] t)).map bS.name=p.funcs.map bS.name:=by
  rw [List.map_set]
  refine List.ext_getElem G0 λi h1 h2=>?_
  rw [List.getElem_set]
  split
  ·rename_i e;subst e;rw [List.getElem_map];rfl
  rfl
 unfold cZ1
 dsimp only
 rw [List.map_drop,List.map_drop,e]
end
section
open Go.RowKit
theorem dEo(g:ByteArray -> ByteArray)(x:aJ):encS (mS g x)=[Vi x.kind,Vs (g x.name),Vi ((mE g x.expr).op),Vi ((mE g x.expr).num),Vs ((mE g x.expr).name),.sl (mE g x.expr).args.length ((mE g x.expr).args.flatMap fO),Vs ((mR g x.ref).name),.sl (mR g x.ref).index.length ((mR g x.ref).index.flatMap fO),.sl x.args.length ((x.args.map (mA g)).flatMap eJ),.sl (mSs g x.thn).length ((mSs g x.thn).flatMap encS),.sl (mSs g x.els).length ((mSs g x.els).flatMap encS)]:=by
 obtain ⟨k,n,e,r,a,t,f⟩:=x
 rw [mS,aDb];simp only [aJ.kind,aJ.name,aJ.expr,aJ.ref,aJ.args,aJ.thn,aJ.els];exact congrArg (λc=>[_,_,_,_,_,_,_,_,c,_,_]) (dGd (List.length_map _))
theorem dDv(g:ByteArray -> ByteArray)(l:List aJ):(mSs g l).length=l.length:=by rw [cZ2,List.length_map]
theorem dBi(N:Nat)(l:List aJ)(a b:ByteArray)(hN:N <= 9000000)(hl:wtS l <= N+1)(ih:0<l.length -> ∀(l:List aJ),wtS l <= N -> ∀s:Sto,aL prog 28 [.c (Sq encS l),Cs a,Cs b] [] s λt s'=>t=.c (.sl (mSs (rn a b) l).length ((mSs (rn a b) l).flatMap encS)) /\ s'=s)(s:Sto):aL prog 28 [.c (Sq encS l),Cs a,Cs b] [] s λt s'=>t=.c (.sl (mSs (rn a b) l).length ((mSs (rn a b) l).flatMap encS)) /\ s'=s:=by
 have hlen:=uZ l
 obtain ⟨bx,rw⟩:=s
 refine acX 100 func28 ?_
 refine go 7 ?_
 refine wo Y (aTr underlying65 sizeOf120 λg1=>?_)
 refine go 1 ?_
 refine wo Y (jU [] Tryz.t120 192 Y Y V Y Y underlying65 B6 Y Y Y Y V (aFz encS 11 cZo l) B1 J (Nat.zero_add l.length) (λ_=>cFh.h) cFh.h (List.nil_append _) λw1=>?_)
 refine go 10 ?_
 refine bMj (α:=Unit) (λ_ _=>True) (l.length) 8 (λ_=>aY w1++[]) (λk _=>⟨bx,⟨w1,120,11,l.length,(pm (mS (rn a b)) k l).flatMap encS⟩::rw⟩) (λ_=>[(7,Cv w1),(1,Cs a),(2,Cs b)]) () trivial (cQf BP) ?_
 rintro k ⟨⟩ hk -
 try dsimp only
 refine go 5 ?_
 refine wyz Y (kV [] Y Y Y runUnderlying65) ?_
 by_cases h1:((k:Nat):Int)<((l.length:Nat):Int)
 ·refine wcp true Y (jZ h1) (go 8 ?_)
  have hkl:k<l.length:=J
  have hwk:=uF l k hkl
  have hwp:=gD l[k]
  have hal:=aCj l[k].args
  refine aEw [] J λgr cr hgr=>?_
  subst hgr
  refine go 3 ?_
  refine wyz Y (dH (z:=11) k Y Y Y Y hkl runUnderlying65 sizeOf120) ?_
  refine wyz Y (rM [] isAgg120 sizeOf120 (show _=some (.agg (dG l[k])) from (dAk cZo hkl 0 11 V).trans (by rw [cJ]<;>rfl))) (go 4 λb2=>?_)
  refine cG2 (λ_:Unit=>(⟨100,aY (.slice (some ⟨gr,0,none⟩) l.length cr)++[b2],⟨⟨b2,120,[Vi (l[k].kind),Vs (rn a b l[k].name),Vi (l[k].expr.op),Vi (l[k].expr.num),Vs (l[k].expr.name),Sq fO l[k].expr.args,Vs (l[k].ref.name),Sq fO l[k].ref.index,Sq eJ l[k].args,Sq encS l[k].thn,Sq encS l[k].els]⟩::bx,⟨(.slice (some ⟨gr,0,none⟩) l.length cr),120,11,l.length,(pm (mS (rn a b)) k l).flatMap encS⟩::rw⟩,[(1,Cs a),(2,Cs b),(7,Cv (.slice (some ⟨gr,0,none⟩) l.length cr)),(8,nI k),(9,pP b2)]⟩:AS)) ?_ ?_
  ·refine go 5 ?_
   by_cases h3:l[k].name=a
   focus
    refine wyz Y (aZ true Y Y Y (aL8 h3)) (go 8 ?_)
    rw [dA8 h3]
   rotate_left
   refine wyz Y (aZ false Y Y Y (aLs h3)) (go 4 ?_)
   rw [dAm h3]
   all_goals
    exact ⟨(),cQf BP⟩
  rintro ⟨⟩
  try dsimp only
  refine go 1 ?_
  refine bTy 11 [b2] [] #[true,true,true,true,true,true,true,true,true,true,true,false,false,false] B6 B6 B6 ?_
  refine tz [(0,true),(1,true),(2,true),(3,true),(5,true),(6,true),(7,true),(8,true)] 3 (go 9 ?_)
  refine ox 4 Y Y (bV Y Y V call53 Y (dBp l[k].expr.nodes l[k].expr a b (Nat.le_refl _) J _) ?_)
  rintro _ _ ⟨rfl,rfl⟩
  refine tz [(10,true)] 1 (go 2 ?_)
  refine ox 9 Y Y (bV Y Y V call54 Y (dC4 l[k].ref a b (by unfold cY.wt at hwp;omega) _) ?_)
  rintro _ _ ⟨rfl,rfl⟩
  refine ax ?_
  refine id ?_
  refine tz [(11,false),(12,true),(13,false)] 0 (go 4 ?_)
  refine ax (go 3 ?_)
  refine wo Y (aTr underlying118 sizeOf135 λg2=>?_)
  refine go 2 ?_
  refine wo Y (jU [] Tryz.t135 104 Y Y V Y Y underlying118 B6 Y Y Y Y V (aFz eJ 7 iD l[k].args) B1 J (Nat.zero_add l[k].args.length) (λ_=>cFh.h) cFh.h (List.nil_append _) λw3=>?_)
  refine go 11 ?_
  refine bMj (α:=Unit) (λ_ _=>True) (l[k].args.length) 10 (λ_=>aY w3++(aY (.slice (some ⟨gr,0,none⟩) l.length cr)++[b2])) (λj _=>⟨⟨b2,120,[Vi (l[k].kind),Vs (rn a b l[k].name),Vi ((mE (rn a b) l[k].expr).op),Vi ((mE (rn a b) l[k].expr).num),Vs ((mE (rn a b) l[k].expr).name),.sl (mE (rn a b) l[k].expr).args.length ((mE (rn a b) l[k].expr).args.flatMap fO),Vs ((mR (rn a b) l[k].ref).name),.sl (mR (rn a b) l[k].ref).index.length ((mR (rn a b) l[k].ref).index.flatMap fO),.val w3,Sq encS l[k].thn,Sq encS l[k].els]⟩::bx,⟨w3,135,7,l[k].args.length,(pm (mA (rn a b)) j l[k].args).flatMap eJ⟩::⟨(.slice (some ⟨gr,0,none⟩) l.length cr),120,11,l.length,(pm (mS (rn a b)) k l).flatMap encS⟩::rw⟩) (λ_=>[(1,Cs a),(2,Cs b),(7,Cv (.slice (some ⟨gr,0,none⟩) l.length cr)),(8,nI k),(9,pP b2)]) () trivial (cQf BP) ?_
  rintro j ⟨⟩ hj -
  try dsimp only
  refine go 6 ?_
  refine wyz Y (kV [] Y Y Y runUnderlying118) ?_
  by_cases h8:((j:Nat):Int)<((l[k].args.length:Nat):Int)
  ·refine wcp true Y (jZ h8) (go 7 ?_)
   have hjl:j<l[k].args.length:=J
   refine aEw [] J λga ca hga=>?_
   subst hga
   refine bTy 29 [b2,ga] [] #[true,true,true,true,true,true,true,true,true,true,true,true,true,true,true,true,true,true,true,true,true,true,true,true,true,true,true,true,true,false] B6 B6 B6 ?_
   refine tz [(0,true),(1,true),(2,true),(3,true),(4,true),(5,true)] 23 (go 7 ?_)
   refine tx 6 Y (dH (z:=7) j Y Y Y Y hjl runUnderlying118 sizeOf135) ?_
   refine tx 7 Y (id <|uX 0 (0+j*7+0) runUnderlying135 sizeOf4) ?_
   refine tx 8 Y (rM (hU:=λ_ h=>(kH.1 h).2 G0) [] isAgg4 sizeOf4 (dCs iD hjl 0 _ Y)) (tz [(9,true),(10,true),(11,true)] 17 (go 4 ?_))
   refine tx 12 Y (dH (z:=7) j Y Y Y Y hjl runUnderlying118 sizeOf135) ?_
   refine tx 13 Y (id <|uX 1 (0+j*7+1) runUnderlying135 sizeOf117) ?_
   refine tx 14 Y (rM (hU:=λ_ h=>(kH.1 h).2 G0) [] isAgg117 sizeOf117 (show _=some (.agg (encR l[k].args[j].ref)) from (dAk iD hjl 1 2 V))) (tz [(15,true),(16,true),(18,true),(19,true),(20,true)] 9 (go 6 ?_))
   refine tx 21 Y (dH (z:=7) j Y Y Y Y hjl runUnderlying118 sizeOf135) ?_
   refine tx 22 Y (id <|uX 3 (0+j*7+3) runUnderlying135 sizeOf87) ?_
   refine tx 23 Y (rM (hU:=λ_ h=>(kH.1 h).2 G0) [] isAgg87 sizeOf87 (show _=some (.agg (cU l[k].args[j].expr)) from (dAk iD hjl 3 4 V))) (tz [(24,true),(25,true)] 4 (go 3 ?_))
   refine ox 17 Y Y (bV Y Y V call54 Y (dC4 l[k].args[j].ref a b (by have h1:=aDf l[k].args j hjl;unfold eN.wt cY.wt at h1;omega) _) ?_)
   rintro _ _ ⟨rfl,rfl⟩
   refine ox 26 Y Y (bV Y Y V call53 Y (dBp l[k].args[j].expr.nodes l[k].args[j].expr a b (Nat.le_refl _) (by have h1:=aDf l[k].args j hjl;unfold eN.wt at h1;omega) _) ?_)
   rintro _ _ ⟨rfl,rfl⟩
   refine tx 27 Y (id <|aNs Tryz.t135 [(0,1),(1,2),(3,4)] Y (.cons Y (.cons Y (.cons Y .nil))) underlying135 B6 Y B6 Y Y) ?_
   refine tx 28 Y (dH (z:=7) j Y Y Y Y hjl runUnderlying118 sizeOf135) ?_
   refine ax ?_
   refine id ?_
   refine ox 29 Y Y (id <|aO0 (r:=(pm (mA (rn a b)) (j+1) l[k].args).flatMap eJ) [] Y Y Y Y Y sizeOf135 Y (cZ4 iD hjl 0 7 V) (dBq iD hjl) Cq (λhn=>cZl (r:=(⟨(.slice (some ⟨ga,0,none⟩) l[k].args.length ca),135,7,l[k].args.length,(pm (mA (rn a b)) j l[k].args).flatMap eJ⟩:bA)) hn Cq) ?_)
   refine ax (go 4 ?_)
   refine wad Y (go 2 ?_)
   exact ⟨J,(),trivial,cQf (h:=aG Y (gQ J) (sA Y)) BP⟩
  refine wcp false Y (jQ h8) (go 9 ?_)
  obtain rfl:j=l[k].args.length:=J
  rw [dAf]
  refine cKs (cs':=[Vi (l[k].kind),Vs (rn a b l[k].name),Vi ((mE (rn a b) l[k].expr).op),Vi ((mE (rn a b) l[k].expr).num),Vs ((mE (rn a b) l[k].expr).name),.sl (mE (rn a b) l[k].expr).args.length ((mE (rn a b) l[k].expr).args.flatMap fO),Vs ((mR (rn a b) l[k].ref).name),.sl (mR (rn a b) l[k].ref).index.length ((mR (rn a b) l[k].ref).index.flatMap fO),.sl l[k].args.length ((l[k].args.map (mA (rn a b))).flatMap eJ),Sq encS l[k].thn,Sq encS l[k].els]) [] 8 Y Y ?_
  show AWp prog _ ⟨_,_,⟨⟨b2,120,[Vi (l[k].kind),Vs (rn a b l[k].name),Vi ((mE (rn a b) l[k].expr).op),Vi ((mE (rn a b) l[k].expr).num),Vs ((mE (rn a b) l[k].expr).name),.sl (mE (rn a b) l[k].expr).args.length ((mE (rn a b) l[k].expr).args.flatMap fO),Vs ((mR (rn a b) l[k].ref).name),.sl (mR (rn a b) l[k].ref).index.length ((mR (rn a b) l[k].ref).index.flatMap fO),.sl l[k].args.length ((l[k].args.map (mA (rn a b))).flatMap eJ),Sq encS l[k].thn,Sq encS l[k].els]⟩::bx,⟨(.slice (some ⟨gr,0,none⟩) l.length cr),120,11,l.length,(pm (mS (rn a b)) k l).flatMap encS⟩::rw⟩,_⟩ _
  refine bTy 11 [b2] [] #[true,true,true,true,true,true,true,true,true,true,true,false,false,false] B6 B6 B6 ?_
  refine tz [(0,true),(1,true),(2,true),(3,true),(5,true),(6,true),(7,true),(8,true)] 3 (go 9 ?_)
  refine ox 4 Y Y (bV Y Y V call28 Y (ih J l[k].thn J _) ?_)
  rintro _ _ ⟨rfl,rfl⟩
  refine tz [(10,true)] 1 (go 2 ?_)
  refine ox 9 Y Y (bV Y Y V call28 Y (ih J l[k].els J _) ?_)
  rintro _ _ ⟨rfl,rfl⟩
  refine ax ?_
  refine id ?_
  refine tz [(11,false),(12,true),(13,false)] 0 (go 4 ?_)
  refine ax (go 5 ?_)
  refine wyz Y (dH (z:=11) k Y Y Y Y hkl runUnderlying65 sizeOf120) ?_
  refine wo Y (aO0 (r:=(pm (mS (rn a b)) (k+1) l).flatMap encS) [] Y Y Y Y Y sizeOf120 Y (cZ4 cZo hkl 0 11 V) ((congrArg _ (dEo _ _).symm).trans (dBq cZo hkl)) Cq FW ?_)
  refine go 5 ?_
  refine wad Y (go 2 ?_)
  exact ⟨J,(),trivial,cQf (h1:=(.cons _ (.refl _))) (h:=aG Y (gQ J) (sA Y)) BP⟩
 refine wcp false Y (jQ h1) (go 10 ?_)
 obtain rfl:k=l.length:=J
 rw [dAf]
 refine aE1 7 Y ?_
 refine go 5 ?_
 exact bHe (s':=⟨bx,rw⟩) Y sb0 ⟨by rw [dDv,cZ2],Y⟩
theorem dDe:∀(N:Nat)(l:List aJ)(a b:ByteArray),wtS l <= N -> N <= 9000000 -> ∀s:Sto,aL prog 28 [.c (Sq encS l),Cs a,Cs b] [] s λt s'=>t=.c (.sl (mSs (rn a b) l).length ((mSs (rn a b) l).flatMap encS)) /\ s'=s
 |0,l,a,b,h,hN,s=>dBi 0 l a b J J (λh0=>absurd (uZ l) J) s
 |N+1,l,a,b,h,hN,s=>dBi N l a b J h (λ_ l' h' s=>dDe N l' a b h' J s) s
end
end Go.Proofs.YtjgeihmhppadaaaGreatDoor
