import Derived.Test.YtjgeihmhppadaaaGreatDoorG32J
import Derived.Test.YtjgeihmhppadaaaGreatDoorG34J
set_option linter.all false
set_option synthInstance.maxHeartbeats 1000000
set_option synthInstance.maxSize 1000000
set_option maxHeartbeats 6400000
set_option maxRecDepth 100000
namespace Go.Proofs.YtjgeihmhppadaaaGreatDoor
open Go.Proofs.Tryz
open List (length_append length_cons length_nil mem_append mem_cons not_mem_nil append_assoc getElem_mem take_of_length_le)
section
open Go.RowKit
section
variable {α:Type}{g:α -> α}{l:List α}{k:Nat}{enc:α -> List AC}{z:Nat}
theorem dCl(hk:k<l.length):(pm g k l).set k l[k]=pm g k l:=by
 have h:=dBk (g:=g) hk GC
 conv=>lhs;rw [←h]
 exact List.set_getElem_self _
theorem dCo(hk:k<l.length)(h:g l[k]=l[k]):pm g k l=pm g (k+1) l:=by rw [←dBn hk,h,dCl hk]
theorem dDb(hz:∀x,(enc x).length=z)(hk:k<l.length)(i:Nat)(ds:List AC)(y:α)(hi:i+ds.length <= z)(hx:(enc l[k]).take i++(ds++(enc l[k]).drop (i+ds.length))=enc y):splice ((pm g k l).flatMap enc) (0+k*z+i) ds=((pm g k l).set k y).flatMap enc:=
 dCd hz GC i ds y hi (by rw [dBk hk];exact hx)
theorem dCr(hz:∀x,(enc x).length=z)(hk:k<l.length)(i:Nat)(ds:List AC)(hi:i+ds.length <= z)(hx:(enc l[k]).take i++(ds++(enc l[k]).drop (i+ds.length))=enc (g l[k])):splice ((pm g k l).flatMap enc) (0+k*z+i) ds=(pm g (k+1) l).flatMap enc:=by
 rw [dDb hz hk i ds (g l[k]) hi hx,dBn hk]
theorem dDp(hk:k<l.length)(y:α)(h:k<((pm g k l).set k y).length):((pm g k l).set k y)[k]=y:=List.getElem_set_self _
theorem dEz(hz:∀x,(enc x).length=z)(hk:k<l.length)(y:α)(i:Nat)(x:AC)(hx:(enc y)[i]?=some x):pk false 1 (((pm g k l).set k y).flatMap enc) (0+k*z+i)=some (.c x):=
 dEf hz GI i x (by rw [dDp hk];exact hx)
theorem dEv(hz:∀x,(enc x).length=z)(hk:k<l.length)(y:α)(i:Nat)(ds:List AC)(hi:i+ds.length <= z)(hx:(enc y).take i++(ds++(enc y).drop (i+ds.length))=enc (g l[k])):splice (((pm g k l).set k y).flatMap enc) (0+k*z+i) ds=(pm g (k+1) l).flatMap enc:=by
 rw [dCd hz (fs:=(pm g k l).set k y) GI i ds (g l[k]) hi (by rw [dDp hk];exact hx),List.set_set,dBn hk]
theorem dD3(hz:∀x,(enc x).length=z)(hk:k<l.length)(y:α)(i z':Nat)(h:i+z' <= z):0+k*z+i+z' <= (((pm g k l).set k y).flatMap enc).length:=dDf hz GI i z' h
end
section
variable {a b:ByteArray}
theorem dEk{x:aI}(h:x.name=a):(dB x).take 0++([AC.val (.string b)]++(dB x).drop 1)=dB (mG (rn a b) x):=by show _=[AC.val (.string (rn a b x.name)),_];rw [dA8 h];rfl
theorem dD6{x:aI}(h:¬x.name=a):mG (rn a b) x=x:=by obtain ⟨n,i⟩:=x;show (⟨rn a b n,i⟩:aI)=_;rw [dAm h]
theorem dEw{x:cL}(h:x.name=a):(bT x).take 0++([AC.val (.string b)]++(bT x).drop 1)=bT (mM (rn a b) x):=GN
theorem dD4{x:cL}(h:¬x.name=a):mM (rn a b) x=x:=by obtain ⟨n,i,j⟩:=x;show (⟨rn a b n,i,j⟩:cL)=_;rw [dAm h]
def nF(g:ByteArray -> ByteArray)(x:bS):bS:=⟨g x.name,x.params,x.body⟩
theorem dEs{x:bS}(h:x.name=a):(fV x).take 0++([AC.val (.string b)]++(fV x).drop 1)=fV (nF (rn a b) x):=GN
theorem dDw{x:bS}(h:¬x.name=a):nF (rn a b) x=x:=by obtain ⟨n,i,j⟩:=x;show (⟨rn a b n,i,j⟩:bS)=_;rw [dAm h]
theorem dEl(g:ByteArray -> ByteArray)(x:bS):fV (mF g id x)=[Vs (g x.name),Sq cP x.params,.sl (mSs g x.body).length ((mSs g x.body).flatMap encS)]:=by
 have h:x.params.map (mQ id)=x.params:=by rw [show mQ id=id from funext λy=>by cases y;rfl,List.map_id]
 unfold fV mF;dsimp only;rw [h]
end
theorem dCc(p:cK)(a b:ByteArray)(hw:p.wt <= 9000000)(s:Sto):aL prog 10 [.agg (jV p),Cs a,Cs b] [] s λt s'=>t=.agg (jV (mP (rn a b) id p)) /\ s'=s:=by
 obtain ⟨bx,rw⟩:=s
 have hwp:p.wt=p.globals.length+p.mutexes.length+(p.funcs.map bS.wt).sum:=Y
 have hfn:=aDr bS.wt (λx=>G6) p.funcs
 refine acX 103 func10 ?_
 refine go 6 λb1 b2=>?_
 refine bUy (λg:Value×Value×Value=>(⟨103,((aY g.1++(aY g.2.1++aY g.2.2))++[b1,b2]),⟨⟨b2,27,[Nl,Nl,Nl]⟩::⟨b1,27,[.val g.1,.val g.2.1,.val g.2.2]⟩::bx,⟨g.1,63,2,p.globals.length,(p.globals).flatMap dB⟩::⟨g.2.1,60,3,p.mutexes.length,(p.mutexes).flatMap bT⟩::⟨g.2.2,67,3,p.funcs.length,(p.funcs).flatMap fV⟩::rw⟩,[(1,Cs a),(2,Cs b),(3,pP b1),(6,pP b2)]⟩:AS)) ?_ ?_
 ·refine bTy 13 [b2,b1] [b2] #[true,true,true,true,true,true,true,true,true,true,true,true,true,false,false,false,false,false] B6 B6 B6 ?_
  refine tz [(1,true),(2,true),(5,true),(6,true),(9,true),(10,true)] 7 (go 7 ?_)
  refine three 0 4 8 B6 Y Y Y Y Y Y ?_ ?_ ?_
  focus
   refine (aTr underlying23 sizeOf63 λg3=>?_)
   refine three 3 4 8 B6 Y Y Y Y Y Y ?_ ?_ ?_
   focus
    refine (jU [] Tryz.t63 24 Y Y V Y Y underlying23 B6 Y Y Y Y V (aFz dB 2 (λ_=>Y) p.globals) B1 J (Nat.zero_add p.globals.length) (λhn b hb=>cZl (r:=(⟨(.slice (some ⟨g3,0,none⟩) 0 0),63,2,0,[]⟩:bA)) hn hb) cFh.h (List.nil_append _) λw67=>?_)
    refine tz [(12,true)] 4 (go 2 ?_)
    refine t2 4 8 Y ?_ ?_
    focus
     refine (aTr underlying24 sizeOf60 λg5=>?_)
     refine t2 7 8 Y ?_ ?_
     focus
      refine (jU [] Tryz.t60 32 Y Y V Y Y underlying24 B6 Y Y Y Y V (aFz bT 3 (λ_=>Y) p.mutexes) B1 J (Nat.zero_add p.mutexes.length) (λhn b hb=>cZl (r:=(⟨(.slice (some ⟨g5,0,none⟩) 0 0),60,3,0,[]⟩:bA)) hn hb) cFh.h (List.nil_append _) λw68=>?_)
      refine ox 8 Y Y (aTr underlying25 sizeOf67 λg9=>?_)
     rotate_left
     refine (aTr underlying25 sizeOf67 λg9=>?_)
     refine ox 7 Y Y (jU [_] Tryz.t60 32 Y Y V Y Y underlying24 B6 Y Y Y Y V (aFz bT 3 (λ_=>Y) p.mutexes) B1 J (Nat.zero_add p.mutexes.length) (λhn b hb=>cZl (r:=(⟨(.slice (some ⟨g5,0,none⟩) 0 0),60,3,0,[]⟩:bA)) hn hb) cFh.h (List.nil_append _) λw68=>?_)
     all_goals
      refine ox 11 Y Y (jU [] Tryz.t67 64 Y Y V Y Y underlying25 B6 Y Y Y Y V (aFz fV 3 (λ_=>Y) p.funcs) B1 J (Nat.zero_add p.funcs.length) (λhn b hb=>cZl (r:=(⟨(.slice (some ⟨g9,0,none⟩) 0 0),67,3,0,[]⟩:bA)) hn hb) cFh.h (List.nil_append _) λw69=>?_)
    rotate_left 2
    refine (aTr underlying25 sizeOf67 λg12=>?_)
    refine ox 4 Y Y (aTr underlying24 sizeOf60 λg13=>?_)
    refine ox 7 Y Y (jU [] Tryz.t60 32 Y Y V Y Y underlying24 B6 Y Y Y Y V (aFz bT 3 (λ_=>Y) p.mutexes) B1 J (Nat.zero_add p.mutexes.length) (λhn b hb=>cZl (r:=(⟨(.slice (some ⟨g13,0,none⟩) 0 0),60,3,0,[]⟩:bA)) hn hb) cFh.h (List.nil_append _) λw68=>?_)
    refine ox 11 Y Y (jU [_] Tryz.t67 64 Y Y V Y Y underlying25 B6 Y Y Y Y V (aFz fV 3 (λ_=>Y) p.funcs) B1 J (Nat.zero_add p.funcs.length) (λhn b hb=>cZl (r:=(⟨(.slice (some ⟨g12,0,none⟩) 0 0),67,3,0,[]⟩:bA)) hn hb) cFh.h (List.nil_append _) λw69=>?_)
   rotate_left 3
   focus
    refine (aTr underlying24 sizeOf60 λg16=>?_)
    refine t2 3 8 Y ?_ ?_
    focus
     refine (jU [_] Tryz.t63 24 Y Y V Y Y underlying23 B6 Y Y Y Y V (aFz dB 2 (λ_=>Y) p.globals) B1 J (Nat.zero_add p.globals.length) (λhn b hb=>cZl (r:=(⟨(.slice (some ⟨g3,0,none⟩) 0 0),63,2,0,[]⟩:bA)) hn hb) cFh.h (List.nil_append _) λw67=>?_)
     refine tz [(12,true)] 3 (go 2 ?_)
     refine t2 7 8 Y ?_ ?_
     focus
      refine (jU [] Tryz.t60 32 Y Y V Y Y underlying24 B6 Y Y Y Y V (aFz bT 3 (λ_=>Y) p.mutexes) B1 J (Nat.zero_add p.mutexes.length) (λhn b hb=>cZl (r:=(⟨(.slice (some ⟨g16,0,none⟩) 0 0),60,3,0,[]⟩:bA)) hn hb) cFh.h (List.nil_append _) λw68=>?_)
      refine ox 8 Y Y (aTr underlying25 sizeOf67 λg24=>?_)
     rotate_left
     refine (aTr underlying25 sizeOf67 λg24=>?_)
     refine ox 7 Y Y (jU [_] Tryz.t60 32 Y Y V Y Y underlying24 B6 Y Y Y Y V (aFz bT 3 (λ_=>Y) p.mutexes) B1 J (Nat.zero_add p.mutexes.length) (λhn b hb=>cZl (r:=(⟨(.slice (some ⟨g16,0,none⟩) 0 0),60,3,0,[]⟩:bA)) hn hb) cFh.h (List.nil_append _) λw68=>?_)
    rotate_left 2
    refine (aTr underlying25 sizeOf67 λg24=>?_)
    refine ox 3 Y Y (jU [_,_] Tryz.t63 24 Y Y V Y Y underlying23 B6 Y Y Y Y V (aFz dB 2 (λ_=>Y) p.globals) B1 J (Nat.zero_add p.globals.length) (λhn b hb=>cZl (r:=(⟨(.slice (some ⟨g3,0,none⟩) 0 0),63,2,0,[]⟩:bA)) hn hb) cFh.h (List.nil_append _) λw67=>?_)
    refine tz [(12,true)] 2 (go 2 ?_)
    refine ox 7 Y Y (jU [_] Tryz.t60 32 Y Y V Y Y underlying24 B6 Y Y Y Y V (aFz bT 3 (λ_=>Y) p.mutexes) B1 J (Nat.zero_add p.mutexes.length) (λhn b hb=>cZl (r:=(⟨(.slice (some ⟨g16,0,none⟩) 0 0),60,3,0,[]⟩:bA)) hn hb) cFh.h (List.nil_append _) λw68=>?_)
    all_goals
     refine ox 11 Y Y (jU [] Tryz.t67 64 Y Y V Y Y underlying25 B6 Y Y Y Y V (aFz fV 3 (λ_=>Y) p.funcs) B1 J (Nat.zero_add p.funcs.length) (λhn b hb=>cZl (r:=(⟨(.slice (some ⟨g24,0,none⟩) 0 0),67,3,0,[]⟩:bA)) hn hb) cFh.h (List.nil_append _) λw69=>?_)
   rotate_left 3
   focus
    refine (aTr underlying25 sizeOf67 λg28=>?_)
    refine t2 3 4 Y ?_ ?_
    focus
     refine (jU [_] Tryz.t63 24 Y Y V Y Y underlying23 B6 Y Y Y Y V (aFz dB 2 (λ_=>Y) p.globals) B1 J (Nat.zero_add p.globals.length) (λhn b hb=>cZl (r:=(⟨(.slice (some ⟨g3,0,none⟩) 0 0),63,2,0,[]⟩:bA)) hn hb) cFh.h (List.nil_append _) λw67=>?_)
     refine tz [(12,true)] 3 (go 2 ?_)
     refine ox 4 Y Y (aTr underlying24 sizeOf60 λg33=>?_)
    rotate_left
    refine (aTr underlying24 sizeOf60 λg33=>?_)
    refine ox 3 Y Y (jU [_,_] Tryz.t63 24 Y Y V Y Y underlying23 B6 Y Y Y Y V (aFz dB 2 (λ_=>Y) p.globals) B1 J (Nat.zero_add p.globals.length) (λhn b hb=>cZl (r:=(⟨(.slice (some ⟨g3,0,none⟩) 0 0),63,2,0,[]⟩:bA)) hn hb) cFh.h (List.nil_append _) λw67=>?_)
    refine tz [(12,true)] 2 (go 2 ?_)
    all_goals
     refine ox 7 Y Y (jU [] Tryz.t60 32 Y Y V Y Y underlying24 B6 Y Y Y Y V (aFz bT 3 (λ_=>Y) p.mutexes) B1 J (Nat.zero_add p.mutexes.length) (λhn b hb=>cZl (r:=(⟨(.slice (some ⟨g33,0,none⟩) 0 0),60,3,0,[]⟩:bA)) hn hb) cFh.h (List.nil_append _) λw68=>?_)
     refine ox 11 Y Y (jU [_] Tryz.t67 64 Y Y V Y Y underlying25 B6 Y Y Y Y V (aFz fV 3 (λ_=>Y) p.funcs) B1 J (Nat.zero_add p.funcs.length) (λhn b hb=>cZl (r:=(⟨(.slice (some ⟨g28,0,none⟩) 0 0),67,3,0,[]⟩:bA)) hn hb) cFh.h (List.nil_append _) λw69=>?_)
  rotate_left 8
  focus
   refine (aTr underlying24 sizeOf60 λg37=>?_)
   refine t2 0 8 Y ?_ ?_
   focus
    refine (aTr underlying23 sizeOf63 λg38=>?_)
    refine t2 3 8 Y ?_ ?_
    focus
     refine (jU [] Tryz.t63 24 Y Y V Y Y underlying23 B6 Y Y Y Y V (aFz dB 2 (λ_=>Y) p.globals) B1 J (Nat.zero_add p.globals.length) (λhn b hb=>cZl (r:=(⟨(.slice (some ⟨g38,0,none⟩) 0 0),63,2,0,[]⟩:bA)) hn hb) cFh.h (List.nil_append _) λw67=>?_)
     refine tz [(12,true)] 3 (go 2 ?_)
     refine t2 7 8 Y ?_ ?_
     focus
      refine (jU [_] Tryz.t60 32 Y Y V Y Y underlying24 B6 Y Y Y Y V (aFz bT 3 (λ_=>Y) p.mutexes) B1 J (Nat.zero_add p.mutexes.length) (λhn b hb=>cZl (r:=(⟨(.slice (some ⟨g37,0,none⟩) 0 0),60,3,0,[]⟩:bA)) hn hb) cFh.h (List.nil_append _) λw68=>?_)
      refine ox 8 Y Y (aTr underlying25 sizeOf67 λg46=>?_)
     rotate_left
     refine (aTr underlying25 sizeOf67 λg46=>?_)
     refine ox 7 Y Y (jU [_,_] Tryz.t60 32 Y Y V Y Y underlying24 B6 Y Y Y Y V (aFz bT 3 (λ_=>Y) p.mutexes) B1 J (Nat.zero_add p.mutexes.length) (λhn b hb=>cZl (r:=(⟨(.slice (some ⟨g37,0,none⟩) 0 0),60,3,0,[]⟩:bA)) hn hb) cFh.h (List.nil_append _) λw68=>?_)
    rotate_left 2
    refine (aTr underlying25 sizeOf67 λg46=>?_)
    refine ox 3 Y Y (jU [_] Tryz.t63 24 Y Y V Y Y underlying23 B6 Y Y Y Y V (aFz dB 2 (λ_=>Y) p.globals) B1 J (Nat.zero_add p.globals.length) (λhn b hb=>cZl (r:=(⟨(.slice (some ⟨g38,0,none⟩) 0 0),63,2,0,[]⟩:bA)) hn hb) cFh.h (List.nil_append _) λw67=>?_)
    refine tz [(12,true)] 2 (go 2 ?_)
    refine ox 7 Y Y (jU [_,_] Tryz.t60 32 Y Y V Y Y underlying24 B6 Y Y Y Y V (aFz bT 3 (λ_=>Y) p.mutexes) B1 J (Nat.zero_add p.mutexes.length) (λhn b hb=>cZl (r:=(⟨(.slice (some ⟨g37,0,none⟩) 0 0),60,3,0,[]⟩:bA)) hn hb) cFh.h (List.nil_append _) λw68=>?_)
    all_goals
     refine ox 11 Y Y (jU [] Tryz.t67 64 Y Y V Y Y underlying25 B6 Y Y Y Y V (aFz fV 3 (λ_=>Y) p.funcs) B1 J (Nat.zero_add p.funcs.length) (λhn b hb=>cZl (r:=(⟨(.slice (some ⟨g46,0,none⟩) 0 0),67,3,0,[]⟩:bA)) hn hb) cFh.h (List.nil_append _) λw69=>?_)
   rotate_left 3
   refine (aTr underlying25 sizeOf67 λg50=>?_)
   refine ox 0 Y Y (aTr underlying23 sizeOf63 λg51=>?_)
   refine ox 3 Y Y (jU [] Tryz.t63 24 Y Y V Y Y underlying23 B6 Y Y Y Y V (aFz dB 2 (λ_=>Y) p.globals) B1 J (Nat.zero_add p.globals.length) (λhn b hb=>cZl (r:=(⟨(.slice (some ⟨g51,0,none⟩) 0 0),63,2,0,[]⟩:bA)) hn hb) cFh.h (List.nil_append _) λw67=>?_)
   refine tz [(12,true)] 2 (go 2 ?_)
   refine ox 7 Y Y (jU [_,_] Tryz.t60 32 Y Y V Y Y underlying24 B6 Y Y Y Y V (aFz bT 3 (λ_=>Y) p.mutexes) B1 J (Nat.zero_add p.mutexes.length) (λhn b hb=>cZl (r:=(⟨(.slice (some ⟨g37,0,none⟩) 0 0),60,3,0,[]⟩:bA)) hn hb) cFh.h (List.nil_append _) λw68=>?_)
   refine ox 11 Y Y (jU [_] Tryz.t67 64 Y Y V Y Y underlying25 B6 Y Y Y Y V (aFz fV 3 (λ_=>Y) p.funcs) B1 J (Nat.zero_add p.funcs.length) (λhn b hb=>cZl (r:=(⟨(.slice (some ⟨g50,0,none⟩) 0 0),67,3,0,[]⟩:bA)) hn hb) cFh.h (List.nil_append _) λw69=>?_)
  rotate_left 4
  focus
   refine (aTr underlying25 sizeOf67 λg55=>?_)
   refine t2 0 4 Y ?_ ?_
   focus
    refine (aTr underlying23 sizeOf63 λg56=>?_)
    refine t2 3 4 Y ?_ ?_
    focus
     refine (jU [] Tryz.t63 24 Y Y V Y Y underlying23 B6 Y Y Y Y V (aFz dB 2 (λ_=>Y) p.globals) B1 J (Nat.zero_add p.globals.length) (λhn b hb=>cZl (r:=(⟨(.slice (some ⟨g56,0,none⟩) 0 0),63,2,0,[]⟩:bA)) hn hb) cFh.h (List.nil_append _) λw67=>?_)
     refine tz [(12,true)] 3 (go 2 ?_)
     refine ox 4 Y Y (aTr underlying24 sizeOf60 λg61=>?_)
    rotate_left
    refine (aTr underlying24 sizeOf60 λg61=>?_)
    refine ox 3 Y Y (jU [_] Tryz.t63 24 Y Y V Y Y underlying23 B6 Y Y Y Y V (aFz dB 2 (λ_=>Y) p.globals) B1 J (Nat.zero_add p.globals.length) (λhn b hb=>cZl (r:=(⟨(.slice (some ⟨g56,0,none⟩) 0 0),63,2,0,[]⟩:bA)) hn hb) cFh.h (List.nil_append _) λw67=>?_)
    refine tz [(12,true)] 2 (go 2 ?_)
    all_goals
     refine ox 7 Y Y (jU [] Tryz.t60 32 Y Y V Y Y underlying24 B6 Y Y Y Y V (aFz bT 3 (λ_=>Y) p.mutexes) B1 J (Nat.zero_add p.mutexes.length) (λhn b hb=>cZl (r:=(⟨(.slice (some ⟨g61,0,none⟩) 0 0),60,3,0,[]⟩:bA)) hn hb) cFh.h (List.nil_append _) λw68=>?_)
   rotate_left 2
   refine (aTr underlying24 sizeOf60 λg65=>?_)
   refine ox 0 Y Y (aTr underlying23 sizeOf63 λg66=>?_)
   refine ox 3 Y Y (jU [] Tryz.t63 24 Y Y V Y Y underlying23 B6 Y Y Y Y V (aFz dB 2 (λ_=>Y) p.globals) B1 J (Nat.zero_add p.globals.length) (λhn b hb=>cZl (r:=(⟨(.slice (some ⟨g66,0,none⟩) 0 0),63,2,0,[]⟩:bA)) hn hb) cFh.h (List.nil_append _) λw67=>?_)
   refine tz [(12,true)] 2 (go 2 ?_)
   refine ox 7 Y Y (jU [_] Tryz.t60 32 Y Y V Y Y underlying24 B6 Y Y Y Y V (aFz bT 3 (λ_=>Y) p.mutexes) B1 J (Nat.zero_add p.mutexes.length) (λhn b hb=>cZl (r:=(⟨(.slice (some ⟨g65,0,none⟩) 0 0),60,3,0,[]⟩:bA)) hn hb) cFh.h (List.nil_append _) λw68=>?_)
   all_goals
    refine ox 11 Y Y (jU [_,_] Tryz.t67 64 Y Y V Y Y underlying25 B6 Y Y Y Y V (aFz fV 3 (λ_=>Y) p.funcs) B1 J (Nat.zero_add p.funcs.length) (λhn b hb=>cZl (r:=(⟨(.slice (some ⟨g55,0,none⟩) 0 0),67,3,0,[]⟩:bA)) hn hb) cFh.h (List.nil_append _) λw69=>?_)
  all_goals
   refine ax ?_
   refine id ?_
   refine tz [(13,false),(14,true),(15,false),(16,true),(17,false)] 0 (go 6 ?_)
   refine ax ?_
   show ∃g:Value×Value×Value,Sub _ _
   exact ⟨(w67,w68,w69),bSn (by first|exact .refl _|exact (bSv _ _ _ _).1|exact (bSv _ _ _ _).2.1|exact (bSv _ _ _ _).2.2.1|exact (bSv _ _ _ _).2.2.2.1|exact (bSv _ _ _ _).2.2.2.2) (by intro b hb;simp only [mem_append,mem_cons,not_mem_nil,or_false] at hb⊢;rcases hb with (h|h|h)|h|h<;>simp [h]) (sA rfl)⟩
 rintro ⟨vG,vM,vF⟩
 try dsimp only
 refine go 7 ?_
 refine bMj (α:=Unit) (λ_ _=>True) (p.globals.length) 7 (λ_=>((aY vG++(aY vM++aY vF))++[b1,b2])) (λk _=>⟨⟨b2,27,[Nl,Nl,Nl]⟩::⟨b1,27,[.val vG,.val vM,.val vF]⟩::bx,⟨vG,63,2,p.globals.length,(pm (mG (rn a b)) k p.globals).flatMap dB⟩::⟨vM,60,3,p.mutexes.length,(p.mutexes).flatMap bT⟩::⟨vF,67,3,p.funcs.length,(p.funcs).flatMap fV⟩::rw⟩) (λ_=>[(1,Cs a),(2,Cs b),(3,pP b1),(6,pP b2)]) () trivial (cQf BP) ?_
 rintro k ⟨⟩ hk -
 try dsimp only
 refine go 6 ?_
 refine wyz Y (kV [] Y Y Y runUnderlying23) ?_
 by_cases h1:((k:Nat):Int)<((p.globals.length:Nat):Int)
 ·refine wcp true Y (jZ h1) (go 8 ?_)
  have hkl:k<p.globals.length:=J
  refine aEw [] J λgG cG hgG=>?_
  subst hgG
  refine go 4 ?_
  refine wyz Y (dH (z:=2) k Y Y Y Y hkl runUnderlying23 sizeOf63) ?_
  refine wyz Y (id <|uX 0 (0+k*2+0) runUnderlying63 sizeOf9) ?_
  refine wyz Y (rM [] isAgg9 sizeOf9 (dCs (g:=mG (rn a b)) nS hkl 0 _ Y)) (go 1 ?_)
  by_cases h3:p.globals[k].name=a
  focus
   refine wyz Y (aZ true Y Y Y (aL8 h3)) (go 8 ?_)
   refine wyz Y (dH (z:=2) k Y Y Y Y hkl runUnderlying23 sizeOf63) ?_
   refine wyz Y (id <|uX 0 (0+k*2+0) runUnderlying63 sizeOf9) ?_
   refine wo Y (aO0 (r:=(pm (mG (rn a b)) (k+1) p.globals).flatMap dB) [] Y Y Y Y Y sizeOf9 Y (cZ4 (g:=mG (rn a b)) nS hkl 0 1 V) (dCr nS hkl 0 _ (Nat.le_of_ble_eq_true Y) (dEk h3)) Cq FW ?_)
   refine go 5 ?_
   refine wad Y (go 2 ?_)
  rotate_left
  refine wyz Y (aZ false Y Y Y (aLs h3)) (go 8 ?_)
  refine wad Y (go 2 ?_)
  rw [dCo (g:=mG (rn a b)) hkl (dD6 h3)]
  all_goals
   exact ⟨J,(),trivial,cQf (h:=aG Y (gQ J) (sA Y)) BP⟩
 refine wcp false Y (jQ h1) (go 10 ?_)
 obtain rfl:k=p.globals.length:=J
 rw [dAf]
 refine go 5 ?_
 refine bMj (α:=Unit) (λ_ _=>True) (p.mutexes.length) 8 (λ_=>((aY vG++(aY vM++aY vF))++[b1,b2])) (λk _=>⟨⟨b2,27,[Nl,Nl,Nl]⟩::⟨b1,27,[.val vG,.val vM,.val vF]⟩::bx,⟨vG,63,2,p.globals.length,(p.globals.map (mG (rn a b))).flatMap dB⟩::⟨vM,60,3,p.mutexes.length,(pm (mM (rn a b)) k p.mutexes).flatMap bT⟩::⟨vF,67,3,p.funcs.length,(p.funcs).flatMap fV⟩::rw⟩) (λ_=>[(1,Cs a),(2,Cs b),(3,pP b1),(6,pP b2)]) () trivial (cQf BP) ?_
 rintro k ⟨⟩ hk -
 try dsimp only
 refine go 6 ?_
 refine wyz Y (kV [_] Y Y Y runUnderlying24) ?_
 by_cases h7:((k:Nat):Int)<((p.mutexes.length:Nat):Int)
 ·refine wcp true Y (jZ h7) (go 8 ?_)
  have hkl:k<p.mutexes.length:=J
  refine aEw [_] J λgM cM hgM=>?_
  subst hgM
  refine go 4 ?_
  refine wyz Y (dH (z:=3) k Y Y Y Y hkl runUnderlying24 sizeOf60) ?_
  refine wyz Y (id <|uX 0 (0+k*3+0) runUnderlying60 sizeOf9) ?_
  refine wyz Y (rM [_] isAgg9 sizeOf9 (dCs (g:=mM (rn a b)) mZ hkl 0 _ Y)) (go 1 ?_)
  by_cases h9:p.mutexes[k].name=a
  focus
   refine wyz Y (aZ true Y Y Y (aL8 h9)) (go 8 ?_)
   refine wyz Y (dH (z:=3) k Y Y Y Y hkl runUnderlying24 sizeOf60) ?_
   refine wyz Y (id <|uX 0 (0+k*3+0) runUnderlying60 sizeOf9) ?_
   refine wo Y (aO0 (r:=(pm (mM (rn a b)) (k+1) p.mutexes).flatMap bT) [_] Y Y Y Y Y sizeOf9 Y (cZ4 (g:=mM (rn a b)) mZ hkl 0 1 V) (dCr mZ hkl 0 _ (Nat.le_of_ble_eq_true Y) (dEw h9)) Cq FW ?_)
   refine go 5 ?_
   refine wad Y (go 2 ?_)
  rotate_left
  refine wyz Y (aZ false Y Y Y (aLs h9)) (go 8 ?_)
  refine wad Y (go 2 ?_)
  rw [dCo (g:=mM (rn a b)) hkl (dD4 h9)]
  all_goals
   exact ⟨J,(),trivial,cQf (h:=aG Y (gQ J) (sA Y)) BP⟩
 refine wcp false Y (jQ h7) (go 10 ?_)
 obtain rfl:k=p.mutexes.length:=J
 rw [dAf]
 refine go 5 ?_
 refine bMj (α:=Unit) (λ_ _=>True) (p.funcs.length) 9 (λ_=>((aY vG++(aY vM++aY vF))++[b1,b2])) (λk _=>⟨⟨b2,27,[Nl,Nl,Nl]⟩::⟨b1,27,[.val vG,.val vM,.val vF]⟩::bx,⟨vG,63,2,p.globals.length,(p.globals.map (mG (rn a b))).flatMap dB⟩::⟨vM,60,3,p.mutexes.length,(p.mutexes.map (mM (rn a b))).flatMap bT⟩::⟨vF,67,3,p.funcs.length,(pm (mF (rn a b) id) k p.funcs).flatMap fV⟩::rw⟩) (λ_=>[(1,Cs a),(2,Cs b),(3,pP b1),(6,pP b2)]) () trivial (cQf BP) ?_
 rintro k ⟨⟩ hk -
 try dsimp only
 refine go 6 ?_
 refine wyz Y (kV [_,_] Y Y Y runUnderlying25) ?_
 by_cases h13:((k:Nat):Int)<((p.funcs.length:Nat):Int)
 ·refine wcp true Y (jZ h13) (go 7 ?_)
  have hkl:k<p.funcs.length:=J
  refine aEw [_,_] J λgF cF hgF=>?_
  subst hgF
  refine cG2 (λ_:Unit=>(⟨103,((aY vG++(aY vM++aY (.slice (some ⟨gF,0,none⟩) p.funcs.length cF)))++[b1,b2]),⟨⟨b2,27,[Nl,Nl,Nl]⟩::⟨b1,27,[.val vG,.val vM,.val (.slice (some ⟨gF,0,none⟩) p.funcs.length cF)]⟩::bx,⟨vG,63,2,p.globals.length,(p.globals.map (mG (rn a b))).flatMap dB⟩::⟨vM,60,3,p.mutexes.length,(p.mutexes.map (mM (rn a b))).flatMap bT⟩::⟨(.slice (some ⟨gF,0,none⟩) p.funcs.length cF),67,3,p.funcs.length,((pm (mF (rn a b) id) k p.funcs).set k (nF (rn a b) p.funcs[k])).flatMap fV⟩::rw⟩,(9,nI k)::[(1,Cs a),(2,Cs b),(3,pP b1),(6,pP b2)]⟩:AS)) ?_ ?_
  ·refine go 5 ?_
   refine wyz Y (dH (z:=3) k Y Y Y Y hkl runUnderlying25 sizeOf67) ?_
   refine wyz Y (id <|uX 0 (0+k*3+0) runUnderlying67 sizeOf9) ?_
   refine wyz Y (rM [_,_] isAgg9 sizeOf9 (dCs (g:=mF (rn a b) id) vC hkl 0 _ Y)) (go 1 ?_)
   by_cases h15:p.funcs[k].name=a
   focus
    refine wyz Y (aZ true Y Y Y (aL8 h15)) (go 8 ?_)
    refine wyz Y (dH (z:=3) k Y Y Y Y hkl runUnderlying25 sizeOf67) ?_
    refine wyz Y (id <|uX 0 (0+k*3+0) runUnderlying67 sizeOf9) ?_
    refine wo Y (aO0 (r:=((pm (mF (rn a b) id) k p.funcs).set k (nF (rn a b) p.funcs[k])).flatMap fV) [_,_] Y Y Y Y Y sizeOf9 Y (cZ4 (g:=mF (rn a b) id) vC hkl 0 1 V) (dDb vC hkl 0 _ _ (Nat.le_of_ble_eq_true Y) (dEs h15)) Cq FW ?_)
    refine go 1 ?_
   rotate_left
   refine wyz Y (aZ false Y Y Y (aLs h15)) (go 4 ?_)
   rw [dDw h15,dCl hkl]
   all_goals
    exact ⟨(),cQf BP⟩
  rintro ⟨⟩
  try dsimp only
  refine bTy 14 [b2,b1,gF] [] #[true,true,true,true,true,true,true,true,true,true,true,true,true,true,false] B6 B6 B6 ?_
  refine tz [(0,true),(1,true),(2,true),(3,true),(4,true),(5,true)] 8 (go 7 ?_)
  refine tx 6 Y (dH (z:=3) k Y Y Y Y hkl runUnderlying25 sizeOf67) ?_
  refine tx 7 Y (id <|uX 2 (0+k*3+2) runUnderlying67 sizeOf65) ?_
  refine tx 8 Y (rM (hU:=λ_ h=>(kH.1 h).2 G0) [_,_] isAgg65 sizeOf65 (dEz (g:=mF (rn a b) id) vC hkl (nF (rn a b) p.funcs[k]) 2 _ Y)) (tz [(9,true),(10,true)] 3 (go 3 ?_))
  refine ox 11 Y Y (bV Y Y V call28 Y (dDe _ p.funcs[k].body a b (Nat.le_refl _) (by have:=aDi bS.wt p.funcs k hkl;have h7:bS.wt p.funcs[k]=1+p.funcs[k].params.length+wtS p.funcs[k].body:=rfl;omega) _) ?_)
  rintro _ _ ⟨rfl,rfl⟩
  refine tx 12 Y (dH (z:=3) k Y Y Y Y hkl runUnderlying25 sizeOf67) ?_
  refine tx 13 Y (id <|uX 2 (0+k*3+2) runUnderlying67 sizeOf65) ?_
  refine ax ?_
  refine id ?_
  refine ox 14 Y Y (id <|aO0 (r:=(pm (mF (rn a b) id) (k+1) p.funcs).flatMap fV) [_,_] Y Y Y Y Y sizeOf65 Y (dD3 vC hkl (nF (rn a b) p.funcs[k]) 2 1 V) (dEv vC hkl (nF (rn a b) p.funcs[k]) 2 _ (Nat.le_of_ble_eq_true Y) (by rw [dEl];rfl)) Cq (λhn=>cZl (r:=(⟨(.slice (some ⟨gF,0,none⟩) p.funcs.length cF),67,3,p.funcs.length,((pm (mF (rn a b) id) k p.funcs).set k (nF (rn a b) p.funcs[k])).flatMap fV⟩:bA)) hn Cq) ?_)
  refine ax (go 4 ?_)
  refine wad Y (go 2 ?_)
  exact ⟨J,(),trivial,cQf (h:=aG Y (gQ J) (sA Y)) BP⟩
 refine wcp false Y (jQ h13) (go 10 ?_)
 obtain rfl:k=p.funcs.length:=J
 rw [dAf]
 refine aAg [_] 0 Y Y ?_
 refine aAg [_] 1 Y Y ?_
 refine aAg [_] 2 Y Y ?_
 refine go 5 ?_
 exact ⟨.inr Y,_,⟨bx,rw⟩,aR Y (aO [] Y Y isAgg27 sizeOf27 (bK Y Y)),aA (.cons _ (.cons _ (.refl _))) (.refl _),dGe (dGd (List.length_map _).symm) (dGd (List.length_map _).symm) (dGd (List.length_map _).symm),Y⟩
end
end Go.Proofs.YtjgeihmhppadaaaGreatDoor
