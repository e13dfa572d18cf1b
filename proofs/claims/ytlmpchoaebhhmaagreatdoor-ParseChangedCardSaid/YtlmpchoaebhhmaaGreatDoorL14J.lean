import Derived.Test.YtlmpchoaebhhmaaGreatDoorL5J
import Derived.Test.YtlmpchoaebhhmaaGreatDoorL4J
import Derived.Test.YtlmpchoaebhhmaaGreatDoorL13J
import Derived.Test.YtlmpchoaebhhmaaGreatDoorProg
import Derived.Test.YtlmpchoaebhhmaaGreatDoorL9J
import Derived.Test.YtlmpchoaebhhmaaGreatDoorL0J
import Derived.Test.YtlmpchoaebhhmaaGreatDoorL1J
set_option linter.all false
set_option synthInstance.maxHeartbeats 1000000
set_option synthInstance.maxSize 1000000
set_option maxHeartbeats 1600000
set_option maxRecDepth 100000
namespace Go.Proofs.YtlmpchoaebhhmaaGreatDoor
open Go.Proofs.Tryz
open List (length_append length_cons length_nil mem_append mem_cons not_mem_nil append_assoc getElem_mem take_of_length_le)
section
open Go.RowKit
theorem aA3(op num:Int)(name:ByteArray)(args:List aH)(hl:args.length <= 1000000000)(ih:∀k (h:k<args.length) (s:Sto),aL prog 94 [.agg (cU args[k]),.agg (cU args[k])] [] s fun r s'=>r=.c (.val (.bool true)) /\ s'=s)(s:Sto):
  aL prog 94 [.agg [.val (.int .i64 op),.val (.int .i64 num),.val (.string name),.sl args.length (args.flatMap fO)],.agg [.val (.int .i64 op),.val (.int .i64 num),.val (.string name),.sl args.length (args.flatMap fO)]] [] s fun r s'=>r=.c (.val (.bool true)) /\ s'=s:=by
 obtain ⟨bx,rw⟩:=s
 refine acB func94 rfl ?_
 show AWp prog _ ⟨53,_,⟨bx,rw⟩,[(0,.agg [.val (.int .i64 op),.val (.int .i64 num),.val (.string name),.sl args.length (args.flatMap fO)]),(1,.agg [.val (.int .i64 op),.val (.int .i64 num),.val (.string name),.sl args.length (args.flatMap fO)])]⟩ _
 refine go 14 fun b1 b2=>?_
 refine wcp false rfl (by simp [bC]) ?_
 refine go 5 ?_
 refine wcp false rfl (by simp [bC]) ?_
 refine go 6 ?_
 refine wyz rfl (aZ false rfl rfl rfl (by simp [oM])) ?_
 refine go 8 ?_
 refine wcp false rfl (by simp [bC]) ?_
 refine go 13 ?_
 refine tW (args.length) 5 [(2,_),(3,_)] (sA rfl) fun k hk=>?_
 refine go 7 ?_
 refine wyz rfl (bO _ rfl rfl rfl rfl) ?_
 refine go 2 ?_
 refine gY rfl (fun hc2=>?_) (fun hc2=>?_)
 ·have hk2:k<args.length:=by simpa using hc2
  refine go 5 ?_
  refine aB [b2,b1] (by kernel_rfl) ?_
  refine tks [(0,true),(1,true),(2,true)] 9 (by kernel_rfl) ?_
  refine go 4 ?_
  refine tr 3 (by kernel_rfl) rfl (bH fO cU args iU fP k rfl rfl rfl rfl hk2 (by decide) runUnderlying87 sizeOf89) ?_
  refine tks [(4,true),(5,true),(6,true),(7,true)] 4 (by kernel_rfl) ?_
  refine go 5 ?_
  refine tr 8 (by kernel_rfl) rfl (bH fO cU args iU fP k rfl rfl rfl rfl hk2 (by decide) runUnderlying87 sizeOf89) ?_
  refine tks [(9,true)] 2 (by kernel_rfl) ?_
  refine go 2 ?_
  refine one 10 (by kernel_rfl) rfl rfl (bD [] rfl rfl (by decide) call94 rfl (ih k hk2 ⟨_,_⟩) bDl bDl (fun _=>bDl) ?_)
  rintro r3 s3 ⟨rfl,rfl⟩
  refine tks [(11,true)] 0 (by kernel_rfl) ?_
  refine go 2 ?_
  refine aE (by kernel_rfl) ?_
  refine go 7 ?_
  refine wad rfl ?_
  refine go 2 ?_
  exact ⟨by omega,(sA rfl)⟩
 refine go 11 ?_
 exact bHe (s':=⟨bx,rw⟩) rfl sb2 ⟨rfl,rfl⟩
mutual
theorem mM:∀(x:aH),x.nodes <= 1000000000 -> ∀(s:Sto),aL prog 94 [.agg (cU x),.agg (cU x)] [] s fun r s'=>r=.c (.val (.bool true)) /\ s'=s
 |.mk op num name args,hn,s=>aA3 op num name args (by have:=tN args;simp only [aH.nodes] at hn;omega) (fun k h s=>tE args (by simp only [aH.nodes] at hn;omega) k h s) s
theorem tE:∀(l:List aH),cZ l <= 1000000000 -> ∀(k:Nat)(h:k<l.length)(s:Sto),aL prog 94 [.agg (cU l[k]),.agg (cU l[k])] [] s fun r s'=>r=.c (.val (.bool true)) /\ s'=s
 |[],_,_,h,_=>absurd h (by simp)
 |e::es,hn,0,_,s=>mM e (by simp only [cZ] at hn;omega) s
 |e::es,hn,k+1,h,s=>tE es (by simp only [cZ] at hn;omega) k (by simpa using h) s
end
theorem aE8(name:ByteArray)(s:Sto):aL prog 95 [.agg [.val (.string name),.sl 0 []],.agg [.val (.string name),.sl 0 []]] [] s fun r s'=>r=.c (.val (.bool true)) /\ s'=s:=by
 obtain ⟨bx,rw⟩:=s
 refine acB func95 rfl ?_
 show AWp prog _ ⟨40,_,⟨bx,rw⟩,[(0,.agg [.val (.string name),.sl 0 []]),(1,.agg [.val (.string name),.sl 0 []])]⟩ _
 refine go 14 fun b1 b2=>?_
 refine wyz rfl (aZ false rfl rfl rfl (by simp [oM])) ?_
 refine go 7 ?_
 refine wcp false rfl (by simp [bC]) ?_
 refine go 7 ?_
 refine aB [b2,b1] (by kernel_rfl) ?_
 refine tks [(0,true),(1,true),(2,true)] 19 (by kernel_rfl) ?_
 refine go 4 ?_
 refine tr 3 (by kernel_rfl) rfl (bO true rfl rfl rfl (by simp [bC])) ?_
 refine tks [(4,true),(5,true),(6,true),(7,true),(8,true),(9,true),(10,true),(11,true),(12,true),(13,true),(14,true),(15,true),(16,true),(17,true),(18,true),(19,true),(20,true),(21,true)] 0 (by kernel_rfl) ?_
 refine go 19 ?_
 refine aE (by kernel_rfl) ?_
 refine go 2 ?_
 exact bHe (s':=⟨bx,rw⟩) rfl sb2 ⟨rfl,rfl⟩
theorem aFy(name:ByteArray)(x:aH)(hx:x.nodes <= 1000000000)(s:Sto):aL prog 95 [.agg [.val (.string name),.sl [x].length ([x].flatMap fO)],.agg [.val (.string name),.sl [x].length ([x].flatMap fO)]] [] s fun r s'=>r=.c (.val (.bool true)) /\ s'=s:=by
 obtain ⟨bx,rw⟩:=s
 refine acB func95 rfl ?_
 show AWp prog _ ⟨40,_,⟨bx,rw⟩,[(0,.agg [.val (.string name),.sl [x].length ([x].flatMap fO)]),(1,.agg [.val (.string name),.sl [x].length ([x].flatMap fO)])]⟩ _
 refine go 14 fun b1 b2=>?_
 refine wyz rfl (aZ false rfl rfl rfl (by simp [oM])) ?_
 refine go 7 ?_
 refine wcp false rfl (by simp [bC]) ?_
 refine go 7 ?_
 refine aB [b2,b1] (by kernel_rfl) ?_
 refine tks [(0,true),(1,true),(2,true)] 19 (by kernel_rfl) ?_
 refine go 4 ?_
 refine tr 3 (by kernel_rfl) rfl (bO false rfl rfl rfl rfl) ?_
 refine tks [(4,true),(5,true),(6,true),(7,true)] 14 (by kernel_rfl) ?_
 refine go 5 ?_
 refine tr 8 (by kernel_rfl) rfl (bO true rfl rfl rfl (by simp [bC])) ?_
 refine tks [(9,true),(10,true),(11,true)] 10 (by kernel_rfl) ?_
 refine go 4 ?_
 refine tr 12 (by kernel_rfl) rfl (bH fO cU [x] iU fP 0 rfl rfl rfl rfl (by simp) (by decide) runUnderlying87 sizeOf89) ?_
 refine tks [(13,true),(14,true),(15,true)] 6 (by kernel_rfl) ?_
 refine go 4 ?_
 refine tr 16 (by kernel_rfl) rfl (bH fO cU [x] iU fP 0 rfl rfl rfl rfl (by simp) (by decide) runUnderlying87 sizeOf89) ?_
 refine tks [(17,true)] 4 (by kernel_rfl) ?_
 refine go 2 ?_
 refine one 18 (by kernel_rfl) rfl rfl (bD [] rfl rfl (by decide) call94 rfl (mM x hx ⟨_,_⟩) bDl bDl (fun _=>bDl) ?_)
 rintro r2 s2 ⟨rfl,rfl⟩
 refine tks [(19,true),(20,true),(21,true)] 0 (by kernel_rfl) ?_
 refine go 4 ?_
 refine aE (by kernel_rfl) ?_
 refine go 2 ?_
 exact bHe (s':=⟨bx,rw⟩) rfl sb2 ⟨rfl,rfl⟩
theorem wT(x:cY)(hx:x.small 1000000000)(s:Sto):aL prog 95 [.agg (encR x),.agg (encR x)] [] s fun r s'=>r=.c (.val (.bool true)) /\ s'=s:=by
 obtain ⟨name,index⟩:=x
 obtain ⟨h1,h2⟩:=hx
 match index,h1,h2 with
 |[],_,_=>exact aE8 name s
 |[x],_,h2=>exact aFy name x (h2 x (by simp)) s
 |_::_::_,h1,_=>simp at h1
theorem nN(l:List aJ)(hl:l.length <= 1000000000)(hs:∀k (h:k<l.length),l[k].expr.nodes <= 1000000000 /\ l[k].ref.small 1000000000 /\ l[k].args.length <= 1000000000 /\ (∀x,x∈l[k].args -> x.small 1000000000) /\ True)
  (ih1:∀k (h:k<l.length) (s:Sto),aL prog 49 [.c (.sl l[k].thn.length (l[k].thn.flatMap encS)),.c (.sl l[k].thn.length (l[k].thn.flatMap encS))] [] s fun r s'=>r=.c (.val (.bool true)) /\ s'=s) (ih2:∀k (h:k<l.length) (s:Sto),aL prog 49 [.c (.sl l[k].els.length (l[k].els.flatMap encS)),.c (.sl l[k].els.length (l[k].els.flatMap encS))] [] s fun r s'=>r=.c (.val (.bool true)) /\ s'=s) (s:Sto):aL prog 49 [.c (.sl l.length (l.flatMap encS)),.c (.sl l.length (l.flatMap encS))] [] s fun r s'=>r=.c (.val (.bool true)) /\ s'=s:=by
 obtain ⟨bx,rw⟩:=s
 refine acB func49 rfl ?_
 show AWp prog _ ⟨133,_,⟨bx,rw⟩,[(0,.c (.sl l.length (l.flatMap encS))),(1,.c (.sl l.length (l.flatMap encS)))]⟩ _
 refine go 12 ?_
 refine wcp false rfl (by simp [bC]) ?_
 refine go 12 ?_
 refine tW (l.length) 5 [(0,_),(1,_)] (sA rfl) fun k hk=>?_
 refine go 6 ?_
 refine wyz rfl (bO _ rfl rfl rfl rfl) ?_
 refine go 2 ?_
 refine gY rfl (fun hc2=>?_) (fun hc2=>?_)
 ·have hk2:k<l.length:=by simpa using hc2
  have hal:l[k].args.length <= 1000000000:=(hs k hk2).2.2.1
  refine go 5 ?_
  refine aB [] (by kernel_rfl) ?_
  refine tks [(0,true),(1,true)] 10 (by kernel_rfl) ?_
  refine go 3 ?_
  refine tr 2 (by kernel_rfl) rfl (bH encS dG l mE cJ k rfl rfl rfl rfl hk2 (by decide) runUnderlying42 sizeOf94) ?_
  refine tks [(3,true),(4,true),(5,true)] 6 (by kernel_rfl) ?_
  refine go 4 ?_
  refine tr 6 (by kernel_rfl) rfl (bH encS dG l mE cJ k rfl rfl rfl rfl hk2 (by decide) runUnderlying42 sizeOf94) ?_
  refine tks [(7,true)] 4 (by kernel_rfl) ?_
  refine go 2 ?_
  refine aI1 8 9 (by kernel_rfl) (by kernel_rfl) (by kernel_rfl) rfl rfl rfl rfl rfl rfl rfl rfl (by decide) rfl rfl (by decide) (by decide) (by decide) zeroValue94 rfl zeroValue94 rfl fun b1 b2=>?_
  refine tks [(10,false),(11,false)] 0 (by kernel_rfl) ?_
  refine go 3 ?_
  refine aE (by kernel_rfl) ?_
  refine go 8 ?_
  refine wcp false rfl (by simp [bC]) ?_
  refine go 5 ?_
  refine wyz rfl (aZ false rfl rfl rfl (by simp [oM])) ?_
  refine go 6 ?_
  refine wo rfl (bD [] rfl rfl (by decide) call94 rfl (mM l[k].expr (hs k hk2).1 ⟨_,_⟩) bDl bDl (fun _=>bDl) ?_)
  rintro r3 s3 ⟨rfl,rfl⟩
  refine go 7 ?_
  refine wo rfl (bD [] rfl rfl (by decide) call95 rfl (wT l[k].ref (hs k hk2).2.1 ⟨_,_⟩) bDl bDl (fun _=>bDl) ?_)
  rintro r4 s4 ⟨rfl,rfl⟩
  refine go 9 ?_
  refine wcp false rfl (by simp [bC]) ?_
  refine go 6 ?_
  refine wo rfl (bD [] rfl rfl (by decide) call49 rfl (ih1 k hk2 ⟨_,_⟩) bDl bDl (fun _=>bDl) ?_)
  rintro r5 s5 ⟨rfl,rfl⟩
  refine go 7 ?_
  refine wo rfl (bD [] rfl rfl (by decide) call49 rfl (ih2 k hk2 ⟨_,_⟩) bDl bDl (fun _=>bDl) ?_)
  rintro r6 s6 ⟨rfl,rfl⟩
  refine go 13 ?_
  refine tW (l[k].args.length) 8 [(0,_),(1,_),(5,_),(6,_),(7,_)] (sA rfl) fun j hj=>?_
  refine go 7 ?_
  refine wyz rfl (bO _ rfl rfl rfl rfl) ?_
  refine go 2 ?_
  refine gY rfl (fun hc8=>?_) (fun hc8=>?_)
  ·have hj2:j<l[k].args.length:=by simpa using hc8
   refine go 5 ?_
   refine aB [b2,b1] (by kernel_rfl) ?_
   refine tks [(0,true),(1,true),(2,true)] 42 (by kernel_rfl) ?_
   refine go 4 ?_
   refine tr 3 (by kernel_rfl) rfl (bH eJ eJ l[k].args iD (fun _=>rfl) j rfl rfl rfl rfl hj2 (by decide) runUnderlying92 sizeOf142) ?_
   refine tks [(4,true),(5,true),(6,true),(7,true),(8,true)] 36 (by kernel_rfl) ?_
   refine go 6 ?_
   refine tr 9 (by kernel_rfl) rfl (bH eJ eJ l[k].args iD (fun _=>rfl) j rfl rfl rfl rfl hj2 (by decide) runUnderlying92 sizeOf142) ?_
   refine tks [(10,true),(11,true)] 33 (by kernel_rfl) ?_
   refine go 3 ?_
   refine tr 12 (by kernel_rfl) rfl (aJ8 false rfl rfl rfl runUnderlying4 (by simp [aEb])) ?_
   refine tks [(13,true),(14,true),(15,true),(16,true)] 28 (by kernel_rfl) ?_
   refine go 5 ?_
   refine tr 17 (by kernel_rfl) rfl (bH eJ eJ l[k].args iD (fun _=>rfl) j rfl rfl rfl rfl hj2 (by decide) runUnderlying92 sizeOf142) ?_
   refine tks [(18,true),(19,true),(20,true),(21,true),(22,true)] 22 (by kernel_rfl) ?_
   refine go 6 ?_
   refine tr 23 (by kernel_rfl) rfl (bH eJ eJ l[k].args iD (fun _=>rfl) j rfl rfl rfl rfl hj2 (by decide) runUnderlying92 sizeOf142) ?_
   refine tks [(24,true),(25,true)] 19 (by kernel_rfl) ?_
   refine go 3 ?_
   refine one 26 (by kernel_rfl) rfl rfl (bD [] rfl rfl (by decide) call95 rfl (wT l[k].args[j].ref ((hs k hk2).2.2.2.1 _ (getElem_mem hj2)).1 ⟨_,_⟩) bDl bDl (fun _=>bDl) ?_)
   rintro r9 s9 ⟨rfl,rfl⟩
   refine tks [(27,true),(28,true),(29,true),(30,true),(31,true),(32,true)] 12 (by kernel_rfl) ?_
   refine go 7 ?_
   refine tr 33 (by kernel_rfl) rfl (bH eJ eJ l[k].args iD (fun _=>rfl) j rfl rfl rfl rfl hj2 (by decide) runUnderlying92 sizeOf142) ?_
   refine tks [(34,true),(35,true),(36,true),(37,true),(38,true)] 6 (by kernel_rfl) ?_
   refine go 6 ?_
   refine tr 39 (by kernel_rfl) rfl (bH eJ eJ l[k].args iD (fun _=>rfl) j rfl rfl rfl rfl hj2 (by decide) runUnderlying92 sizeOf142) ?_
   refine tks [(40,true),(41,true)] 3 (by kernel_rfl) ?_
   refine go 3 ?_
   refine one 42 (by kernel_rfl) rfl rfl (bD [] rfl rfl (by decide) call94 rfl (mM l[k].args[j].expr ((hs k hk2).2.2.2.1 _ (getElem_mem hj2)).2 ⟨_,_⟩) bDl bDl (fun _=>bDl) ?_)
   rintro r10 s10 ⟨rfl,rfl⟩
   refine tks [(43,true),(44,true)] 0 (by kernel_rfl) ?_
   refine go 3 ?_
   refine aE (by kernel_rfl) ?_
   refine go 7 ?_
   refine wad rfl ?_
   refine go 2 ?_
   exact ⟨by omega,(sA rfl)⟩
  refine go 8 ?_
  refine wad rfl ?_
  refine go 2 ?_
  exact ⟨by omega,cA (.cons _ (.cons _ (.refl _))) (.refl _) (fun b hb=>List.mem_cons_of_mem _ (List.mem_cons_of_mem _ (hb))) (sA rfl)⟩
 refine go 11 ?_
 exact bHe (s':=⟨bx,rw⟩) rfl sb0 ⟨rfl,rfl⟩
theorem rJ{x:aJ}(h:x.small 1000000000):x.expr.nodes <= 1000000000 /\ x.ref.small 1000000000 /\ x.args.length <= 1000000000 /\ (∀a,a∈x.args -> a.small 1000000000) /\ True:=by
 cases x;rw [aJ.small] at h;exact ⟨h.1,h.2.1,h.2.2.1,h.2.2.2.1,trivial⟩
mutual
theorem aC3:∀(x:aJ),x.small 1000000000 -> (∀(s:Sto),aL prog 49 [.c (.sl x.thn.length (x.thn.flatMap encS)),.c (.sl x.thn.length (x.thn.flatMap encS))] [] s fun r s'=>r=.c (.val (.bool true)) /\ s'=s) /\ ∀(s:Sto),aL prog 49 [.c (.sl x.els.length (x.els.flatMap encS)),.c (.sl x.els.length (x.els.flatMap encS))] [] s fun r s'=>r=.c (.val (.bool true)) /\ s'=s
 |.mk k n e r a t f,h=>by
  rw [aJ.small] at h
  exact ⟨fun s=>nN t h.2.2.2.2.1 (fun k hk=>rJ (nR.1 h.2.2.2.2.2.1 _ (getElem_mem hk))) (fun k hk s=>(kJ t h.2.2.2.2.2.1 k hk).1 s) (fun k hk s=>(kJ t h.2.2.2.2.2.1 k hk).2 s) s,
   fun s=>nN f h.2.2.2.2.2.2.1 (fun k hk=>rJ (nR.1 h.2.2.2.2.2.2.2 _ (getElem_mem hk))) (fun k hk s=>(kJ f h.2.2.2.2.2.2.2 k hk).1 s) (fun k hk s=>(kJ f h.2.2.2.2.2.2.2 k hk).2 s) s⟩
theorem kJ:∀(l:List aJ),smalls 1000000000 l -> ∀k (h:k<l.length),(∀(s:Sto),aL prog 49 [.c (.sl l[k].thn.length (l[k].thn.flatMap encS)),.c (.sl l[k].thn.length (l[k].thn.flatMap encS))] [] s fun r s'=>r=.c (.val (.bool true)) /\ s'=s) /\ ∀(s:Sto),aL prog 49 [.c (.sl l[k].els.length (l[k].els.flatMap encS)),.c (.sl l[k].els.length (l[k].els.flatMap encS))] [] s fun r s'=>r=.c (.val (.bool true)) /\ s'=s
 |[],_,_,h=>absurd h (by simp)
 |x::l,hs,0,_=>by rw [smalls] at hs;exact aC3 x hs.1
 |x::l,hs,k+1,h=>by rw [smalls] at hs;exact kJ l hs.2 k (by simpa using h)
end
theorem aAy(l:List aJ)(hl:l.length <= 1000000000)(h:smalls 1000000000 l)(s:Sto):aL prog 49 [.c (.sl l.length (l.flatMap encS)),.c (.sl l.length (l.flatMap encS))] [] s fun r s'=>r=.c (.val (.bool true)) /\ s'=s:=
 nN l hl (fun k hk=>rJ (nR.1 h _ (getElem_mem hk))) (fun k hk s=>(kJ l h k hk).1 s) (fun k hk s=>(kJ l h k hk).2 s) s
theorem aYs(d:Nat)(s:ByteArray)(i:Int)(w:World):(Op.equalIn (d+1+1) 69 (.agg #[.string s,.int .i64 i]) (.agg #[.string s,.int .i64 i])).run prog w=.ok true w:=by
 simp [Op.equalIn,go_sem,aG6]
theorem eqG(s:ByteArray)(i:Int)(w:World):(Op.equal 69 (.agg #[.string s,.int .i64 i]) (.agg #[.string s,.int .i64 i])).run prog w=.ok true w:=aYs _ s i w
theorem aX7(d:Nat)(s:ByteArray)(b:Bool)(i:Int)(w:World):(Op.equalIn (d+1+1) 71 (.agg #[.string s,.bool b,.int .i64 i]) (.agg #[.string s,.bool b,.int .i64 i])).run prog w=.ok true w:=by
 simp [Op.equalIn,go_sem,aG6]
theorem eqM(s:ByteArray)(b:Bool)(i:Int)(w:World):(Op.equal 71 (.agg #[.string s,.bool b,.int .i64 i]) (.agg #[.string s,.bool b,.int .i64 i])).run prog w=.ok true w:=aX7 _ s b i w
theorem aYx(d:Nat)(s:ByteArray)(b:Bool)(w:World):(Op.equalIn (d+1+1) 73 (.agg #[.string s,.bool b]) (.agg #[.string s,.bool b])).run prog w=.ok true w:=by
 simp [Op.equalIn,go_sem,aG6]
theorem eqP(s:ByteArray)(b:Bool)(w:World):(Op.equal 73 (.agg #[.string s,.bool b]) (.agg #[.string s,.bool b])).run prog w=.ok true w:=aYx _ s b w
theorem aMe(p:cK)(hp:p.small 1000000000)(s:Sto):aL prog 29 [.agg (jV p),.agg (jV p)] [] s fun r s'=>r=.c (.val (.bool true)) /\ s'=s:=by
 obtain ⟨bx,rw⟩:=s
 have hgl:=hp.1
 have hml:=hp.2.1
 have hfl:=hp.2.2.1
 refine acB func29 rfl ?_
 show AWp prog _ ⟨129,_,⟨bx,rw⟩,[(0,.agg (jV p)),(1,.agg (jV p))]⟩ _
 refine go 16 fun b1 b2=>?_
 refine wcp false rfl (by simp [bC]) ?_
 refine go 7 ?_
 refine wcp false rfl (by simp [bC]) ?_
 refine go 8 ?_
 refine wcp false rfl (by simp [bC]) ?_
 refine go 13 ?_
 refine tW (p.globals.length) 5 [(2,_),(3,_)] (sA rfl) fun k hk=>?_
 refine go 7 ?_
 refine wyz rfl (bO _ rfl rfl rfl rfl) ?_
 refine go 2 ?_
 refine gY rfl (fun hc2=>?_) (fun hc2=>?_)
 ·have hk2:k<p.globals.length:=by simpa using hc2
  refine go 5 ?_
  refine aB [b2,b1] (by kernel_rfl) ?_
  refine tks [(0,true),(1,true),(2,true)] 8 (by kernel_rfl) ?_
  refine go 4 ?_
  refine tr 3 (by kernel_rfl) rfl (bH dB dB p.globals nS (fun _=>rfl) k rfl rfl rfl rfl hk2 (by decide) runUnderlying31 sizeOf69) ?_
  refine tks [(4,true),(5,true),(6,true),(7,true)] 3 (by kernel_rfl) ?_
  refine go 5 ?_
  refine tr 8 (by kernel_rfl) rfl (bH dB dB p.globals nS (fun _=>rfl) k rfl rfl rfl rfl hk2 (by decide) runUnderlying31 sizeOf69) ?_
  refine tks [(9,true)] 1 (by kernel_rfl) ?_
  refine go 2 ?_
  refine tr 10 (by kernel_rfl) rfl (yI [.string p.globals[k].name,.int .i64 p.globals[k].init] false rfl rfl rfl eqGuardType69 (fun w=>eqG _ _ w) rfl) ?_
  refine aE (by kernel_rfl) ?_
  refine go 7 ?_
  refine wad rfl ?_
  refine go 2 ?_
  exact ⟨by omega,(sA rfl)⟩
 refine go 12 ?_
 refine tW (p.mutexes.length) 6 [(2,_),(3,_)] (sA rfl) fun k hk=>?_
 refine go 7 ?_
 refine wyz rfl (bO _ rfl rfl rfl rfl) ?_
 refine go 2 ?_
 refine gY rfl (fun hc4=>?_) (fun hc4=>?_)
 ·have hk2:k<p.mutexes.length:=by simpa using hc4
  refine go 5 ?_
  refine aB [b2,b1] (by kernel_rfl) ?_
  refine tks [(0,true),(1,true),(2,true)] 8 (by kernel_rfl) ?_
  refine go 4 ?_
  refine tr 3 (by kernel_rfl) rfl (bH bT bT p.mutexes mZ (fun _=>rfl) k rfl rfl rfl rfl hk2 (by decide) runUnderlying32 sizeOf71) ?_
  refine tks [(4,true),(5,true),(6,true),(7,true)] 3 (by kernel_rfl) ?_
  refine go 5 ?_
  refine tr 8 (by kernel_rfl) rfl (bH bT bT p.mutexes mZ (fun _=>rfl) k rfl rfl rfl rfl hk2 (by decide) runUnderlying32 sizeOf71) ?_
  refine tks [(9,true)] 1 (by kernel_rfl) ?_
  refine go 2 ?_
  refine tr 10 (by kernel_rfl) rfl (yI [.string p.mutexes[k].name,.bool p.mutexes[k].reentrant,.int .i64 p.mutexes[k].size] false rfl rfl rfl eqGuardType71 (fun w=>eqM _ _ _ w) rfl) ?_
  refine aE (by kernel_rfl) ?_
  refine go 7 ?_
  refine wad rfl ?_
  refine go 2 ?_
  exact ⟨by omega,(sA rfl)⟩
 refine go 12 ?_
 refine tW (p.funcs.length) 7 [(2,_),(3,_)] (sA rfl) fun k hk=>?_
 refine go 7 ?_
 refine wyz rfl (bO _ rfl rfl rfl rfl) ?_
 refine go 2 ?_
 refine gY rfl (fun hc6=>?_) (fun hc6=>?_)
 ·have hk2:k<p.funcs.length:=by simpa using hc6
  obtain ⟨hpl,hbl,hbs⟩:=hp.2.2.2 _ (getElem_mem hk2)
  refine go 5 ?_
  refine aB [b2,b1] (by kernel_rfl) ?_
  refine tks [(0,true),(1,true),(2,true)] 11 (by kernel_rfl) ?_
  refine go 4 ?_
  refine tr 3 (by kernel_rfl) rfl (bH fV fV p.funcs vC (fun _=>rfl) k rfl rfl rfl rfl hk2 (by decide) runUnderlying33 sizeOf44) ?_
  refine tks [(4,true),(5,true),(6,true),(7,true)] 6 (by kernel_rfl) ?_
  refine go 5 ?_
  refine tr 8 (by kernel_rfl) rfl (bH fV fV p.funcs vC (fun _=>rfl) k rfl rfl rfl rfl hk2 (by decide) runUnderlying33 sizeOf44) ?_
  refine tks [(9,true)] 4 (by kernel_rfl) ?_
  refine go 2 ?_
  refine aI1 10 11 (by kernel_rfl) (by kernel_rfl) (by kernel_rfl) rfl rfl rfl rfl rfl rfl rfl rfl (by decide) rfl rfl (by decide) (by decide) (by decide) zeroValue44 rfl zeroValue44 rfl fun b3 b4=>?_
  refine tks [(12,false),(13,false)] 0 (by kernel_rfl) ?_
  refine go 3 ?_
  refine aE (by kernel_rfl) ?_
  refine go 8 ?_
  refine wyz rfl (aZ false rfl rfl rfl (by simp [oM])) ?_
  refine go 7 ?_
  refine wcp false rfl (by simp [bC]) ?_
  refine go 6 ?_
  refine wo rfl (bD [] rfl rfl (by decide) call49 rfl (aAy p.funcs[k].body hbl hbs ⟨_,_⟩) bDl bDl (fun _=>bDl) ?_)
  rintro r7 s7 ⟨rfl,rfl⟩
  refine go 13 ?_
  refine tW (p.funcs[k].params.length) 10 [(2,_),(3,_),(7,_),(8,_),(9,_)] (sA rfl) fun j hj=>?_
  refine go 7 ?_
  refine wyz rfl (bO _ rfl rfl rfl rfl) ?_
  refine go 2 ?_
  refine gY rfl (fun hc9=>?_) (fun hc9=>?_)
  ·have hj2:j<p.funcs[k].params.length:=by simpa using hc9
   refine go 5 ?_
   refine aB [b4,b3,b2,b1] (by kernel_rfl) ?_
   refine tks [(0,true),(1,true),(2,true)] 8 (by kernel_rfl) ?_
   refine go 4 ?_
   refine tr 3 (by kernel_rfl) rfl (bH cP cP p.funcs[k].params gL (fun _=>rfl) j rfl rfl rfl rfl hj2 (by decide) runUnderlying41 sizeOf73) ?_
   refine tks [(4,true),(5,true),(6,true),(7,true)] 3 (by kernel_rfl) ?_
   refine go 5 ?_
   refine tr 8 (by kernel_rfl) rfl (bH cP cP p.funcs[k].params gL (fun _=>rfl) j rfl rfl rfl rfl hj2 (by decide) runUnderlying41 sizeOf73) ?_
   refine tks [(9,true)] 1 (by kernel_rfl) ?_
   refine go 2 ?_
   refine tr 10 (by kernel_rfl) rfl (yI [.string p.funcs[k].params[j].name,.bool p.funcs[k].params[j].mutex] false rfl rfl rfl eqGuardType73 (fun w=>eqP _ _ w) rfl) ?_
   refine aE (by kernel_rfl) ?_
   refine go 7 ?_
   refine wad rfl ?_
   refine go 2 ?_
   exact ⟨by omega,(sA rfl)⟩
  refine go 8 ?_
  refine wad rfl ?_
  refine go 2 ?_
  exact ⟨by omega,cA (.cons _ (.cons _ (.refl _))) (.refl _) (fun b hb=>List.mem_cons_of_mem _ (List.mem_cons_of_mem _ (hb))) (sA rfl)⟩
 refine go 11 ?_
 exact bHe (s':=⟨bx,rw⟩) rfl sb2 ⟨rfl,rfl⟩
end
section
open Go.RowKit
abbrev aF6(l:List ByteArray):AC:=.sl l.length (l.map fun s=>.val (.string s))
abbrev aEm(l:List Int):AC:=.sl l.length (l.map fun n=>.val (.int .i64 n))
theorem aOi(s:Sto):aL prog 156 [nI 0] [] s fun t s'=>t=.tup [.c (aF6 (jP 0)),.c (aEm (dS 0))] /\ s'=s:=by
 obtain ⟨bx,rw⟩:=s
 refine acB func156 rfl ?_
 show AWp prog _ ⟨23,_,⟨bx,rw⟩,[(0,nI 0)]⟩ _
 refine go 15 ?_
 refine wcp true rfl (by simp [bC]) ?_
 refine go 6 ?_
 refine wo rfl (bDk bDw rfl (.cons rfl .nil) rfl ?_)
 refine wo rfl (bDk zb4 rfl (.cons rfl .nil) rfl ?_)
 refine go 7 ?_
 exact ⟨.inr rfl,_,⟨bx,rw⟩,uM rfl (aF rfl) (aF rfl),aA (.refl _) (.refl _),rfl,rfl⟩
theorem aOy(s:Sto):aL prog 156 [nI 1] [] s fun t s'=>t=.tup [.c (aF6 (jP 1)),.c (aEm (dS 1))] /\ s'=s:=by
 obtain ⟨bx,rw⟩:=s
 refine acB func156 rfl ?_
 show AWp prog _ ⟨23,_,⟨bx,rw⟩,[(0,nI 1)]⟩ _
 refine go 15 ?_
 refine wcp false rfl rfl ?_
 refine go 6 ?_
 refine wcp true rfl (by simp [bC]) ?_
 refine go 6 ?_
 refine wo rfl (bDk bDw rfl (.cons rfl .nil) rfl ?_)
 refine wo rfl (bDk zb4 rfl (.cons rfl .nil) rfl ?_)
 refine go 7 ?_
 exact ⟨.inr rfl,_,⟨bx,rw⟩,uM rfl (aF rfl) (aF rfl),aA (.refl _) (.refl _),rfl,rfl⟩
theorem aPo(s:Sto):aL prog 156 [nI 2] [] s fun t s'=>t=.tup [.c (aF6 (jP 2)),.c (aEm (dS 2))] /\ s'=s:=by
 obtain ⟨bx,rw⟩:=s
 refine acB func156 rfl ?_
 show AWp prog _ ⟨23,_,⟨bx,rw⟩,[(0,nI 2)]⟩ _
 refine go 15 ?_
 refine wcp false rfl rfl ?_
 refine go 6 ?_
 refine wcp false rfl rfl ?_
 refine go 6 ?_
 refine wcp true rfl (by simp [bC]) ?_
 refine go 6 ?_
 refine wo rfl (wbs Tryz.t9 [.val (.string ⟨#[]⟩),.val (.string ⟨#[]⟩),.val (.string ⟨#[]⟩),.val (.string ⟨#[]⟩),.val (.string ⟨#[]⟩),.val (.string ⟨#[]⟩)] rfl rfl (by decide) (.cons rfl (.cons rfl (.cons rfl (.cons rfl (.cons rfl (.cons rfl .nil)))))) underlying26 (by kernel_rfl) rfl (by decide) (by decide) (by kernel_rfl) (by kernel_rfl) rfl ?_)
 refine wo rfl (wbs Tryz.t3 [.val (.int .i64 0),.val (.int .i64 0),.val (.int .i64 0),.val (.int .i64 0),.val (.int .i64 0),.val (.int .i64 0)] rfl rfl (by decide) (.cons rfl (.cons rfl (.cons rfl (.cons rfl (.cons rfl (.cons rfl .nil)))))) underlying22 (by kernel_rfl) rfl (by decide) (by decide) (by kernel_rfl) (by kernel_rfl) rfl ?_)
 refine go 7 ?_
 exact ⟨.inr rfl,_,⟨bx,rw⟩,uM rfl (aF rfl) (aF rfl),aA (.refl _) (.refl _),rfl,rfl⟩
theorem aPj(s:Sto):aL prog 156 [nI 3] [] s fun t s'=>t=.tup [.c (aF6 (jP 3)),.c (aEm (dS 3))] /\ s'=s:=by
 obtain ⟨bx,rw⟩:=s
 refine acB func156 rfl ?_
 show AWp prog _ ⟨23,_,⟨bx,rw⟩,[(0,nI 3)]⟩ _
 refine go 15 ?_
 refine wcp false rfl rfl ?_
 refine go 6 ?_
 refine wcp false rfl rfl ?_
 refine go 6 ?_
 refine wcp false rfl rfl ?_
 refine go 6 ?_
 refine wcp true rfl (by simp [bC]) ?_
 refine go 6 ?_
 refine wo rfl (bDk bDx rfl (.cons rfl (.cons rfl .nil)) rfl ?_)
 refine wo rfl (wbs Tryz.t3 [.val (.int .i64 0),.val (.int .i64 0)] rfl rfl (by decide) (.cons rfl (.cons rfl .nil)) underlying22 (by kernel_rfl) rfl (by decide) (by decide) (by kernel_rfl) (by kernel_rfl) rfl ?_)
 refine go 7 ?_
 exact ⟨.inr rfl,_,⟨bx,rw⟩,uM rfl (aF rfl) (aF rfl),aA (.refl _) (.refl _),rfl,rfl⟩
theorem aOe(s:Sto):aL prog 156 [nI 4] [] s fun t s'=>t=.tup [.c (aF6 (jP 4)),.c (aEm (dS 4))] /\ s'=s:=by
 obtain ⟨bx,rw⟩:=s
 refine acB func156 rfl ?_
 show AWp prog _ ⟨23,_,⟨bx,rw⟩,[(0,nI 4)]⟩ _
 refine go 15 ?_
 refine wcp false rfl rfl ?_
 refine go 6 ?_
 refine wcp false rfl rfl ?_
 refine go 6 ?_
 refine wcp false rfl rfl ?_
 refine go 6 ?_
 refine wcp false rfl rfl ?_
 refine go 9 ?_
 refine wo rfl (wbs Tryz.t9 [.val (.string ⟨#[]⟩),.val (.string ⟨#[]⟩),.val (.string ⟨#[]⟩)] rfl rfl (by decide) (.cons rfl (.cons rfl (.cons rfl .nil))) underlying26 (by kernel_rfl) rfl (by decide) (by decide) (by kernel_rfl) (by kernel_rfl) rfl ?_)
 refine wo rfl (wbs Tryz.t3 [.val (.int .i64 0),.val (.int .i64 0),.val (.int .i64 0)] rfl rfl (by decide) (.cons rfl (.cons rfl (.cons rfl .nil))) underlying22 (by kernel_rfl) rfl (by decide) (by decide) (by kernel_rfl) (by kernel_rfl) rfl ?_)
 refine go 5 ?_
 exact ⟨.inr rfl,_,⟨bx,rw⟩,uM rfl (aF rfl) (aF rfl),aA (.refl _) (.refl _),rfl,rfl⟩
theorem aO6(lv:Nat)(h:lv<5)(s:Sto):aL prog 156 [.c (.val (.int .i64 (lv:Int)))] [] s fun t s'=>t=.tup [.c (aF6 (jP lv)),.c (aEm (dS lv))] /\ s'=s:=by
 rcases (show lv=0∨lv=1∨lv=2∨lv=3∨lv=4 by omega) with rfl|rfl|rfl|rfl|rfl
 ·exact aOi s
 ·exact aOy s
 ·exact aPo s
 ·exact aPj s
 exact aOe s
end
section
def zJ(n:Nat)(l:List UInt8):Nat:=l.foldl (fun n c=>10*n+(c.toNat-48)) n
theorem aEo(n:Nat):zJ n []=n:=rfl
theorem vY(n:Nat)(c:UInt8)(r:List UInt8):zJ n (c::r)=zJ (10*n+(c.toNat-48)) r:=by unfold zJ;rw [List.foldl_cons]
theorem aJ4(l:List UInt8)(c:UInt8)(n:Nat):zJ n (l++[c])=10*zJ n l+(c.toNat-48):=by
 unfold zJ;rw [List.foldl_append];rfl
theorem aEy(k:Nat):cD (UInt8.ofNat (48+k%10))=true:=by
 have hc:(UInt8.ofNat (48+k%10)).toNat=48+k%10:=by rw [UInt8.toNat_ofNat'];omega
 simp only [cD,decide_eq_true_eq,hc];omega
theorem aOv(l:List UInt8):∀n,n <= zJ n l:=by
 induction l with
 |nil=>intro n;exact Nat.le_refl _
 |cons c r ih=>intro n;have:=ih (10*n+(c.toNat-48));rw [vY];omega
theorem aK8(l:List UInt8)(h:∀c∈l,cD c=true):∀n,n <= 9223372036854775807 -> iT n l=if zJ n l <= 9223372036854775807 then some (zJ n l) else none:=by
 induction l with
 |nil=>intro n hn;rw [iT,aEo,if_pos hn]
 |cons c r ih=>
  intro n hn
  have hc:=h c (List.mem_cons_self ..)
  simp only [cD,decide_eq_true_eq] at hc
  rw [iT,vY]
  by_cases ho:(9223372036854775807-(c.toNat-48))/10<n
  ·rw [if_pos ho]
   have:=aOv r (10*n+(c.toNat-48))
   rw [if_neg (by omega)]
  rw [if_neg ho,ih (fun d hd=>h d (List.mem_cons_of_mem _ hd)) _ (by omega)]
theorem aKo(c:UInt8)(h:cD c=true):fU c=false /\ isSp c=false /\ c≠47:=by
 simp only [cD,decide_eq_true_eq] at h
 refine ⟨?_,?_,?_⟩
 ·simp only [fU,decide_eq_false_iff_not];omega
 ·simp only [isSp,decide_eq_false_iff_not];omega
 rintro rfl;revert h;decide
end
section
structure PT where
 kind:Nat
 text:ByteArray
 num:Nat
def Tok.pt(t:Tok):PT:=⟨t.kind,t.text,t.num⟩
def sgn(s:List UInt8):PT:=⟨4,bytes s,0⟩
def wrd(s:List UInt8):PT:=⟨3,bytes s,0⟩
inductive Lx:List UInt8 -> List PT -> Prop where
 |nil {s:List UInt8} (h:eY s=[]):Lx s []
 |cons {s r:List UInt8} {kind len num:Nat} {ps:List PT} (h:eY s=r) (h0:r≠[]) (hn:dQ r=.tok kind len num) (ht:Lx (r.drop len) ps):Lx s (⟨kind,bytes (r.take len),num⟩::ps)
theorem Lx.same{s s':List UInt8}{ps:List PT}(h:Lx s ps)(he:eY s'=eY s):Lx s' ps:=by
 cases h with
 |nil h=>exact .nil (he.trans h)
 |cons h h0 hn ht=>exact .cons (he.trans h) h0 hn ht
theorem Lx.sp{c:UInt8}{r:List UInt8}{ps:List PT}(h:Lx r ps)(hc:isSp c=true):Lx (c::r) ps:=h.same (oP hc)
theorem Lx.bl{r:List UInt8}{ps:List PT}(h:Lx r ps):Lx (32::r) ps:=h.sp (by decide)
theorem Lx.end:Lx [] []:=.nil lO
def uL(r:List UInt8):Prop:=∀c,r.head?=some c -> cT c=false
theorem tB{p:UInt8 -> Bool}{l r:List UInt8}(h:∀c∈l,p c=true)(hr:∀c,r.head?=some c -> p c=false):(l++r).takeWhile p=l:=by
 induction l with
 |nil=>
  cases r with
  |nil=>rfl
  |cons c r=>rw [List.nil_append,List.takeWhile_cons_of_neg];rw [hr c rfl];simp
 |cons c l ih=>rw [List.cons_append,List.takeWhile_cons_of_pos (h c (List.mem_cons_self ..)),ih fun d hd=>h d (List.mem_cons_of_mem _ hd)]
theorem aCe{c:UInt8}(h:fU c=true):isSp c=false /\ c≠47:=by
 simp only [fU,decide_eq_true_eq] at h
 refine ⟨?_,?_⟩
 ·simp only [isSp,decide_eq_false_iff_not];omega
 rintro rfl;revert h;decide
theorem Lx.letters{s r:List UInt8}{ps:List PT}(h:Lx r ps)(c:UInt8)(q:List UInt8)(hs:s=c::q)(hc:fU c=true)(hq:∀d∈q,cT d=true)(hl:s.length <= 16)(hr:uL r):Lx (s++r) (⟨if dA (bytes s) then 3 else 1,bytes s,0⟩::ps):=by
 subst hs
 have ht:((c::q)++r).takeWhile cT=c::q:=tB (fun d hd=>by
  rcases mem_cons.1 hd with rfl|hd
  ·simp [cT,hc]
  exact hq d hd) hr
 have hn:dQ ((c::q)++r)=.tok (if dA (bytes (c::q)) then 3 else 1) (c::q).length 0:=by
  rw [List.cons_append] at ht⊢
  rw [kK hc,ht,if_neg (by omega)]
 have:=Lx.cons (s:=(c::q)++r) (r:=(c::q)++r) (iK (r:=q++r) (aCe hc).1 (fun h=>(aCe hc).2 h.1)) (by simp) hn (ps:=ps) (by rw [List.drop_left];exact h)
 rw [List.take_left] at this
 exact this
theorem aK4(s:ByteArray):bytes s.data.toList=s:=by simp [bytes]
theorem Lx.name{r:List UInt8}{ps:List PT}(h:Lx r ps)(s:ByteArray)(hs:bQ s=true)(hr:uL r):Lx (s.data.toList++r) (⟨1,s,0⟩::ps):=by
 unfold bQ at hs
 split at hs
 ·cases hs
 rename_i c q he
 simp only [Bool.and_eq_true,List.all_eq_true,decide_eq_true_eq,Bool.not_eq_true'] at hs
 obtain ⟨⟨⟨h1,h2⟩,h3⟩,h4⟩:=hs
 have:=h.letters (s:=s.data.toList) c q he h1 h2 (by exact h3) hr
 rw [aK4,h4] at this
 exact this
theorem zI(n:Nat):∀c∈cO n,cD c=true:=by
 induction n using cO.induct with
 |case1 n h=>
  rw [cO,if_pos h]
  intro c hc
  simp only [List.mem_singleton] at hc
  subst hc
  have:=aEy n
  rwa [Nat.mod_eq_of_lt h] at this
 |case2 n h ih=>
  rw [cO,if_neg h]
  intro c hc
  rcases mem_append.1 hc with hc|hc
  ·exact ih c hc
  simp only [List.mem_singleton] at hc;subst hc;exact aEy n
theorem aBi(n:Nat):cO n≠[]:=by rw [cO];split<;>simp
theorem aGk(n:Nat):zJ 0 (cO n)=n:=by
 induction n using cO.induct with
 |case1 n h=>
  have hc:(UInt8.ofNat (48+n)).toNat=48+n:=by rw [UInt8.toNat_ofNat'];omega
  rw [cO,if_pos h,vY,aEo,hc];omega
 |case2 n h ih=>
  have hc:(UInt8.ofNat (48+n%10)).toNat=48+n%10:=by rw [UInt8.toNat_ofNat'];omega
  rw [cO,if_neg h,aJ4,ih,hc];omega
theorem Lx.num{r:List UInt8}{ps:List PT}(h:Lx r ps)(n:Nat)(hn:n <= 9223372036854775807)(hr:uL r):Lx (cO n++r) (⟨2,bytes (cO n),n⟩::ps):=by
 obtain ⟨c,q,he⟩:=List.exists_cons_of_ne_nil (aBi n)
 have hd:=zI n
 have hv:=aK8 (cO n) hd 0 (by omega)
 rw [aGk,if_pos hn] at hv
 have ht:(cO n++r).takeWhile cD=cO n:=tB hd fun c hc=>by
  have:=hr c hc
  unfold cT at this
  simp only [Bool.or_eq_false_iff] at this
  exact this.2
 have hc:=hd c (by rw [he];exact List.mem_cons_self ..)
 have hx:=aKo c hc
 have hnx:dQ (cO n++r)=.tok 2 (cO n).length n:=by
  rw [he,List.cons_append] at ht⊢
  rw [lP hx.1 hc (n:=n) (by rw [ht,←he];exact hv),ht]
 have:=Lx.cons (s:=cO n++r) (r:=cO n++r) (by rw [he];exact iK (r:=q++r) hx.2.1 (fun h=>hx.2.2 h.1)) (by rw [he];simp) hnx (ps:=ps) (by rw [List.drop_left];exact h)
 rw [List.take_left] at this
 exact this
theorem aEc:∀c,c∈dW -> fU c=false /\ cD c=false /\ isSp c=false:=by decide
theorem Lx.one{r:List UInt8}{ps:List PT}(h:Lx r ps)(c:UInt8)(hc:c∈dW)(hr:∀d,r.head?=some d -> [c,d]∉fE /\ ¬(c=47 /\ d=47)):Lx (c::r) (sgn [c]::ps):=by
 obtain ⟨h1,h2,h3⟩:=aEc c hc
 have hno:¬(2 <= (c::r).length /\ (c::r).take 2∈fE):=by
  rintro ⟨h4,h5⟩
  cases r with
  |nil=>simp at h4
  |cons d r=>exact (hr d rfl).1 h5
 have hn:dQ (c::r)=.tok 4 1 0:=by rw [iN h1 h2,oR hno hc];rfl
 exact Lx.cons (iK h3 (fun ⟨h4,h5⟩=>(hr 47 h5).2 ⟨h4,rfl⟩)) (by simp) hn h
theorem aJw:∀x,x∈fE -> fU (x.headD 0)=false /\ cD (x.headD 0)=false /\ isSp (x.headD 0)=false /\ x.headD 0≠47:=by decide
theorem Lx.two{r:List UInt8}{ps:List PT}(h:Lx r ps)(c d:UInt8)(hc:[c,d]∈fE):Lx (c::d::r) (sgn [c,d]::ps):=by
 obtain ⟨h1,h2,h3,h4⟩:=aJw _ hc
 have hn:dQ (c::d::r)=.tok 4 2 0:=by rw [iN (c:=c) h1 h2,pA (l:=c::d::r) (by simp) hc];rfl
 exact Lx.cons (iK h3 (fun h5=>h4 h5.1)) (by simp) hn h
def Fin(r:List UInt8):Prop:=∀c,r.head?=some c -> c∈([32,41,93,59,44]:List UInt8)
theorem Fin.cons{c:UInt8}{r:List UInt8}(h:c∈([32,41,93,59,44]:List UInt8)):Fin (c::r):=fun d hd=>by cases hd;exact h
theorem Fin.nil:Fin []:=fun c hc=>by cases hc
theorem uL.cons{c:UInt8}{r:List UInt8}(h:cT c=false):uL (c::r):=fun d hd=>by cases hd;exact h
theorem aL9:∀c,c∈([40,41,123,125,91,93,44,59,43,45,42,37]:List UInt8) -> c∈dW /\ c≠47 /\ ∀x,x∈fE -> x.headD 0≠c:=by decide
theorem Lx.free{r:List UInt8}{ps:List PT}(h:Lx r ps)(c:UInt8)(hc:c∈([40,41,123,125,91,93,44,59,43,45,42,37]:List UInt8)):Lx (c::r) (sgn [c]::ps):=by
 obtain ⟨h1,h2,h3⟩:=aL9 c hc
 exact h.one c h1 fun d _=>⟨fun hm=>h3 _ hm rfl,fun h4=>h2 h4.1⟩
end
end Go.Proofs.YtlmpchoaebhhmaaGreatDoor
