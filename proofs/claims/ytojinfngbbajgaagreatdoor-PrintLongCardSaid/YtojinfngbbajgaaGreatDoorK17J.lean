import Derived.Test.YtojinfngbbajgaaGreatDoorK5J
import Derived.Test.YtojinfngbbajgaaGreatDoorK16J
set_option linter.all false
set_option synthInstance.maxHeartbeats 1000000
set_option synthInstance.maxSize 1000000
namespace Go.Proofs.YtojinfngbbajgaaGreatDoor
open List (length_append length_cons length_nil mem_append mem_cons not_mem_nil append_assoc getElem_mem take_of_length_le)
section
open Go.RowKit
theorem kQ{α:Type}(f:α -> List UInt8)(l:List α)(k:Nat)(hk:k<l.length):((l.take (k+1)).map f).flatten=((l.take k).map f).flatten++f l[k]:=by
 rw [List.take_succ_eq_append_getElem hk,List.map_append,List.flatten_append];simp
theorem rO{α:Type}(f:α -> List UInt8):∀(l:List α)(k:Nat),(((l.take k).map f).flatten).length <= ((l.map f).flatten).length
 |[],k=>by simp
 |x::l,0=>by simp
 |x::l,k+1=>by have:=rO f l k;simp only [List.take_succ_cons,List.map_cons,List.flatten_cons,length_append];omega
def bS.wt(f:bS):Nat:=1+f.params.length+wtS f.body
def cK.wt(p:cK):Nat:=p.globals.length+p.mutexes.length+(p.funcs.map bS.wt).sum
theorem aDi{α:Type}(f:α -> Nat):∀(l:List α)(k:Nat)(h:k<l.length),f l[k] <= (l.map f).sum
 |x::l,0,_=>by simp
 |x::l,k+1,h=>by have:=aDi f l k (by simpa using h);simp only [List.map_cons,List.sum_cons,List.getElem_cons_succ];omega
theorem aDr{α:Type}(f:α -> Nat)(hf:∀x,1 <= f x):∀(l:List α),l.length <= (l.map f).sum
 |[]=>by simp
 |x::l=>by have:=aDr f hf l;have:=hf x;simp only [List.map_cons,List.sum_cons,length_cons];omega
def nY(p:cK):Bool:=decide (p.globals.length <= 16 /\ p.mutexes.length <= 12 /\ p.funcs.length <= 16) && p.globals.all gH && p.mutexes.all fS && p.funcs.all gW
theorem nX(p:cK):jI p=(nY p && (iH (cR p)).isOk):=rfl
theorem aJv{p:cK}(h:nY p=true):∀f,f∈p.funcs -> bM 0 f.body=true /\ f.params.length <= 6:=by
 intro f hf
 unfold nY at h
 simp only [Bool.and_eq_true] at h
 have h2:=List.all_eq_true.1 h.2 f hf
 unfold gW at h2
 simp only [Bool.and_eq_true,decide_eq_true_eq] at h2
 exact ⟨h2.1.2,h2.1.1.2⟩
theorem wP(f:bS):funcText f=[102,117,110,99,32]++f.name.data.toList++[40]++bW bX f.params++[41,32,123,10]++aC [9] f.body++[125,10]:=rfl
theorem wR{x:aS}(h:x.mutex=true):bX x=[109,117,116,101,120,32]++x.name.data.toList:=by unfold bX;rw [if_pos h]
theorem xC{x:aS}(h:x.mutex=false):bX x=x.name.data.toList:=by unfold bX;rw [if_neg (by rw [h];decide)];rfl
theorem pS{z:Int}(h:fit z):(eH z).length <= 21:=by
 unfold eH
 have:=kC z.natAbs (by unfold fit at h;omega)
 split<;>simp<;>omega
end
end Go.Proofs.YtojinfngbbajgaaGreatDoor
