import Derived.Test.YtjgeihmhppadaaaGreatDoorG13J
set_option linter.all false
set_option synthInstance.maxHeartbeats 1000000
set_option synthInstance.maxSize 1000000
namespace Go.Proofs.YtjgeihmhppadaaaGreatDoor
open List (length_append length_cons length_nil mem_append mem_cons not_mem_nil append_assoc getElem_mem take_of_length_le)
section
open Go.RowKit
section
variable {α:Type}{enc:α -> List AC}{z:Nat}(hz:∀x,(enc x).length=z){fs:List α}{k:Nat}(hk:k<fs.length)
include hz hk
end
theorem cJe(p:cK):(cFd p).length=p.globals.length+p.mutexes.length+p.funcs.length:=by unfold cFd;simp;omega
def cH1(l:List cFc)(k:Nat)(b:Int):Prop:=(b=-1 /\ cG0 (l.take k) (l.drop k)=cG0 [] l)∨∃i:Nat,b=(i:Int) /\ cG0 [] l=some i
theorem cH1.yes{l:List cFc}{k:Nat}{b:Int}{e:cFc}(h:cH1 l k b)(he:l[k]?=some e)(hb:b<0)(hf:(cFa (l.take k) e.name).isSome=true):cH1 l (k+1) (k:Int):=by
 rcases h with ⟨-,h⟩|⟨i,rfl,-⟩
 ·obtain ⟨hk,rfl⟩:=List.getElem?_eq_some_iff.1 he
  rw [List.drop_eq_getElem_cons hk,cG0,if_pos hf,List.length_take,Nat.min_eq_left J] at h
  exact .inr ⟨k,Y,h.symm⟩
 omega
theorem cH1.old{l:List cFc}{k:Nat}{b:Int}(h:cH1 l k b)(hb:¬b<0):cH1 l (k+1) b:=by
 rcases h with ⟨rfl,-⟩|h
 ·omega
 exact .inr h
theorem cH1.no{l:List cFc}{k:Nat}{b:Int}{e:cFc}(h:cH1 l k b)(he:l[k]?=some e)(hf:(cFa (l.take k) e.name).isSome=false):cH1 l (k+1) b:=by
 rcases h with ⟨hb,h⟩|h
 ·obtain ⟨hk,rfl⟩:=List.getElem?_eq_some_iff.1 he
  rw [List.drop_eq_getElem_cons hk,cG0,if_neg (by rw [hf];decide)] at h
  exact .inl ⟨hb,by rw [List.take_succ_eq_append_getElem hk];exact h⟩
 exact .inr h
end
end Go.Proofs.YtjgeihmhppadaaaGreatDoor
