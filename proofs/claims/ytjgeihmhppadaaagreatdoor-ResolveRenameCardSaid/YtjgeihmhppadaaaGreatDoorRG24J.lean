import Derived.Test.YtjgeihmhppadaaaGreatDoorRG23J
set_option linter.all false
set_option synthInstance.maxHeartbeats 1000000
set_option synthInstance.maxSize 1000000
namespace Go.Proofs.YtjgeihmhppadaaaGreatDoor
open List (length_append length_cons length_nil mem_append mem_cons not_mem_nil append_assoc getElem_mem take_of_length_le)
section
open Go.RowKit
structure MW (gg gm gf gk gl:Nat) (gs ms fs lk lo:Vis) (rw:List bA):Prop where
 gg:cR3 gg 0 evI gs∈rw
 gm:cR3 gm 0 evI ms∈rw
 gf:cR3 gf 0 evI fs∈rw
 gk:cR3 gk 0 evI lk∈rw
 gl:cR3 gl 0 evI lo∈rw
theorem MW.cons{gg gm gf gk gl:Nat}{gs ms fs lk lo:Vis}{rw:List bA}{r:bA}(h:MW gg gm gf gk gl gs ms fs lk lo rw):MW gg gm gf gk gl gs ms fs lk lo (r::rw):=⟨by simp [h.gg],by simp [h.gm],by simp [h.gf],by simp [h.gk],by simp [h.gl]⟩
end
end Go.Proofs.YtjgeihmhppadaaaGreatDoor
