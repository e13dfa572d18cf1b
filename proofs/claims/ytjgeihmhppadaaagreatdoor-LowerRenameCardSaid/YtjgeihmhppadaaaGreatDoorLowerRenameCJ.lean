import Derived.Test.YtjgeihmhppadaaaGreatDoorG36J
/-
  Proved: the card of LowerRename, out of what its text proves. No condition beyond the row's own.
-/
set_option linter.all false
set_option synthInstance.maxHeartbeats 1000000
set_option synthInstance.maxSize 1000000
namespace Go.Proofs.YtjgeihmhppadaaaGreatDoor
open Go.Proofs.Tryz
open List (length_append length_cons length_nil mem_append mem_cons not_mem_nil append_assoc getElem_mem take_of_length_le)
section
open Go.ChangeShapes Go.WideShapes Go.ChangeAt Go.RowKit
theorem dAw:false=Rows.lowerRenameRow.goesBy Tryz.pinned.checked.prog:=B6
theorem dAu:Tryz.pinned.checked.prog.mainIs=some (Rows.lowerRenameCard.stood.harness.1,Rows.lowerRenameCard.stood.harness.2.toList):=B6
theorem dBc:Rows.lowerRenameRow.wfByText (OpenSpec.ofChange Rows.lowerRenameSpec)=true:=B6
theorem lowerRename_card:Rows.LowerRenameCardSaid:=
 Claim7.holds_tied_plain_at .later [] _ _ _ _ dAs Bu dBc Bu lowerRename_row_tie rfl ⟨rfl,rfl⟩ dAu rfl dAn dAw
#print axioms lowerRename_card
end
end Go.Proofs.YtjgeihmhppadaaaGreatDoor
