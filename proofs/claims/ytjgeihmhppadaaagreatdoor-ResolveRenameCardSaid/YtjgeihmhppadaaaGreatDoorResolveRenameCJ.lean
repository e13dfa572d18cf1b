import Derived.Test.YtjgeihmhppadaaaGreatDoorRG35J
/-
  Proved: the card of ResolveRename, out of what its text proves. No condition beyond the row's own.
-/
set_option linter.all false
set_option synthInstance.maxHeartbeats 1000000
set_option synthInstance.maxSize 1000000
namespace Go.Proofs.YtjgeihmhppadaaaGreatDoor
open Go.Proofs.Tryz
open List (length_append length_cons length_nil mem_append mem_cons not_mem_nil append_assoc getElem_mem take_of_length_le)
section
open Go.ChangeShapes Go.WideShapes Go.ChangeAt Go.RowKit
theorem dFe:false=Rows.resolveRenameRow.goesBy Tryz.pinned.checked.prog:=B6
theorem dFf:Tryz.pinned.checked.prog.mainIs=some (Rows.resolveRenameCard.stood.harness.1,Rows.resolveRenameCard.stood.harness.2.toList):=B6
theorem dFi:Rows.resolveRenameRow.wfByText (OpenSpec.ofChange Rows.resolveRenameSpec)=true:=B6
theorem resolveRename_card:Rows.ResolveRenameCardSaid:=
 Claim7.holds_tied_plain_at .later [] _ _ _ _ dFg Bu dFi Bu resolveRename_row_tie rfl ⟨rfl,rfl⟩ dFf rfl dFd dFe
#print axioms resolveRename_card
end
end Go.Proofs.YtjgeihmhppadaaaGreatDoor
