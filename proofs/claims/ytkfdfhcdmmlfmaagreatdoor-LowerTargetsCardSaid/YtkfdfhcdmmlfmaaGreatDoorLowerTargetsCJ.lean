import Derived.Test.YtkfdfhcdmmlfmaaGreatDoorG31J
/-
  Proved: the card of LowerTargets, out of what its text proves. No condition beyond the row's own.
-/
set_option linter.all false
set_option synthInstance.maxHeartbeats 1000000
set_option synthInstance.maxSize 1000000
namespace Go.Proofs.YtkfdfhcdmmlfmaaGreatDoor
open Go.Proofs.Tryz
open List (length_append length_cons length_nil mem_append mem_cons not_mem_nil append_assoc getElem_mem take_of_length_le)
section
open Go.ChangeShapes Go.WideShapes Go.ChangeAt Go.RowKit
theorem cSw:false=Rows.lowerTargetsRow.goesBy Tryz.pinned.checked.prog:=B6
theorem cSt:Tryz.pinned.checked.prog.mainIs=some (Rows.lowerTargetsCard.stood.harness.1,Rows.lowerTargetsCard.stood.harness.2.toList):=B6
theorem cS6:Rows.lowerTargetsRow.wfByText (OpenSpec.ofChange Rows.lowerTargetsSpec)=true:=B6
theorem lowerTargets_card:Rows.LowerTargetsCardSaid:=
 Claim7.holds_tied_plain_at .later [] _ _ _ _ cSu Bu cS6 Bu lowerTargets_row_tie rfl ⟨rfl,rfl⟩ cSt rfl cSp cSw
#print axioms lowerTargets_card
end
end Go.Proofs.YtkfdfhcdmmlfmaaGreatDoor
