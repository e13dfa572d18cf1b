import Derived.Test.YtkfdfhcdmmlfmaaGreatDoorG30J
/-
  Proved: the card of LowerSize, out of what its text proves. No condition beyond the row's own.
-/
set_option linter.all false
set_option synthInstance.maxHeartbeats 1000000
set_option synthInstance.maxSize 1000000
namespace Go.Proofs.YtkfdfhcdmmlfmaaGreatDoor
open Go.Proofs.Tryz
open List (length_append length_cons length_nil mem_append mem_cons not_mem_nil append_assoc getElem_mem take_of_length_le)
section
open Go.ChangeShapes Go.WideShapes Go.ChangeAt Go.RowKit
theorem cTg:false=Rows.lowerSizeRow.goesBy Tryz.pinned.checked.prog:=B6
theorem cTk:Tryz.pinned.checked.prog.mainIs=some (Rows.lowerSizeCard.stood.harness.1,Rows.lowerSizeCard.stood.harness.2.toList):=B6
theorem cT3:Rows.lowerSizeRow.wfByText (OpenSpec.ofChange Rows.lowerSizeSpec)=true:=B6
theorem lowerSize_card:Rows.LowerSizeCardSaid:=
 Claim7.holds_tied_plain_at .later [] _ _ _ _ cS9 Bu cT3 Bu lowerSize_row_tie rfl ⟨rfl,rfl⟩ cTk rfl cS7 cTg
#print axioms lowerSize_card
end
end Go.Proofs.YtkfdfhcdmmlfmaaGreatDoor
