import Derived.Test.YtckelpefchdenaaGreatDoorG12J
/-
  Proved: the card of LowerChanged, out of what its text proves. No condition beyond the row's own.
-/
set_option linter.all false
set_option synthInstance.maxHeartbeats 1000000
set_option synthInstance.maxSize 1000000
namespace Go.Proofs.YtckelpefchdenaaGreatDoor
open Go.Proofs.Tryz
open List (length_append length_cons length_nil mem_append mem_cons not_mem_nil append_assoc getElem_mem take_of_length_le)
section
open Go.ChangeShapes Go.WideShapes Go.ChangeAt Go.RowKit
def Xz:false=Rows.lowerChangedUptoRow.goesBy Tryz.pinned.checked.prog:=aL
def YK:Tryz.pinned.checked.prog.mainIs=some (Rows.lowerChangedCard.stood.harness.1,Rows.lowerChangedCard.stood.harness.2.toList):=aL
def Zk:Rows.lowerChangedUptoRow.wfByText (Rows.OpenSpec.upto Rows.lowerChangedSpec)=true:=aL
theorem lowerChanged_card:Rows.LowerChangedUptoCardSaid:=
 Claim7.holds_tied_plain_at .later [] _ _ _ _ Rc jf Zk jf lowerChangedUpto_row_tie rfl ⟨rfl,rfl⟩ YK rfl Wj Xz
#print axioms lowerChanged_card
end
end Go.Proofs.YtckelpefchdenaaGreatDoor
