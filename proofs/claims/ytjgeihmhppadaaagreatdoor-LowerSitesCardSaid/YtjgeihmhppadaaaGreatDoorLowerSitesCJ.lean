import Derived.Test.YtjgeihmhppadaaaGreatDoorVG12J
/-
  Proved: the card of LowerSites, out of what its text proves. No condition beyond the row's own.
-/
set_option linter.all false
set_option synthInstance.maxHeartbeats 1000000
set_option synthInstance.maxSize 1000000
namespace Go.Proofs.YtjgeihmhppadaaaGreatDoor
open Go.Proofs.Tryz
open List (length_append length_cons length_nil mem_append mem_cons not_mem_nil append_assoc getElem_mem take_of_length_le)
section
open Go.ChangeShapes Go.WideShapes Go.ChangeAt Go.RowKit
def Qp:false=Rows.lowerSitesRow.goesBy Tryz.pinned.checked.prog:=aQ
def Vh:Tryz.pinned.checked.prog.mainIs=some (Rows.lowerSitesCard.stood.harness.1,Rows.lowerSitesCard.stood.harness.2.toList):=aQ
def QX:Rows.lowerSitesRow.wfByText (OpenSpec.ofChange Rows.lowerSitesSpec)=true:=aQ
theorem lowerSites_card:Rows.LowerSitesCardSaid:=
 Claim7.holds_tied_plain_at .later [] _ _ _ _ Ug jM QX jM lowerSites_row_tie rfl ⟨rfl,rfl⟩ Vh rfl Wa Qp
#print axioms lowerSites_card
end
end Go.Proofs.YtjgeihmhppadaaaGreatDoor
