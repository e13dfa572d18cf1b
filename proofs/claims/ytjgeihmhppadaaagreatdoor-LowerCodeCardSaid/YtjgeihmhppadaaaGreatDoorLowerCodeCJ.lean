import Derived.Test.YtjgeihmhppadaaaGreatDoorCG14J
set_option linter.all false
namespace Go.Proofs.YtjgeihmhppadaaaGreatDoor
open Go.Proofs.Tryz
open Go.ChangeShapes Go.WideShapes Go.ChangeAt Go.RowKit
def Rx:false=Rows.lowerCodeRow.goesBy Tryz.pinned.checked.prog:=aQ
def P':Tryz.pinned.checked.prog.mainIs=some (Rows.lowerCodeCard.stood.harness.1,Rows.lowerCodeCard.stood.harness.2.toList):=aQ
def TL:Rows.lowerCodeRow.wfByText (OpenSpec.ofChange Rows.lowerCodeSpec)=true:=aQ
theorem lowerCode_card:Rows.LowerCodeCardSaid:=
 Claim7.holds_tied_plain_at .later [] _ _ _ _ Su gr TL gr lowerCode_row_tie rfl ⟨rfl,rfl⟩ P' rfl QJ Rx
end Go.Proofs.YtjgeihmhppadaaaGreatDoor
