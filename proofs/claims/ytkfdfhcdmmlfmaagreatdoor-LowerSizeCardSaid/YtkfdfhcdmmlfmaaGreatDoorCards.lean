/-
  DERIVED. GIVEN WITH THE SEED: THE CARDS: each row of YtkfdfhcdmmlfmaaGreatDoorRows.lean that lists a variable, with what it lists TIED to the program's text (the seventh form; the later family's looks); each row that meets fmt, with fmt's text TOLD by the authors' own Lean function (tested against real Go, not proved from fmt's source: count such statements apart). THE CARD IS WHAT COUNTS. Prove the row's statement (the work); the ties are given (YtkfdfhcdmmlfmaaGreatDoorTie.lean); close each card by the builder's one call (the guide's Derived/Test/ToyasCard.lean, 'card_holds'). Laid BY PROGRAM, IN A SANDBOX (cutbox-door.mjs). By AI agents, Wed Nov 11 2026. No macro, syntax, notation, axiom, sorry.
-/
import Derived.Test.YtkfdfhcdmmlfmaaGreatDoorRows
import GoSem.ClaimSeven
namespace Go.Proofs.YtkfdfhcdmmlfmaaGreatDoor
namespace Rows

/-- THE TIED CARD OF 'lockorderlaw05.ResolveRename'. -/
def resolveRenameCard : Claim7 := { stood := { row := resolveRenameRow, standIns := [], harness := (true, "ad800511da547d85b4fec3a8d1fe7e1f1461cfd8f525d38f4835816df4569a5c"), looks := false }, kinds := [], alts := [], laidByText := true, laidKinds := [.data, .data, .data, .widerDeep, .data], laidTests := true, laidLooks := .later }
def ResolveRenameCardSaid : Prop := Claim7.holds Tryz.pinned (.plain (OpenSpec.ofChange resolveRenameSpec)) resolveRenameCard

/-- THE TIED CARD OF 'lockorderlaw06.LowerCode'. -/
def lowerCodeCard : Claim7 := { stood := { row := lowerCodeRow, standIns := [], harness := (true, "ad800511da547d85b4fec3a8d1fe7e1f1461cfd8f525d38f4835816df4569a5c"), looks := false }, kinds := [], alts := [], laidByText := true, laidKinds := [.data, .data, .data, .widerDeep, .data], laidTests := true, laidLooks := .later }
def LowerCodeCardSaid : Prop := Claim7.holds Tryz.pinned (.plain (OpenSpec.ofChange lowerCodeSpec)) lowerCodeCard

/-- THE TIED CARD OF 'lockorderlaw06.LowerChanged'. -/
def lowerChangedCard : Claim7 := { stood := { row := lowerChangedRow, standIns := [], harness := (true, "ad800511da547d85b4fec3a8d1fe7e1f1461cfd8f525d38f4835816df4569a5c"), looks := false }, kinds := [], alts := [], laidByText := true, laidKinds := [.data, .data, .data, .widerDeep, .data], laidTests := true, laidLooks := .later }
def LowerChangedCardSaid : Prop := Claim7.holds Tryz.pinned (.plain (OpenSpec.ofChange lowerChangedSpec)) lowerChangedCard

/-- THE TIED CARD OF 'lockorderlaw06.LowerSites'. -/
def lowerSitesCard : Claim7 := { stood := { row := lowerSitesRow, standIns := [], harness := (true, "ad800511da547d85b4fec3a8d1fe7e1f1461cfd8f525d38f4835816df4569a5c"), looks := false }, kinds := [], alts := [], laidByText := true, laidKinds := [.data, .data, .data, .widerDeep, .data], laidTests := true, laidLooks := .later }
def LowerSitesCardSaid : Prop := Claim7.holds Tryz.pinned (.plain (OpenSpec.ofChange lowerSitesSpec)) lowerSitesCard

/-- THE TIED CARD OF 'lockorderlaw06.LowerTargets'. -/
def lowerTargetsCard : Claim7 := { stood := { row := lowerTargetsRow, standIns := [], harness := (true, "ad800511da547d85b4fec3a8d1fe7e1f1461cfd8f525d38f4835816df4569a5c"), looks := false }, kinds := [], alts := [], laidByText := true, laidKinds := [.data, .data, .data, .widerDeep, .data], laidTests := true, laidLooks := .later }
def LowerTargetsCardSaid : Prop := Claim7.holds Tryz.pinned (.plain (OpenSpec.ofChange lowerTargetsSpec)) lowerTargetsCard

/-- THE TIED CARD OF 'lockorderlaw06.LowerRename'. -/
def lowerRenameCard : Claim7 := { stood := { row := lowerRenameRow, standIns := [], harness := (true, "ad800511da547d85b4fec3a8d1fe7e1f1461cfd8f525d38f4835816df4569a5c"), looks := false }, kinds := [], alts := [], laidByText := true, laidKinds := [.data, .data, .data, .widerDeep, .data], laidTests := true, laidLooks := .later }
def LowerRenameCardSaid : Prop := Claim7.holds Tryz.pinned (.plain (OpenSpec.ofChange lowerRenameSpec)) lowerRenameCard

/-- THE TIED CARD OF 'lockorderlaw06.LowerSize'. -/
def lowerSizeCard : Claim7 := { stood := { row := lowerSizeRow, standIns := [], harness := (true, "ad800511da547d85b4fec3a8d1fe7e1f1461cfd8f525d38f4835816df4569a5c"), looks := false }, kinds := [], alts := [], laidByText := true, laidKinds := [.data, .data, .data, .widerDeep, .data], laidTests := true, laidLooks := .later }
def LowerSizeCardSaid : Prop := Claim7.holds Tryz.pinned (.plain (OpenSpec.ofChange lowerSizeSpec)) lowerSizeCard

/-- THE TIED CARD OF 'lockorderlaw30.ReportPlace'. -/
def reportPlaceCard : Claim7 := { stood := { row := reportPlaceRow, standIns := [], harness := (true, "ad800511da547d85b4fec3a8d1fe7e1f1461cfd8f525d38f4835816df4569a5c"), looks := false }, kinds := [], alts := [], laidByText := true, laidKinds := [.data, .data, .data, .widerDeep, .data], laidTests := true, laidLooks := .later }
def ReportPlaceCardSaid : Prop := Claim7.holds Tryz.pinned (.plain (OpenSpec.ofChange reportPlaceSpec)) reportPlaceCard

/-- THE TIED CARD OF 'lockorderlaw30.ReportLine'. -/
def reportLineCard : Claim7 := { stood := { row := reportLineRow, standIns := [], harness := (true, "ad800511da547d85b4fec3a8d1fe7e1f1461cfd8f525d38f4835816df4569a5c"), looks := false }, kinds := [], alts := [], laidByText := true, laidKinds := [.data, .data, .data, .widerDeep, .data], laidTests := true, laidLooks := .later }
def ReportLineCardSaid : Prop := Claim7.holds Tryz.pinned (.plain (OpenSpec.ofChange reportLineSpec)) reportLineCard

/-- THE TIED CARD OF 'lockorderlaw30.ReportFormat'. -/
def reportFormatCard : Claim7 := { stood := { row := reportFormatRow, standIns := [], harness := (true, "ad800511da547d85b4fec3a8d1fe7e1f1461cfd8f525d38f4835816df4569a5c"), looks := false }, kinds := [], alts := [], laidByText := true, laidKinds := [.data, .data, .data, .widerDeep, .data], laidTests := true, laidLooks := .later }
def ReportFormatCardSaid : Prop := Claim7.holds Tryz.pinned (.plain (OpenSpec.ofChange reportFormatSpec)) reportFormatCard

/-- THE TIED CARD OF 'lockorderlaw30.ReportRejected'. -/
def reportRejectedCard : Claim7 := { stood := { row := reportRejectedRow, standIns := [], harness := (true, "ad800511da547d85b4fec3a8d1fe7e1f1461cfd8f525d38f4835816df4569a5c"), looks := false }, kinds := [], alts := [], laidByText := true, laidKinds := [.data, .data, .data, .widerDeep, .data], laidTests := true, laidLooks := .later }
def ReportRejectedCardSaid : Prop := Claim7.holds Tryz.pinned (.plain (OpenSpec.ofChange reportRejectedSpec)) reportRejectedCard

/-- THE TIED CARD OF 'lockorderlaw30.ReportLines'. -/
def reportLinesCard : Claim7 := { stood := { row := reportLinesRow, standIns := [], harness := (true, "ad800511da547d85b4fec3a8d1fe7e1f1461cfd8f525d38f4835816df4569a5c"), looks := false }, kinds := [], alts := [], laidByText := true, laidKinds := [.data, .data, .data, .widerDeep, .data], laidTests := true, laidLooks := .later }
def ReportLinesCardSaid : Prop := Claim7.holds Tryz.pinned (.plain (OpenSpec.ofChange reportLinesSpec)) reportLinesCard

/-- THE SECOND FORM's CARD OF 'lockorderlaw05.ResolveRename'. -/
def resolveRenameUptoCard : Claim7 := { stood := { row := resolveRenameUptoRow, standIns := [], harness := (true, "ad800511da547d85b4fec3a8d1fe7e1f1461cfd8f525d38f4835816df4569a5c"), looks := false }, kinds := [], alts := [], laidByText := true, laidKinds := [.data, .data, .data, .widerDeep, .data], laidTests := true, laidLooks := .later }
def ResolveRenameUptoCardSaid : Prop := Claim7.holds Tryz.pinned (.plain (OpenSpec.upto resolveRenameSpec)) resolveRenameUptoCard

/-- THE SECOND FORM's CARD OF 'lockorderlaw06.LowerCode'. -/
def lowerCodeUptoCard : Claim7 := { stood := { row := lowerCodeUptoRow, standIns := [], harness := (true, "ad800511da547d85b4fec3a8d1fe7e1f1461cfd8f525d38f4835816df4569a5c"), looks := false }, kinds := [], alts := [], laidByText := true, laidKinds := [.data, .data, .data, .widerDeep, .data], laidTests := true, laidLooks := .later }
def LowerCodeUptoCardSaid : Prop := Claim7.holds Tryz.pinned (.plain (OpenSpec.upto lowerCodeSpec)) lowerCodeUptoCard

/-- THE SECOND FORM's CARD OF 'lockorderlaw06.LowerChanged'. -/
def lowerChangedUptoCard : Claim7 := { stood := { row := lowerChangedUptoRow, standIns := [], harness := (true, "ad800511da547d85b4fec3a8d1fe7e1f1461cfd8f525d38f4835816df4569a5c"), looks := false }, kinds := [], alts := [], laidByText := true, laidKinds := [.data, .data, .data, .widerDeep, .data], laidTests := true, laidLooks := .later }
def LowerChangedUptoCardSaid : Prop := Claim7.holds Tryz.pinned (.plain (OpenSpec.upto lowerChangedSpec)) lowerChangedUptoCard

/-- THE SECOND FORM's CARD OF 'lockorderlaw06.LowerSites'. -/
def lowerSitesUptoCard : Claim7 := { stood := { row := lowerSitesUptoRow, standIns := [], harness := (true, "ad800511da547d85b4fec3a8d1fe7e1f1461cfd8f525d38f4835816df4569a5c"), looks := false }, kinds := [], alts := [], laidByText := true, laidKinds := [.data, .data, .data, .widerDeep, .data], laidTests := true, laidLooks := .later }
def LowerSitesUptoCardSaid : Prop := Claim7.holds Tryz.pinned (.plain (OpenSpec.upto lowerSitesSpec)) lowerSitesUptoCard

/-- THE SECOND FORM's CARD OF 'lockorderlaw06.LowerTargets'. -/
def lowerTargetsUptoCard : Claim7 := { stood := { row := lowerTargetsUptoRow, standIns := [], harness := (true, "ad800511da547d85b4fec3a8d1fe7e1f1461cfd8f525d38f4835816df4569a5c"), looks := false }, kinds := [], alts := [], laidByText := true, laidKinds := [.data, .data, .data, .widerDeep, .data], laidTests := true, laidLooks := .later }
def LowerTargetsUptoCardSaid : Prop := Claim7.holds Tryz.pinned (.plain (OpenSpec.upto lowerTargetsSpec)) lowerTargetsUptoCard

/-- THE SECOND FORM's CARD OF 'lockorderlaw06.LowerRename'. -/
def lowerRenameUptoCard : Claim7 := { stood := { row := lowerRenameUptoRow, standIns := [], harness := (true, "ad800511da547d85b4fec3a8d1fe7e1f1461cfd8f525d38f4835816df4569a5c"), looks := false }, kinds := [], alts := [], laidByText := true, laidKinds := [.data, .data, .data, .widerDeep, .data], laidTests := true, laidLooks := .later }
def LowerRenameUptoCardSaid : Prop := Claim7.holds Tryz.pinned (.plain (OpenSpec.upto lowerRenameSpec)) lowerRenameUptoCard

/-- THE SECOND FORM's CARD OF 'lockorderlaw06.LowerSize'. -/
def lowerSizeUptoCard : Claim7 := { stood := { row := lowerSizeUptoRow, standIns := [], harness := (true, "ad800511da547d85b4fec3a8d1fe7e1f1461cfd8f525d38f4835816df4569a5c"), looks := false }, kinds := [], alts := [], laidByText := true, laidKinds := [.data, .data, .data, .widerDeep, .data], laidTests := true, laidLooks := .later }
def LowerSizeUptoCardSaid : Prop := Claim7.holds Tryz.pinned (.plain (OpenSpec.upto lowerSizeSpec)) lowerSizeUptoCard

/-- THE SECOND FORM's CARD OF 'lockorderlaw30.ReportPlace'. -/
def reportPlaceUptoCard : Claim7 := { stood := { row := reportPlaceUptoRow, standIns := [], harness := (true, "ad800511da547d85b4fec3a8d1fe7e1f1461cfd8f525d38f4835816df4569a5c"), looks := false }, kinds := [], alts := [], laidByText := true, laidKinds := [.data, .data, .data, .widerDeep, .data], laidTests := true, laidLooks := .later }
def ReportPlaceUptoCardSaid : Prop := Claim7.holds Tryz.pinned (.plain (OpenSpec.upto reportPlaceSpec)) reportPlaceUptoCard

/-- THE SECOND FORM's CARD OF 'lockorderlaw30.ReportLine'. -/
def reportLineUptoCard : Claim7 := { stood := { row := reportLineUptoRow, standIns := [], harness := (true, "ad800511da547d85b4fec3a8d1fe7e1f1461cfd8f525d38f4835816df4569a5c"), looks := false }, kinds := [], alts := [], laidByText := true, laidKinds := [.data, .data, .data, .widerDeep, .data], laidTests := true, laidLooks := .later }
def ReportLineUptoCardSaid : Prop := Claim7.holds Tryz.pinned (.plain (OpenSpec.upto reportLineSpec)) reportLineUptoCard

/-- THE SECOND FORM's CARD OF 'lockorderlaw30.ReportFormat'. -/
def reportFormatUptoCard : Claim7 := { stood := { row := reportFormatUptoRow, standIns := [], harness := (true, "ad800511da547d85b4fec3a8d1fe7e1f1461cfd8f525d38f4835816df4569a5c"), looks := false }, kinds := [], alts := [], laidByText := true, laidKinds := [.data, .data, .data, .widerDeep, .data], laidTests := true, laidLooks := .later }
def ReportFormatUptoCardSaid : Prop := Claim7.holds Tryz.pinned (.plain (OpenSpec.upto reportFormatSpec)) reportFormatUptoCard

/-- THE SECOND FORM's CARD OF 'lockorderlaw30.ReportRejected'. -/
def reportRejectedUptoCard : Claim7 := { stood := { row := reportRejectedUptoRow, standIns := [], harness := (true, "ad800511da547d85b4fec3a8d1fe7e1f1461cfd8f525d38f4835816df4569a5c"), looks := false }, kinds := [], alts := [], laidByText := true, laidKinds := [.data, .data, .data, .widerDeep, .data], laidTests := true, laidLooks := .later }
def ReportRejectedUptoCardSaid : Prop := Claim7.holds Tryz.pinned (.plain (OpenSpec.upto reportRejectedSpec)) reportRejectedUptoCard

/-- THE SECOND FORM's CARD OF 'lockorderlaw30.ReportLines'. -/
def reportLinesUptoCard : Claim7 := { stood := { row := reportLinesUptoRow, standIns := [], harness := (true, "ad800511da547d85b4fec3a8d1fe7e1f1461cfd8f525d38f4835816df4569a5c"), looks := false }, kinds := [], alts := [], laidByText := true, laidKinds := [.data, .data, .data, .widerDeep, .data], laidTests := true, laidLooks := .later }
def ReportLinesUptoCardSaid : Prop := Claim7.holds Tryz.pinned (.plain (OpenSpec.upto reportLinesSpec)) reportLinesUptoCard
end Rows
end Go.Proofs.YtkfdfhcdmmlfmaaGreatDoor
