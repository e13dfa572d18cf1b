/-
  DERIVED. GIVEN WITH THE SEED: THE CARDS: each row of YtjgeihmhppadaaaGreatDoorRows.lean that lists a variable, with what it lists TIED to the program's text (the seventh form; the later family's looks); each row that meets fmt, with fmt's text TOLD by the authors' own Lean function (tested against real Go, not proved from fmt's source: count such statements apart). THE CARD IS WHAT COUNTS. Prove the row's statement (the work); the ties are given (YtjgeihmhppadaaaGreatDoorTie.lean); close each card by the builder's one call (the guide's Derived/Test/ToyasCard.lean, 'card_holds'). Laid BY PROGRAM, IN A SANDBOX (cutbox-door.mjs). By AI agents, Wed Nov 11 2026. No macro, syntax, notation, axiom, sorry.
-/
import Derived.Test.YtjgeihmhppadaaaGreatDoorRows
import GoSem.ClaimSeven
namespace Go.Proofs.YtjgeihmhppadaaaGreatDoor
namespace Rows

/-- THE TIED CARD OF 'lockorderlaw06.LowerRename'. -/
def lowerRenameCard : Claim7 := { stood := { row := lowerRenameRow, standIns := [], harness := (true, "39ac90786f8f5f08a4e8f6f7755c806889cee7fc288e09eb2523188a853d506a"), looks := false }, kinds := [], alts := [], laidByText := true, laidKinds := [.data, .data, .data, .widerDeep, .data], laidTests := true, laidLooks := .later }
def LowerRenameCardSaid : Prop := Claim7.holds Tryz.pinned (.plain (OpenSpec.ofChange lowerRenameSpec)) lowerRenameCard

/-- THE TIED CARD OF 'lockorderlaw05.ResolveRename'. -/
def resolveRenameCard : Claim7 := { stood := { row := resolveRenameRow, standIns := [], harness := (true, "39ac90786f8f5f08a4e8f6f7755c806889cee7fc288e09eb2523188a853d506a"), looks := false }, kinds := [], alts := [], laidByText := true, laidKinds := [.data, .data, .data, .widerDeep, .data], laidTests := true, laidLooks := .later }
def ResolveRenameCardSaid : Prop := Claim7.holds Tryz.pinned (.plain (OpenSpec.ofChange resolveRenameSpec)) resolveRenameCard

/-- THE TIED CARD OF 'lockorderlaw06.LowerCode'. -/
def lowerCodeCard : Claim7 := { stood := { row := lowerCodeRow, standIns := [], harness := (true, "39ac90786f8f5f08a4e8f6f7755c806889cee7fc288e09eb2523188a853d506a"), looks := false }, kinds := [], alts := [], laidByText := true, laidKinds := [.data, .data, .data, .widerDeep, .data], laidTests := true, laidLooks := .later }
def LowerCodeCardSaid : Prop := Claim7.holds Tryz.pinned (.plain (OpenSpec.ofChange lowerCodeSpec)) lowerCodeCard

/-- THE TIED CARD OF 'lockorderlaw06.LowerSites'. -/
def lowerSitesCard : Claim7 := { stood := { row := lowerSitesRow, standIns := [], harness := (true, "39ac90786f8f5f08a4e8f6f7755c806889cee7fc288e09eb2523188a853d506a"), looks := false }, kinds := [], alts := [], laidByText := true, laidKinds := [.data, .data, .data, .widerDeep, .data], laidTests := true, laidLooks := .later }
def LowerSitesCardSaid : Prop := Claim7.holds Tryz.pinned (.plain (OpenSpec.ofChange lowerSitesSpec)) lowerSitesCard

/-- THE TIED CARD OF 'lockorderlaw06.LowerChanged'. -/
def lowerChangedCard : Claim7 := { stood := { row := lowerChangedRow, standIns := [], harness := (true, "39ac90786f8f5f08a4e8f6f7755c806889cee7fc288e09eb2523188a853d506a"), looks := false }, kinds := [], alts := [], laidByText := true, laidKinds := [.data, .data, .data, .widerDeep, .data], laidTests := true, laidLooks := .later }
def LowerChangedCardSaid : Prop := Claim7.holds Tryz.pinned (.plain (OpenSpec.ofChange lowerChangedSpec)) lowerChangedCard

/-- THE SECOND FORM's CARD OF 'lockorderlaw06.LowerRename'. -/
def lowerRenameUptoCard : Claim7 := { stood := { row := lowerRenameUptoRow, standIns := [], harness := (true, "39ac90786f8f5f08a4e8f6f7755c806889cee7fc288e09eb2523188a853d506a"), looks := false }, kinds := [], alts := [], laidByText := true, laidKinds := [.data, .data, .data, .widerDeep, .data], laidTests := true, laidLooks := .later }
def LowerRenameUptoCardSaid : Prop := Claim7.holds Tryz.pinned (.plain (OpenSpec.upto lowerRenameSpec)) lowerRenameUptoCard

/-- THE SECOND FORM's CARD OF 'lockorderlaw05.ResolveRename'. -/
def resolveRenameUptoCard : Claim7 := { stood := { row := resolveRenameUptoRow, standIns := [], harness := (true, "39ac90786f8f5f08a4e8f6f7755c806889cee7fc288e09eb2523188a853d506a"), looks := false }, kinds := [], alts := [], laidByText := true, laidKinds := [.data, .data, .data, .widerDeep, .data], laidTests := true, laidLooks := .later }
def ResolveRenameUptoCardSaid : Prop := Claim7.holds Tryz.pinned (.plain (OpenSpec.upto resolveRenameSpec)) resolveRenameUptoCard

/-- THE SECOND FORM's CARD OF 'lockorderlaw06.LowerCode'. -/
def lowerCodeUptoCard : Claim7 := { stood := { row := lowerCodeUptoRow, standIns := [], harness := (true, "39ac90786f8f5f08a4e8f6f7755c806889cee7fc288e09eb2523188a853d506a"), looks := false }, kinds := [], alts := [], laidByText := true, laidKinds := [.data, .data, .data, .widerDeep, .data], laidTests := true, laidLooks := .later }
def LowerCodeUptoCardSaid : Prop := Claim7.holds Tryz.pinned (.plain (OpenSpec.upto lowerCodeSpec)) lowerCodeUptoCard

/-- THE SECOND FORM's CARD OF 'lockorderlaw06.LowerSites'. -/
def lowerSitesUptoCard : Claim7 := { stood := { row := lowerSitesUptoRow, standIns := [], harness := (true, "39ac90786f8f5f08a4e8f6f7755c806889cee7fc288e09eb2523188a853d506a"), looks := false }, kinds := [], alts := [], laidByText := true, laidKinds := [.data, .data, .data, .widerDeep, .data], laidTests := true, laidLooks := .later }
def LowerSitesUptoCardSaid : Prop := Claim7.holds Tryz.pinned (.plain (OpenSpec.upto lowerSitesSpec)) lowerSitesUptoCard

/-- THE SECOND FORM's CARD OF 'lockorderlaw06.LowerChanged'. -/
def lowerChangedUptoCard : Claim7 := { stood := { row := lowerChangedUptoRow, standIns := [], harness := (true, "39ac90786f8f5f08a4e8f6f7755c806889cee7fc288e09eb2523188a853d506a"), looks := false }, kinds := [], alts := [], laidByText := true, laidKinds := [.data, .data, .data, .widerDeep, .data], laidTests := true, laidLooks := .later }
def LowerChangedUptoCardSaid : Prop := Claim7.holds Tryz.pinned (.plain (OpenSpec.upto lowerChangedSpec)) lowerChangedUptoCard
end Rows
end Go.Proofs.YtjgeihmhppadaaaGreatDoor
