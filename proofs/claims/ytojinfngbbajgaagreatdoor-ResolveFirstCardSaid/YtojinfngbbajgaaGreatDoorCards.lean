/-
  DERIVED. GIVEN WITH THE SEED: THE CARDS: each row of YtojinfngbbajgaaGreatDoorRows.lean that lists a variable, with what it lists TIED to the program's text (the seventh form; the later family's looks); each row that meets fmt, with fmt's text TOLD by the authors' own Lean function (tested against real Go, not proved from fmt's source: count such statements apart). THE CARD IS WHAT COUNTS. Prove the row's statement (the work); the ties are given (YtojinfngbbajgaaGreatDoorTie.lean); close each card by the builder's one call (the guide's Derived/Test/ToyasCard.lean, 'card_holds'). Laid BY PROGRAM, IN A SANDBOX (cutbox-door.mjs). By AI agents, Wed Nov 11 2026. No macro, syntax, notation, axiom, sorry.
-/
import Derived.Test.YtojinfngbbajgaaGreatDoorRows
import GoSem.ClaimSeven
namespace Go.Proofs.YtojinfngbbajgaaGreatDoor
namespace Rows

/-- THE TIED CARD OF 'lockorderlaw04.PrintAgain'. -/
def printAgainCard : Claim7 := { stood := { row := printAgainRow, standIns := [], harness := (true, "c499a36e5bfab111e916b6fb6114a766318db21cafe8a8662c8b3bdd3d14755f"), looks := false }, kinds := [], alts := [], laidByText := true, laidKinds := [.data, .data, .data, .widerDeep, .data], laidTests := true, laidLooks := .later }
def PrintAgainCardSaid : Prop := Claim7.holds Tryz.pinned (.plain (OpenSpec.ofChange printAgainSpec)) printAgainCard

/-- THE TIED CARD OF 'lockorderlaw04.PrintLong'. -/
def printLongCard : Claim7 := { stood := { row := printLongRow, standIns := [], harness := (true, "c499a36e5bfab111e916b6fb6114a766318db21cafe8a8662c8b3bdd3d14755f"), looks := false }, kinds := [], alts := [], laidByText := true, laidKinds := [.data, .data, .data, .widerDeep, .data], laidTests := true, laidLooks := .later }
def PrintLongCardSaid : Prop := Claim7.holds Tryz.pinned (.plain (OpenSpec.ofChange printLongSpec)) printLongCard

/-- THE TIED CARD OF 'lockorderlaw05.ResolveProgram'. -/
def resolveProgramCard : Claim7 := { stood := { row := resolveProgramRow, standIns := [], harness := (true, "c499a36e5bfab111e916b6fb6114a766318db21cafe8a8662c8b3bdd3d14755f"), looks := false }, kinds := [], alts := [], laidByText := true, laidKinds := [.data, .data, .data, .widerDeep, .data], laidTests := true, laidLooks := .later }
def ResolveProgramCardSaid : Prop := Claim7.holds Tryz.pinned (.plain (OpenSpec.ofChange resolveProgramSpec)) resolveProgramCard

/-- THE TIED CARD OF 'lockorderlaw05.ResolveChanged'. -/
def resolveChangedCard : Claim7 := { stood := { row := resolveChangedRow, standIns := [], harness := (true, "c499a36e5bfab111e916b6fb6114a766318db21cafe8a8662c8b3bdd3d14755f"), looks := false }, kinds := [], alts := [], laidByText := true, laidKinds := [.data, .data, .data, .widerDeep, .data], laidTests := true, laidLooks := .later }
def ResolveChangedCardSaid : Prop := Claim7.holds Tryz.pinned (.plain (OpenSpec.ofChange resolveChangedSpec)) resolveChangedCard

/-- THE TIED CARD OF 'lockorderlaw05.ResolveRaw'. -/
def resolveRawCard : Claim7 := { stood := { row := resolveRawRow, standIns := [], harness := (true, "c499a36e5bfab111e916b6fb6114a766318db21cafe8a8662c8b3bdd3d14755f"), looks := false }, kinds := [], alts := [], laidByText := true, laidKinds := [.data, .data, .data, .widerDeep, .data], laidTests := true, laidLooks := .later }
def ResolveRawCardSaid : Prop := Claim7.holds Tryz.pinned (.plain (OpenSpec.ofChange resolveRawSpec)) resolveRawCard

/-- THE TIED CARD OF 'lockorderlaw05.ResolveTexts'. -/
def resolveTextsCard : Claim7 := { stood := { row := resolveTextsRow, standIns := [], harness := (true, "c499a36e5bfab111e916b6fb6114a766318db21cafe8a8662c8b3bdd3d14755f"), looks := false }, kinds := [], alts := [], laidByText := true, laidKinds := [.data, .data, .data, .widerDeep, .data], laidTests := true, laidLooks := .later }
def ResolveTextsCardSaid : Prop := Claim7.holds Tryz.pinned (.plain (OpenSpec.ofChange resolveTextsSpec)) resolveTextsCard

/-- THE TIED CARD OF 'lockorderlaw05.ResolveRename'. -/
def resolveRenameCard : Claim7 := { stood := { row := resolveRenameRow, standIns := [], harness := (true, "c499a36e5bfab111e916b6fb6114a766318db21cafe8a8662c8b3bdd3d14755f"), looks := false }, kinds := [], alts := [], laidByText := true, laidKinds := [.data, .data, .data, .widerDeep, .data], laidTests := true, laidLooks := .later }
def ResolveRenameCardSaid : Prop := Claim7.holds Tryz.pinned (.plain (OpenSpec.ofChange resolveRenameSpec)) resolveRenameCard

/-- THE TIED CARD OF 'lockorderlaw05.ResolveFirst'. -/
def resolveFirstCard : Claim7 := { stood := { row := resolveFirstRow, standIns := [], harness := (true, "c499a36e5bfab111e916b6fb6114a766318db21cafe8a8662c8b3bdd3d14755f"), looks := false }, kinds := [], alts := [], laidByText := true, laidKinds := [.data, .data, .data, .widerDeep, .data], laidTests := true, laidLooks := .later }
def ResolveFirstCardSaid : Prop := Claim7.holds Tryz.pinned (.plain (OpenSpec.ofChange resolveFirstSpec)) resolveFirstCard

/-- THE SECOND FORM's CARD OF 'lockorderlaw04.PrintAgain'. -/
def printAgainUptoCard : Claim7 := { stood := { row := printAgainUptoRow, standIns := [], harness := (true, "c499a36e5bfab111e916b6fb6114a766318db21cafe8a8662c8b3bdd3d14755f"), looks := false }, kinds := [], alts := [], laidByText := true, laidKinds := [.data, .data, .data, .widerDeep, .data], laidTests := true, laidLooks := .later }
def PrintAgainUptoCardSaid : Prop := Claim7.holds Tryz.pinned (.plain (OpenSpec.upto printAgainSpec)) printAgainUptoCard

/-- THE SECOND FORM's CARD OF 'lockorderlaw04.PrintLong'. -/
def printLongUptoCard : Claim7 := { stood := { row := printLongUptoRow, standIns := [], harness := (true, "c499a36e5bfab111e916b6fb6114a766318db21cafe8a8662c8b3bdd3d14755f"), looks := false }, kinds := [], alts := [], laidByText := true, laidKinds := [.data, .data, .data, .widerDeep, .data], laidTests := true, laidLooks := .later }
def PrintLongUptoCardSaid : Prop := Claim7.holds Tryz.pinned (.plain (OpenSpec.upto printLongSpec)) printLongUptoCard

/-- THE SECOND FORM's CARD OF 'lockorderlaw05.ResolveProgram'. -/
def resolveProgramUptoCard : Claim7 := { stood := { row := resolveProgramUptoRow, standIns := [], harness := (true, "c499a36e5bfab111e916b6fb6114a766318db21cafe8a8662c8b3bdd3d14755f"), looks := false }, kinds := [], alts := [], laidByText := true, laidKinds := [.data, .data, .data, .widerDeep, .data], laidTests := true, laidLooks := .later }
def ResolveProgramUptoCardSaid : Prop := Claim7.holds Tryz.pinned (.plain (OpenSpec.upto resolveProgramSpec)) resolveProgramUptoCard

/-- THE SECOND FORM's CARD OF 'lockorderlaw05.ResolveChanged'. -/
def resolveChangedUptoCard : Claim7 := { stood := { row := resolveChangedUptoRow, standIns := [], harness := (true, "c499a36e5bfab111e916b6fb6114a766318db21cafe8a8662c8b3bdd3d14755f"), looks := false }, kinds := [], alts := [], laidByText := true, laidKinds := [.data, .data, .data, .widerDeep, .data], laidTests := true, laidLooks := .later }
def ResolveChangedUptoCardSaid : Prop := Claim7.holds Tryz.pinned (.plain (OpenSpec.upto resolveChangedSpec)) resolveChangedUptoCard

/-- THE SECOND FORM's CARD OF 'lockorderlaw05.ResolveRaw'. -/
def resolveRawUptoCard : Claim7 := { stood := { row := resolveRawUptoRow, standIns := [], harness := (true, "c499a36e5bfab111e916b6fb6114a766318db21cafe8a8662c8b3bdd3d14755f"), looks := false }, kinds := [], alts := [], laidByText := true, laidKinds := [.data, .data, .data, .widerDeep, .data], laidTests := true, laidLooks := .later }
def ResolveRawUptoCardSaid : Prop := Claim7.holds Tryz.pinned (.plain (OpenSpec.upto resolveRawSpec)) resolveRawUptoCard

/-- THE SECOND FORM's CARD OF 'lockorderlaw05.ResolveTexts'. -/
def resolveTextsUptoCard : Claim7 := { stood := { row := resolveTextsUptoRow, standIns := [], harness := (true, "c499a36e5bfab111e916b6fb6114a766318db21cafe8a8662c8b3bdd3d14755f"), looks := false }, kinds := [], alts := [], laidByText := true, laidKinds := [.data, .data, .data, .widerDeep, .data], laidTests := true, laidLooks := .later }
def ResolveTextsUptoCardSaid : Prop := Claim7.holds Tryz.pinned (.plain (OpenSpec.upto resolveTextsSpec)) resolveTextsUptoCard

/-- THE SECOND FORM's CARD OF 'lockorderlaw05.ResolveRename'. -/
def resolveRenameUptoCard : Claim7 := { stood := { row := resolveRenameUptoRow, standIns := [], harness := (true, "c499a36e5bfab111e916b6fb6114a766318db21cafe8a8662c8b3bdd3d14755f"), looks := false }, kinds := [], alts := [], laidByText := true, laidKinds := [.data, .data, .data, .widerDeep, .data], laidTests := true, laidLooks := .later }
def ResolveRenameUptoCardSaid : Prop := Claim7.holds Tryz.pinned (.plain (OpenSpec.upto resolveRenameSpec)) resolveRenameUptoCard

/-- THE SECOND FORM's CARD OF 'lockorderlaw05.ResolveFirst'. -/
def resolveFirstUptoCard : Claim7 := { stood := { row := resolveFirstUptoRow, standIns := [], harness := (true, "c499a36e5bfab111e916b6fb6114a766318db21cafe8a8662c8b3bdd3d14755f"), looks := false }, kinds := [], alts := [], laidByText := true, laidKinds := [.data, .data, .data, .widerDeep, .data], laidTests := true, laidLooks := .later }
def ResolveFirstUptoCardSaid : Prop := Claim7.holds Tryz.pinned (.plain (OpenSpec.upto resolveFirstSpec)) resolveFirstUptoCard
end Rows
end Go.Proofs.YtojinfngbbajgaaGreatDoor
