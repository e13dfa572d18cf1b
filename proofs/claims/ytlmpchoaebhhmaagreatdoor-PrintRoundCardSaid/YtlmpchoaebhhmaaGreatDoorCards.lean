/-
  DERIVED. GIVEN WITH THE SEED: THE CARDS: each row of YtlmpchoaebhhmaaGreatDoorRows.lean that lists a variable, with what it lists TIED to the program's text (the seventh form; the later family's looks); each row that meets fmt, with fmt's text TOLD by the authors' own Lean function (tested against real Go, not proved from fmt's source: count such statements apart). THE CARD IS WHAT COUNTS. Prove the row's statement (the work); the ties are given (YtlmpchoaebhhmaaGreatDoorTie.lean); close each card by the builder's one call (the guide's Derived/Test/ToyasCard.lean, 'card_holds'). Laid BY PROGRAM, IN A SANDBOX (cutbox-door.mjs). By AI agents, Wed Nov 11 2026. No macro, syntax, notation, axiom, sorry.
-/
import Derived.Test.YtlmpchoaebhhmaaGreatDoorRows
import GoSem.ClaimSeven
namespace Go.Proofs.YtlmpchoaebhhmaaGreatDoor
namespace Rows

/-- THE TIED CARD OF 'lockorderlaw03.ParseChanged'. -/
def parseChangedCard : Claim7 := { stood := { row := parseChangedRow, standIns := [], harness := (true, "8a6acdef7e209a6e4304dadb0eb662ec3bc2d0121bfd426dc567fb7d8d5b91da"), looks := false }, kinds := [], alts := [], laidByText := true, laidKinds := [.widerDeep], laidTests := true, laidLooks := .later }
def ParseChangedCardSaid : Prop := Claim7.holds Tryz.pinned (.plain (OpenSpec.ofChange parseChangedSpec)) parseChangedCard

/-- THE TIED CARD OF 'lockorderlaw04.PrintChanged'. -/
def printChangedCard : Claim7 := { stood := { row := printChangedRow, standIns := [], harness := (true, "8a6acdef7e209a6e4304dadb0eb662ec3bc2d0121bfd426dc567fb7d8d5b91da"), looks := false }, kinds := [], alts := [], laidByText := true, laidKinds := [.data, .data, .data, .widerDeep, .data], laidTests := true, laidLooks := .later }
def PrintChangedCardSaid : Prop := Claim7.holds Tryz.pinned (.plain (OpenSpec.ofChange printChangedSpec)) printChangedCard

/-- THE TIED CARD OF 'lockorderlaw04.PrintStatements'. -/
def printStatementsCard : Claim7 := { stood := { row := printStatementsRow, standIns := [], harness := (true, "8a6acdef7e209a6e4304dadb0eb662ec3bc2d0121bfd426dc567fb7d8d5b91da"), looks := false }, kinds := [], alts := [], laidByText := true, laidKinds := [.data, .data, .data, .widerDeep, .data], laidTests := true, laidLooks := .later }
def PrintStatementsCardSaid : Prop := Claim7.holds Tryz.pinned (.plain (OpenSpec.ofChange printStatementsSpec)) printStatementsCard

/-- THE TIED CARD OF 'lockorderlaw04.PrintRound'. -/
def printRoundCard : Claim7 := { stood := { row := printRoundRow, standIns := [], harness := (true, "8a6acdef7e209a6e4304dadb0eb662ec3bc2d0121bfd426dc567fb7d8d5b91da"), looks := false }, kinds := [], alts := [], laidByText := true, laidKinds := [.data, .data, .data, .widerDeep, .data], laidTests := true, laidLooks := .later }
def PrintRoundCardSaid : Prop := Claim7.holds Tryz.pinned (.plain (OpenSpec.ofChange printRoundSpec)) printRoundCard

/-- THE TIED CARD OF 'lockorderlaw04.PrintAgain'. -/
def printAgainCard : Claim7 := { stood := { row := printAgainRow, standIns := [], harness := (true, "8a6acdef7e209a6e4304dadb0eb662ec3bc2d0121bfd426dc567fb7d8d5b91da"), looks := false }, kinds := [], alts := [], laidByText := true, laidKinds := [.data, .data, .data, .widerDeep, .data], laidTests := true, laidLooks := .later }
def PrintAgainCardSaid : Prop := Claim7.holds Tryz.pinned (.plain (OpenSpec.ofChange printAgainSpec)) printAgainCard

/-- THE TIED CARD OF 'lockorderlaw04.PrintLong'. -/
def printLongCard : Claim7 := { stood := { row := printLongRow, standIns := [], harness := (true, "8a6acdef7e209a6e4304dadb0eb662ec3bc2d0121bfd426dc567fb7d8d5b91da"), looks := false }, kinds := [], alts := [], laidByText := true, laidKinds := [.data, .data, .data, .widerDeep, .data], laidTests := true, laidLooks := .later }
def PrintLongCardSaid : Prop := Claim7.holds Tryz.pinned (.plain (OpenSpec.ofChange printLongSpec)) printLongCard

/-- THE TIED CARD OF 'lockorderlaw05.ResolveProgram'. -/
def resolveProgramCard : Claim7 := { stood := { row := resolveProgramRow, standIns := [], harness := (true, "8a6acdef7e209a6e4304dadb0eb662ec3bc2d0121bfd426dc567fb7d8d5b91da"), looks := false }, kinds := [], alts := [], laidByText := true, laidKinds := [.data, .data, .data, .widerDeep, .data], laidTests := true, laidLooks := .later }
def ResolveProgramCardSaid : Prop := Claim7.holds Tryz.pinned (.plain (OpenSpec.ofChange resolveProgramSpec)) resolveProgramCard

/-- THE TIED CARD OF 'lockorderlaw05.ResolveChanged'. -/
def resolveChangedCard : Claim7 := { stood := { row := resolveChangedRow, standIns := [], harness := (true, "8a6acdef7e209a6e4304dadb0eb662ec3bc2d0121bfd426dc567fb7d8d5b91da"), looks := false }, kinds := [], alts := [], laidByText := true, laidKinds := [.data, .data, .data, .widerDeep, .data], laidTests := true, laidLooks := .later }
def ResolveChangedCardSaid : Prop := Claim7.holds Tryz.pinned (.plain (OpenSpec.ofChange resolveChangedSpec)) resolveChangedCard

/-- THE TIED CARD OF 'lockorderlaw05.ResolveRaw'. -/
def resolveRawCard : Claim7 := { stood := { row := resolveRawRow, standIns := [], harness := (true, "8a6acdef7e209a6e4304dadb0eb662ec3bc2d0121bfd426dc567fb7d8d5b91da"), looks := false }, kinds := [], alts := [], laidByText := true, laidKinds := [.data, .data, .data, .widerDeep, .data], laidTests := true, laidLooks := .later }
def ResolveRawCardSaid : Prop := Claim7.holds Tryz.pinned (.plain (OpenSpec.ofChange resolveRawSpec)) resolveRawCard

/-- THE TIED CARD OF 'lockorderlaw05.ResolveTexts'. -/
def resolveTextsCard : Claim7 := { stood := { row := resolveTextsRow, standIns := [], harness := (true, "8a6acdef7e209a6e4304dadb0eb662ec3bc2d0121bfd426dc567fb7d8d5b91da"), looks := false }, kinds := [], alts := [], laidByText := true, laidKinds := [.data, .data, .data, .widerDeep, .data], laidTests := true, laidLooks := .later }
def ResolveTextsCardSaid : Prop := Claim7.holds Tryz.pinned (.plain (OpenSpec.ofChange resolveTextsSpec)) resolveTextsCard

/-- THE TIED CARD OF 'lockorderlaw05.ResolveRename'. -/
def resolveRenameCard : Claim7 := { stood := { row := resolveRenameRow, standIns := [], harness := (true, "8a6acdef7e209a6e4304dadb0eb662ec3bc2d0121bfd426dc567fb7d8d5b91da"), looks := false }, kinds := [], alts := [], laidByText := true, laidKinds := [.data, .data, .data, .widerDeep, .data], laidTests := true, laidLooks := .later }
def ResolveRenameCardSaid : Prop := Claim7.holds Tryz.pinned (.plain (OpenSpec.ofChange resolveRenameSpec)) resolveRenameCard

/-- THE TIED CARD OF 'lockorderlaw05.ResolveFirst'. -/
def resolveFirstCard : Claim7 := { stood := { row := resolveFirstRow, standIns := [], harness := (true, "8a6acdef7e209a6e4304dadb0eb662ec3bc2d0121bfd426dc567fb7d8d5b91da"), looks := false }, kinds := [], alts := [], laidByText := true, laidKinds := [.data, .data, .data, .widerDeep, .data], laidTests := true, laidLooks := .later }
def ResolveFirstCardSaid : Prop := Claim7.holds Tryz.pinned (.plain (OpenSpec.ofChange resolveFirstSpec)) resolveFirstCard

/-- THE SECOND FORM's CARD OF 'lockorderlaw03.ParseChanged'. -/
def parseChangedUptoCard : Claim7 := { stood := { row := parseChangedUptoRow, standIns := [], harness := (true, "8a6acdef7e209a6e4304dadb0eb662ec3bc2d0121bfd426dc567fb7d8d5b91da"), looks := false }, kinds := [], alts := [], laidByText := true, laidKinds := [.widerDeep], laidTests := true, laidLooks := .later }
def ParseChangedUptoCardSaid : Prop := Claim7.holds Tryz.pinned (.plain (OpenSpec.upto parseChangedSpec)) parseChangedUptoCard

/-- THE SECOND FORM's CARD OF 'lockorderlaw04.PrintChanged'. -/
def printChangedUptoCard : Claim7 := { stood := { row := printChangedUptoRow, standIns := [], harness := (true, "8a6acdef7e209a6e4304dadb0eb662ec3bc2d0121bfd426dc567fb7d8d5b91da"), looks := false }, kinds := [], alts := [], laidByText := true, laidKinds := [.data, .data, .data, .widerDeep, .data], laidTests := true, laidLooks := .later }
def PrintChangedUptoCardSaid : Prop := Claim7.holds Tryz.pinned (.plain (OpenSpec.upto printChangedSpec)) printChangedUptoCard

/-- THE SECOND FORM's CARD OF 'lockorderlaw04.PrintStatements'. -/
def printStatementsUptoCard : Claim7 := { stood := { row := printStatementsUptoRow, standIns := [], harness := (true, "8a6acdef7e209a6e4304dadb0eb662ec3bc2d0121bfd426dc567fb7d8d5b91da"), looks := false }, kinds := [], alts := [], laidByText := true, laidKinds := [.data, .data, .data, .widerDeep, .data], laidTests := true, laidLooks := .later }
def PrintStatementsUptoCardSaid : Prop := Claim7.holds Tryz.pinned (.plain (OpenSpec.upto printStatementsSpec)) printStatementsUptoCard

/-- THE SECOND FORM's CARD OF 'lockorderlaw04.PrintRound'. -/
def printRoundUptoCard : Claim7 := { stood := { row := printRoundUptoRow, standIns := [], harness := (true, "8a6acdef7e209a6e4304dadb0eb662ec3bc2d0121bfd426dc567fb7d8d5b91da"), looks := false }, kinds := [], alts := [], laidByText := true, laidKinds := [.data, .data, .data, .widerDeep, .data], laidTests := true, laidLooks := .later }
def PrintRoundUptoCardSaid : Prop := Claim7.holds Tryz.pinned (.plain (OpenSpec.upto printRoundSpec)) printRoundUptoCard

/-- THE SECOND FORM's CARD OF 'lockorderlaw04.PrintAgain'. -/
def printAgainUptoCard : Claim7 := { stood := { row := printAgainUptoRow, standIns := [], harness := (true, "8a6acdef7e209a6e4304dadb0eb662ec3bc2d0121bfd426dc567fb7d8d5b91da"), looks := false }, kinds := [], alts := [], laidByText := true, laidKinds := [.data, .data, .data, .widerDeep, .data], laidTests := true, laidLooks := .later }
def PrintAgainUptoCardSaid : Prop := Claim7.holds Tryz.pinned (.plain (OpenSpec.upto printAgainSpec)) printAgainUptoCard

/-- THE SECOND FORM's CARD OF 'lockorderlaw04.PrintLong'. -/
def printLongUptoCard : Claim7 := { stood := { row := printLongUptoRow, standIns := [], harness := (true, "8a6acdef7e209a6e4304dadb0eb662ec3bc2d0121bfd426dc567fb7d8d5b91da"), looks := false }, kinds := [], alts := [], laidByText := true, laidKinds := [.data, .data, .data, .widerDeep, .data], laidTests := true, laidLooks := .later }
def PrintLongUptoCardSaid : Prop := Claim7.holds Tryz.pinned (.plain (OpenSpec.upto printLongSpec)) printLongUptoCard

/-- THE SECOND FORM's CARD OF 'lockorderlaw05.ResolveProgram'. -/
def resolveProgramUptoCard : Claim7 := { stood := { row := resolveProgramUptoRow, standIns := [], harness := (true, "8a6acdef7e209a6e4304dadb0eb662ec3bc2d0121bfd426dc567fb7d8d5b91da"), looks := false }, kinds := [], alts := [], laidByText := true, laidKinds := [.data, .data, .data, .widerDeep, .data], laidTests := true, laidLooks := .later }
def ResolveProgramUptoCardSaid : Prop := Claim7.holds Tryz.pinned (.plain (OpenSpec.upto resolveProgramSpec)) resolveProgramUptoCard

/-- THE SECOND FORM's CARD OF 'lockorderlaw05.ResolveChanged'. -/
def resolveChangedUptoCard : Claim7 := { stood := { row := resolveChangedUptoRow, standIns := [], harness := (true, "8a6acdef7e209a6e4304dadb0eb662ec3bc2d0121bfd426dc567fb7d8d5b91da"), looks := false }, kinds := [], alts := [], laidByText := true, laidKinds := [.data, .data, .data, .widerDeep, .data], laidTests := true, laidLooks := .later }
def ResolveChangedUptoCardSaid : Prop := Claim7.holds Tryz.pinned (.plain (OpenSpec.upto resolveChangedSpec)) resolveChangedUptoCard

/-- THE SECOND FORM's CARD OF 'lockorderlaw05.ResolveRaw'. -/
def resolveRawUptoCard : Claim7 := { stood := { row := resolveRawUptoRow, standIns := [], harness := (true, "8a6acdef7e209a6e4304dadb0eb662ec3bc2d0121bfd426dc567fb7d8d5b91da"), looks := false }, kinds := [], alts := [], laidByText := true, laidKinds := [.data, .data, .data, .widerDeep, .data], laidTests := true, laidLooks := .later }
def ResolveRawUptoCardSaid : Prop := Claim7.holds Tryz.pinned (.plain (OpenSpec.upto resolveRawSpec)) resolveRawUptoCard

/-- THE SECOND FORM's CARD OF 'lockorderlaw05.ResolveTexts'. -/
def resolveTextsUptoCard : Claim7 := { stood := { row := resolveTextsUptoRow, standIns := [], harness := (true, "8a6acdef7e209a6e4304dadb0eb662ec3bc2d0121bfd426dc567fb7d8d5b91da"), looks := false }, kinds := [], alts := [], laidByText := true, laidKinds := [.data, .data, .data, .widerDeep, .data], laidTests := true, laidLooks := .later }
def ResolveTextsUptoCardSaid : Prop := Claim7.holds Tryz.pinned (.plain (OpenSpec.upto resolveTextsSpec)) resolveTextsUptoCard

/-- THE SECOND FORM's CARD OF 'lockorderlaw05.ResolveRename'. -/
def resolveRenameUptoCard : Claim7 := { stood := { row := resolveRenameUptoRow, standIns := [], harness := (true, "8a6acdef7e209a6e4304dadb0eb662ec3bc2d0121bfd426dc567fb7d8d5b91da"), looks := false }, kinds := [], alts := [], laidByText := true, laidKinds := [.data, .data, .data, .widerDeep, .data], laidTests := true, laidLooks := .later }
def ResolveRenameUptoCardSaid : Prop := Claim7.holds Tryz.pinned (.plain (OpenSpec.upto resolveRenameSpec)) resolveRenameUptoCard

/-- THE SECOND FORM's CARD OF 'lockorderlaw05.ResolveFirst'. -/
def resolveFirstUptoCard : Claim7 := { stood := { row := resolveFirstUptoRow, standIns := [], harness := (true, "8a6acdef7e209a6e4304dadb0eb662ec3bc2d0121bfd426dc567fb7d8d5b91da"), looks := false }, kinds := [], alts := [], laidByText := true, laidKinds := [.data, .data, .data, .widerDeep, .data], laidTests := true, laidLooks := .later }
def ResolveFirstUptoCardSaid : Prop := Claim7.holds Tryz.pinned (.plain (OpenSpec.upto resolveFirstSpec)) resolveFirstUptoCard
end Rows
end Go.Proofs.YtlmpchoaebhhmaaGreatDoor
