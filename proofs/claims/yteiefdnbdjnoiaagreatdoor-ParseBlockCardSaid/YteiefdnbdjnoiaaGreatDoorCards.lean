/-
  DERIVED. GIVEN WITH THE SEED: THE CARDS: each row of YteiefdnbdjnoiaaGreatDoorRows.lean that lists a variable, with what it lists TIED to the program's text (the seventh form; the later family's looks); each row that meets fmt, with fmt's text TOLD by the authors' own Lean function (tested against real Go, not proved from fmt's source: count such statements apart). THE CARD IS WHAT COUNTS. Prove the row's statement (the work); the ties are given (YteiefdnbdjnoiaaGreatDoorTie.lean); close each card by the builder's one call (the guide's Derived/Test/ToyasCard.lean, 'card_holds'). Laid BY PROGRAM, IN A SANDBOX (cutbox-door.mjs). By AI agents, Wed Nov 11 2026. No macro, syntax, notation, axiom, sorry.
-/
import Derived.Test.YteiefdnbdjnoiaaGreatDoorRows
import GoSem.ClaimSeven
namespace Go.Proofs.YteiefdnbdjnoiaaGreatDoor
namespace Rows

/-- THE TIED CARD OF 'lockorderlaw03.ParseChanged'. -/
def parseChangedCard : Claim7 := { stood := { row := parseChangedRow, standIns := [], harness := (true, "2f038f44a44abfe5cf8432e6e85e7d998bfd63812a500081e2fe906bfd185d02"), looks := false }, kinds := [], alts := [], laidByText := true, laidKinds := [.widerDeep], laidTests := true, laidLooks := .later }
def ParseChangedCardSaid : Prop := Claim7.holds Tryz.pinned (.plain (OpenSpec.ofChange parseChangedSpec)) parseChangedCard

/-- THE TIED CARD OF 'lockorderlaw03.ParseOrder'. -/
def parseOrderCard : Claim7 := { stood := { row := parseOrderRow, standIns := [], harness := (true, "2f038f44a44abfe5cf8432e6e85e7d998bfd63812a500081e2fe906bfd185d02"), looks := false }, kinds := [], alts := [], laidByText := true, laidKinds := [.widerDeep], laidTests := true, laidLooks := .later }
def ParseOrderCardSaid : Prop := Claim7.holds Tryz.pinned (.plain (OpenSpec.ofChange parseOrderSpec)) parseOrderCard

/-- THE TIED CARD OF 'lockorderlaw03.ParseSpace'. -/
def parseSpaceCard : Claim7 := { stood := { row := parseSpaceRow, standIns := [], harness := (true, "2f038f44a44abfe5cf8432e6e85e7d998bfd63812a500081e2fe906bfd185d02"), looks := false }, kinds := [], alts := [], laidByText := true, laidKinds := [.widerDeep], laidTests := true, laidLooks := .later }
def ParseSpaceCardSaid : Prop := Claim7.holds Tryz.pinned (.plain (OpenSpec.ofChange parseSpaceSpec)) parseSpaceCard

/-- THE TIED CARD OF 'lockorderlaw03.ParseBlock'. -/
def parseBlockCard : Claim7 := { stood := { row := parseBlockRow, standIns := [], harness := (true, "2f038f44a44abfe5cf8432e6e85e7d998bfd63812a500081e2fe906bfd185d02"), looks := false }, kinds := [], alts := [], laidByText := true, laidKinds := [.widerDeep], laidTests := true, laidLooks := .later }
def ParseBlockCardSaid : Prop := Claim7.holds Tryz.pinned (.plain (OpenSpec.ofChange parseBlockSpec)) parseBlockCard

/-- THE TIED CARD OF 'lockorderlaw04.PrintChanged'. -/
def printChangedCard : Claim7 := { stood := { row := printChangedRow, standIns := [], harness := (true, "2f038f44a44abfe5cf8432e6e85e7d998bfd63812a500081e2fe906bfd185d02"), looks := false }, kinds := [], alts := [], laidByText := true, laidKinds := [.data, .data, .data, .widerDeep, .data], laidTests := true, laidLooks := .later }
def PrintChangedCardSaid : Prop := Claim7.holds Tryz.pinned (.plain (OpenSpec.ofChange printChangedSpec)) printChangedCard

/-- THE TIED CARD OF 'lockorderlaw04.PrintStatements'. -/
def printStatementsCard : Claim7 := { stood := { row := printStatementsRow, standIns := [], harness := (true, "2f038f44a44abfe5cf8432e6e85e7d998bfd63812a500081e2fe906bfd185d02"), looks := false }, kinds := [], alts := [], laidByText := true, laidKinds := [.data, .data, .data, .widerDeep, .data], laidTests := true, laidLooks := .later }
def PrintStatementsCardSaid : Prop := Claim7.holds Tryz.pinned (.plain (OpenSpec.ofChange printStatementsSpec)) printStatementsCard

/-- THE TIED CARD OF 'lockorderlaw04.PrintRound'. -/
def printRoundCard : Claim7 := { stood := { row := printRoundRow, standIns := [], harness := (true, "2f038f44a44abfe5cf8432e6e85e7d998bfd63812a500081e2fe906bfd185d02"), looks := false }, kinds := [], alts := [], laidByText := true, laidKinds := [.data, .data, .data, .widerDeep, .data], laidTests := true, laidLooks := .later }
def PrintRoundCardSaid : Prop := Claim7.holds Tryz.pinned (.plain (OpenSpec.ofChange printRoundSpec)) printRoundCard

/-- THE TIED CARD OF 'lockorderlaw04.PrintAgain'. -/
def printAgainCard : Claim7 := { stood := { row := printAgainRow, standIns := [], harness := (true, "2f038f44a44abfe5cf8432e6e85e7d998bfd63812a500081e2fe906bfd185d02"), looks := false }, kinds := [], alts := [], laidByText := true, laidKinds := [.data, .data, .data, .widerDeep, .data], laidTests := true, laidLooks := .later }
def PrintAgainCardSaid : Prop := Claim7.holds Tryz.pinned (.plain (OpenSpec.ofChange printAgainSpec)) printAgainCard

/-- THE TIED CARD OF 'lockorderlaw04.PrintLong'. -/
def printLongCard : Claim7 := { stood := { row := printLongRow, standIns := [], harness := (true, "2f038f44a44abfe5cf8432e6e85e7d998bfd63812a500081e2fe906bfd185d02"), looks := false }, kinds := [], alts := [], laidByText := true, laidKinds := [.data, .data, .data, .widerDeep, .data], laidTests := true, laidLooks := .later }
def PrintLongCardSaid : Prop := Claim7.holds Tryz.pinned (.plain (OpenSpec.ofChange printLongSpec)) printLongCard

/-- THE TIED CARD OF 'lockorderlaw05.ResolveProgram'. -/
def resolveProgramCard : Claim7 := { stood := { row := resolveProgramRow, standIns := [], harness := (true, "2f038f44a44abfe5cf8432e6e85e7d998bfd63812a500081e2fe906bfd185d02"), looks := false }, kinds := [], alts := [], laidByText := true, laidKinds := [.data, .data, .data, .widerDeep, .data], laidTests := true, laidLooks := .later }
def ResolveProgramCardSaid : Prop := Claim7.holds Tryz.pinned (.plain (OpenSpec.ofChange resolveProgramSpec)) resolveProgramCard

/-- THE SECOND FORM's CARD OF 'lockorderlaw03.ParseChanged'. -/
def parseChangedUptoCard : Claim7 := { stood := { row := parseChangedUptoRow, standIns := [], harness := (true, "2f038f44a44abfe5cf8432e6e85e7d998bfd63812a500081e2fe906bfd185d02"), looks := false }, kinds := [], alts := [], laidByText := true, laidKinds := [.widerDeep], laidTests := true, laidLooks := .later }
def ParseChangedUptoCardSaid : Prop := Claim7.holds Tryz.pinned (.plain (OpenSpec.upto parseChangedSpec)) parseChangedUptoCard

/-- THE SECOND FORM's CARD OF 'lockorderlaw03.ParseOrder'. -/
def parseOrderUptoCard : Claim7 := { stood := { row := parseOrderUptoRow, standIns := [], harness := (true, "2f038f44a44abfe5cf8432e6e85e7d998bfd63812a500081e2fe906bfd185d02"), looks := false }, kinds := [], alts := [], laidByText := true, laidKinds := [.widerDeep], laidTests := true, laidLooks := .later }
def ParseOrderUptoCardSaid : Prop := Claim7.holds Tryz.pinned (.plain (OpenSpec.upto parseOrderSpec)) parseOrderUptoCard

/-- THE SECOND FORM's CARD OF 'lockorderlaw03.ParseSpace'. -/
def parseSpaceUptoCard : Claim7 := { stood := { row := parseSpaceUptoRow, standIns := [], harness := (true, "2f038f44a44abfe5cf8432e6e85e7d998bfd63812a500081e2fe906bfd185d02"), looks := false }, kinds := [], alts := [], laidByText := true, laidKinds := [.widerDeep], laidTests := true, laidLooks := .later }
def ParseSpaceUptoCardSaid : Prop := Claim7.holds Tryz.pinned (.plain (OpenSpec.upto parseSpaceSpec)) parseSpaceUptoCard

/-- THE SECOND FORM's CARD OF 'lockorderlaw03.ParseBlock'. -/
def parseBlockUptoCard : Claim7 := { stood := { row := parseBlockUptoRow, standIns := [], harness := (true, "2f038f44a44abfe5cf8432e6e85e7d998bfd63812a500081e2fe906bfd185d02"), looks := false }, kinds := [], alts := [], laidByText := true, laidKinds := [.widerDeep], laidTests := true, laidLooks := .later }
def ParseBlockUptoCardSaid : Prop := Claim7.holds Tryz.pinned (.plain (OpenSpec.upto parseBlockSpec)) parseBlockUptoCard

/-- THE SECOND FORM's CARD OF 'lockorderlaw04.PrintChanged'. -/
def printChangedUptoCard : Claim7 := { stood := { row := printChangedUptoRow, standIns := [], harness := (true, "2f038f44a44abfe5cf8432e6e85e7d998bfd63812a500081e2fe906bfd185d02"), looks := false }, kinds := [], alts := [], laidByText := true, laidKinds := [.data, .data, .data, .widerDeep, .data], laidTests := true, laidLooks := .later }
def PrintChangedUptoCardSaid : Prop := Claim7.holds Tryz.pinned (.plain (OpenSpec.upto printChangedSpec)) printChangedUptoCard

/-- THE SECOND FORM's CARD OF 'lockorderlaw04.PrintStatements'. -/
def printStatementsUptoCard : Claim7 := { stood := { row := printStatementsUptoRow, standIns := [], harness := (true, "2f038f44a44abfe5cf8432e6e85e7d998bfd63812a500081e2fe906bfd185d02"), looks := false }, kinds := [], alts := [], laidByText := true, laidKinds := [.data, .data, .data, .widerDeep, .data], laidTests := true, laidLooks := .later }
def PrintStatementsUptoCardSaid : Prop := Claim7.holds Tryz.pinned (.plain (OpenSpec.upto printStatementsSpec)) printStatementsUptoCard

/-- THE SECOND FORM's CARD OF 'lockorderlaw04.PrintRound'. -/
def printRoundUptoCard : Claim7 := { stood := { row := printRoundUptoRow, standIns := [], harness := (true, "2f038f44a44abfe5cf8432e6e85e7d998bfd63812a500081e2fe906bfd185d02"), looks := false }, kinds := [], alts := [], laidByText := true, laidKinds := [.data, .data, .data, .widerDeep, .data], laidTests := true, laidLooks := .later }
def PrintRoundUptoCardSaid : Prop := Claim7.holds Tryz.pinned (.plain (OpenSpec.upto printRoundSpec)) printRoundUptoCard

/-- THE SECOND FORM's CARD OF 'lockorderlaw04.PrintAgain'. -/
def printAgainUptoCard : Claim7 := { stood := { row := printAgainUptoRow, standIns := [], harness := (true, "2f038f44a44abfe5cf8432e6e85e7d998bfd63812a500081e2fe906bfd185d02"), looks := false }, kinds := [], alts := [], laidByText := true, laidKinds := [.data, .data, .data, .widerDeep, .data], laidTests := true, laidLooks := .later }
def PrintAgainUptoCardSaid : Prop := Claim7.holds Tryz.pinned (.plain (OpenSpec.upto printAgainSpec)) printAgainUptoCard

/-- THE SECOND FORM's CARD OF 'lockorderlaw04.PrintLong'. -/
def printLongUptoCard : Claim7 := { stood := { row := printLongUptoRow, standIns := [], harness := (true, "2f038f44a44abfe5cf8432e6e85e7d998bfd63812a500081e2fe906bfd185d02"), looks := false }, kinds := [], alts := [], laidByText := true, laidKinds := [.data, .data, .data, .widerDeep, .data], laidTests := true, laidLooks := .later }
def PrintLongUptoCardSaid : Prop := Claim7.holds Tryz.pinned (.plain (OpenSpec.upto printLongSpec)) printLongUptoCard

/-- THE SECOND FORM's CARD OF 'lockorderlaw05.ResolveProgram'. -/
def resolveProgramUptoCard : Claim7 := { stood := { row := resolveProgramUptoRow, standIns := [], harness := (true, "2f038f44a44abfe5cf8432e6e85e7d998bfd63812a500081e2fe906bfd185d02"), looks := false }, kinds := [], alts := [], laidByText := true, laidKinds := [.data, .data, .data, .widerDeep, .data], laidTests := true, laidLooks := .later }
def ResolveProgramUptoCardSaid : Prop := Claim7.holds Tryz.pinned (.plain (OpenSpec.upto resolveProgramSpec)) resolveProgramUptoCard
end Rows
end Go.Proofs.YteiefdnbdjnoiaaGreatDoor
