/-
  DERIVED. GIVEN WITH THE SEED: THE CARDS: each row of YtflcnehhpmjipaaGreatDoorRows.lean that lists a variable, with what it lists TIED to the program's text (the seventh form; the later family's looks); each row that meets fmt, with fmt's text TOLD by the authors' own Lean function (tested against real Go, not proved from fmt's source: count such statements apart). THE CARD IS WHAT COUNTS. Prove the row's statement (the work); the ties are given (YtflcnehhpmjipaaGreatDoorTie.lean); close each card by the builder's one call (the guide's Derived/Test/ToyasCard.lean, 'card_holds'). Laid BY PROGRAM, IN A SANDBOX (cutbox-door.mjs). By AI agents, Wed Nov 11 2026. No macro, syntax, notation, axiom, sorry.
-/
import Derived.Test.YtflcnehhpmjipaaGreatDoorRows
import GoSem.ClaimSeven
namespace Go.Proofs.YtflcnehhpmjipaaGreatDoor
namespace Rows

/-- THE TIED CARD OF 'lockorderlaw03.ParseChanged'. -/
def parseChangedCard : Claim7 := { stood := { row := parseChangedRow, standIns := [], harness := (true, "a108e3ba0126fce9d340eb2fc239e94750188bde6b2aedfa1b2afca34e58f79c"), looks := false }, kinds := [], alts := [], laidByText := true, laidKinds := [.widerDeep], laidTests := true, laidLooks := .later }
def ParseChangedCardSaid : Prop := Claim7.holds Tryz.pinned (.plain (OpenSpec.ofChange parseChangedSpec)) parseChangedCard

/-- THE TIED CARD OF 'lockorderlaw03.ParseDeep'. -/
def parseDeepCard : Claim7 := { stood := { row := parseDeepRow, standIns := [], harness := (true, "a108e3ba0126fce9d340eb2fc239e94750188bde6b2aedfa1b2afca34e58f79c"), looks := false }, kinds := [], alts := [], laidByText := true, laidKinds := [.widerDeep], laidTests := true, laidLooks := .later }
def ParseDeepCardSaid : Prop := Claim7.holds Tryz.pinned (.plain (OpenSpec.ofChange parseDeepSpec)) parseDeepCard

/-- THE TIED CARD OF 'lockorderlaw03.ParseLimits'. -/
def parseLimitsCard : Claim7 := { stood := { row := parseLimitsRow, standIns := [], harness := (true, "a108e3ba0126fce9d340eb2fc239e94750188bde6b2aedfa1b2afca34e58f79c"), looks := false }, kinds := [], alts := [], laidByText := true, laidKinds := [.widerDeep], laidTests := true, laidLooks := .later }
def ParseLimitsCardSaid : Prop := Claim7.holds Tryz.pinned (.plain (OpenSpec.ofChange parseLimitsSpec)) parseLimitsCard

/-- THE TIED CARD OF 'lockorderlaw03.ParseBlock'. -/
def parseBlockCard : Claim7 := { stood := { row := parseBlockRow, standIns := [], harness := (true, "a108e3ba0126fce9d340eb2fc239e94750188bde6b2aedfa1b2afca34e58f79c"), looks := false }, kinds := [], alts := [], laidByText := true, laidKinds := [.widerDeep], laidTests := true, laidLooks := .later }
def ParseBlockCardSaid : Prop := Claim7.holds Tryz.pinned (.plain (OpenSpec.ofChange parseBlockSpec)) parseBlockCard

/-- THE TIED CARD OF 'lockorderlaw03.ParseOrder'. -/
def parseOrderCard : Claim7 := { stood := { row := parseOrderRow, standIns := [], harness := (true, "a108e3ba0126fce9d340eb2fc239e94750188bde6b2aedfa1b2afca34e58f79c"), looks := false }, kinds := [], alts := [], laidByText := true, laidKinds := [.widerDeep], laidTests := true, laidLooks := .later }
def ParseOrderCardSaid : Prop := Claim7.holds Tryz.pinned (.plain (OpenSpec.ofChange parseOrderSpec)) parseOrderCard

/-- THE TIED CARD OF 'lockorderlaw03.ParseSpace'. -/
def parseSpaceCard : Claim7 := { stood := { row := parseSpaceRow, standIns := [], harness := (true, "a108e3ba0126fce9d340eb2fc239e94750188bde6b2aedfa1b2afca34e58f79c"), looks := false }, kinds := [], alts := [], laidByText := true, laidKinds := [.widerDeep], laidTests := true, laidLooks := .later }
def ParseSpaceCardSaid : Prop := Claim7.holds Tryz.pinned (.plain (OpenSpec.ofChange parseSpaceSpec)) parseSpaceCard

/-- THE TIED CARD OF 'lockorderlaw04.PrintChanged'. -/
def printChangedCard : Claim7 := { stood := { row := printChangedRow, standIns := [], harness := (true, "a108e3ba0126fce9d340eb2fc239e94750188bde6b2aedfa1b2afca34e58f79c"), looks := false }, kinds := [], alts := [], laidByText := true, laidKinds := [.data, .data, .data, .widerDeep, .data], laidTests := true, laidLooks := .later }
def PrintChangedCardSaid : Prop := Claim7.holds Tryz.pinned (.plain (OpenSpec.ofChange printChangedSpec)) printChangedCard

/-- THE TIED CARD OF 'lockorderlaw04.PrintStatements'. -/
def printStatementsCard : Claim7 := { stood := { row := printStatementsRow, standIns := [], harness := (true, "a108e3ba0126fce9d340eb2fc239e94750188bde6b2aedfa1b2afca34e58f79c"), looks := false }, kinds := [], alts := [], laidByText := true, laidKinds := [.data, .data, .data, .widerDeep, .data], laidTests := true, laidLooks := .later }
def PrintStatementsCardSaid : Prop := Claim7.holds Tryz.pinned (.plain (OpenSpec.ofChange printStatementsSpec)) printStatementsCard

/-- THE SECOND FORM's CARD OF 'lockorderlaw03.ParseChanged'. -/
def parseChangedUptoCard : Claim7 := { stood := { row := parseChangedUptoRow, standIns := [], harness := (true, "a108e3ba0126fce9d340eb2fc239e94750188bde6b2aedfa1b2afca34e58f79c"), looks := false }, kinds := [], alts := [], laidByText := true, laidKinds := [.widerDeep], laidTests := true, laidLooks := .later }
def ParseChangedUptoCardSaid : Prop := Claim7.holds Tryz.pinned (.plain (OpenSpec.upto parseChangedSpec)) parseChangedUptoCard

/-- THE SECOND FORM's CARD OF 'lockorderlaw03.ParseDeep'. -/
def parseDeepUptoCard : Claim7 := { stood := { row := parseDeepUptoRow, standIns := [], harness := (true, "a108e3ba0126fce9d340eb2fc239e94750188bde6b2aedfa1b2afca34e58f79c"), looks := false }, kinds := [], alts := [], laidByText := true, laidKinds := [.widerDeep], laidTests := true, laidLooks := .later }
def ParseDeepUptoCardSaid : Prop := Claim7.holds Tryz.pinned (.plain (OpenSpec.upto parseDeepSpec)) parseDeepUptoCard

/-- THE SECOND FORM's CARD OF 'lockorderlaw03.ParseLimits'. -/
def parseLimitsUptoCard : Claim7 := { stood := { row := parseLimitsUptoRow, standIns := [], harness := (true, "a108e3ba0126fce9d340eb2fc239e94750188bde6b2aedfa1b2afca34e58f79c"), looks := false }, kinds := [], alts := [], laidByText := true, laidKinds := [.widerDeep], laidTests := true, laidLooks := .later }
def ParseLimitsUptoCardSaid : Prop := Claim7.holds Tryz.pinned (.plain (OpenSpec.upto parseLimitsSpec)) parseLimitsUptoCard

/-- THE SECOND FORM's CARD OF 'lockorderlaw03.ParseBlock'. -/
def parseBlockUptoCard : Claim7 := { stood := { row := parseBlockUptoRow, standIns := [], harness := (true, "a108e3ba0126fce9d340eb2fc239e94750188bde6b2aedfa1b2afca34e58f79c"), looks := false }, kinds := [], alts := [], laidByText := true, laidKinds := [.widerDeep], laidTests := true, laidLooks := .later }
def ParseBlockUptoCardSaid : Prop := Claim7.holds Tryz.pinned (.plain (OpenSpec.upto parseBlockSpec)) parseBlockUptoCard

/-- THE SECOND FORM's CARD OF 'lockorderlaw03.ParseOrder'. -/
def parseOrderUptoCard : Claim7 := { stood := { row := parseOrderUptoRow, standIns := [], harness := (true, "a108e3ba0126fce9d340eb2fc239e94750188bde6b2aedfa1b2afca34e58f79c"), looks := false }, kinds := [], alts := [], laidByText := true, laidKinds := [.widerDeep], laidTests := true, laidLooks := .later }
def ParseOrderUptoCardSaid : Prop := Claim7.holds Tryz.pinned (.plain (OpenSpec.upto parseOrderSpec)) parseOrderUptoCard

/-- THE SECOND FORM's CARD OF 'lockorderlaw03.ParseSpace'. -/
def parseSpaceUptoCard : Claim7 := { stood := { row := parseSpaceUptoRow, standIns := [], harness := (true, "a108e3ba0126fce9d340eb2fc239e94750188bde6b2aedfa1b2afca34e58f79c"), looks := false }, kinds := [], alts := [], laidByText := true, laidKinds := [.widerDeep], laidTests := true, laidLooks := .later }
def ParseSpaceUptoCardSaid : Prop := Claim7.holds Tryz.pinned (.plain (OpenSpec.upto parseSpaceSpec)) parseSpaceUptoCard

/-- THE SECOND FORM's CARD OF 'lockorderlaw04.PrintChanged'. -/
def printChangedUptoCard : Claim7 := { stood := { row := printChangedUptoRow, standIns := [], harness := (true, "a108e3ba0126fce9d340eb2fc239e94750188bde6b2aedfa1b2afca34e58f79c"), looks := false }, kinds := [], alts := [], laidByText := true, laidKinds := [.data, .data, .data, .widerDeep, .data], laidTests := true, laidLooks := .later }
def PrintChangedUptoCardSaid : Prop := Claim7.holds Tryz.pinned (.plain (OpenSpec.upto printChangedSpec)) printChangedUptoCard

/-- THE SECOND FORM's CARD OF 'lockorderlaw04.PrintStatements'. -/
def printStatementsUptoCard : Claim7 := { stood := { row := printStatementsUptoRow, standIns := [], harness := (true, "a108e3ba0126fce9d340eb2fc239e94750188bde6b2aedfa1b2afca34e58f79c"), looks := false }, kinds := [], alts := [], laidByText := true, laidKinds := [.data, .data, .data, .widerDeep, .data], laidTests := true, laidLooks := .later }
def PrintStatementsUptoCardSaid : Prop := Claim7.holds Tryz.pinned (.plain (OpenSpec.upto printStatementsSpec)) printStatementsUptoCard
end Rows
end Go.Proofs.YtflcnehhpmjipaaGreatDoor
