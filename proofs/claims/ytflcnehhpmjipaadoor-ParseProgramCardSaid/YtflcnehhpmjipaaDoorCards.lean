/-
  DERIVED. GIVEN WITH THE SEED: THE CARDS: each row of YtflcnehhpmjipaaDoorRows.lean that lists a variable, with what it lists TIED to the program's text (the seventh form; the later family's looks); each row that meets fmt, with fmt's text TOLD by the authors' own Lean function (tested against real Go, not proved from fmt's source: count such statements apart). THE CARD IS WHAT COUNTS. Prove the row's statement (the work); the ties are given (YtflcnehhpmjipaaDoorTie.lean); close each card by the builder's one call (the guide's Derived/Test/ToyasCard.lean, 'card_holds'). Laid BY PROGRAM, IN A SANDBOX (cutbox-door.mjs). By AI agents, Wed Nov 11 2026. No macro, syntax, notation, axiom, sorry.
-/
import Derived.Test.YtflcnehhpmjipaaDoorRows
import GoSem.ClaimSeven
namespace Go.Proofs.YtflcnehhpmjipaaDoor
namespace Rows

/-- THE TIED CARD OF 'lockorderlaw03.ParseProgram'. -/
def parseProgramCard : Claim7 := { stood := { row := parseProgramRow, standIns := [], harness := (true, "077c29b91818da9781f0ec58d4a4b98232d0c4217bef450638840aed84abefde"), looks := false }, kinds := [], alts := [], laidByText := true, laidKinds := [.widerDeep], laidTests := true, laidLooks := .later }
def ParseProgramCardSaid : Prop := Claim7.holds Tryd.pinned (.plain (OpenSpec.ofChange parseProgramSpec)) parseProgramCard

/-- THE TIED CARD OF 'lockorderlaw03.ParseTokens'. -/
def parseTokensCard : Claim7 := { stood := { row := parseTokensRow, standIns := [], harness := (true, "077c29b91818da9781f0ec58d4a4b98232d0c4217bef450638840aed84abefde"), looks := false }, kinds := [], alts := [], laidByText := true, laidKinds := [.widerDeep], laidTests := true, laidLooks := .later }
def ParseTokensCardSaid : Prop := Claim7.holds Tryd.pinned (.plain (OpenSpec.ofChange parseTokensSpec)) parseTokensCard

/-- THE TIED CARD OF 'lockorderlaw02.ExprFormat'. -/
def exprFormatCard : Claim7 := { stood := { row := exprFormatRow, standIns := [], harness := (true, "077c29b91818da9781f0ec58d4a4b98232d0c4217bef450638840aed84abefde"), looks := false }, kinds := [], alts := [], laidByText := true, laidKinds := [.data, .data, .data, .widerDeep, .data], laidTests := true, laidLooks := .later }
def ExprFormatCardSaid : Prop := Claim7.holds Tryd.pinned (.plain (OpenSpec.ofChange exprFormatSpec)) exprFormatCard

/-- THE TIED CARD OF 'lockorderlaw02.ExprValid'. -/
def exprValidCard : Claim7 := { stood := { row := exprValidRow, standIns := [], harness := (true, "077c29b91818da9781f0ec58d4a4b98232d0c4217bef450638840aed84abefde"), looks := false }, kinds := [], alts := [], laidByText := true, laidKinds := [.data, .data, .data, .widerDeep, .data], laidTests := true, laidLooks := .later }
def ExprValidCardSaid : Prop := Claim7.holds Tryd.pinned (.plain (OpenSpec.ofChange exprValidSpec)) exprValidCard

/-- THE SECOND FORM's CARD OF 'lockorderlaw03.ParseProgram'. -/
def parseProgramUptoCard : Claim7 := { stood := { row := parseProgramUptoRow, standIns := [], harness := (true, "077c29b91818da9781f0ec58d4a4b98232d0c4217bef450638840aed84abefde"), looks := false }, kinds := [], alts := [], laidByText := true, laidKinds := [.widerDeep], laidTests := true, laidLooks := .later }
def ParseProgramUptoCardSaid : Prop := Claim7.holds Tryd.pinned (.plain (OpenSpec.upto parseProgramSpec)) parseProgramUptoCard

/-- THE SECOND FORM's CARD OF 'lockorderlaw03.ParseTokens'. -/
def parseTokensUptoCard : Claim7 := { stood := { row := parseTokensUptoRow, standIns := [], harness := (true, "077c29b91818da9781f0ec58d4a4b98232d0c4217bef450638840aed84abefde"), looks := false }, kinds := [], alts := [], laidByText := true, laidKinds := [.widerDeep], laidTests := true, laidLooks := .later }
def ParseTokensUptoCardSaid : Prop := Claim7.holds Tryd.pinned (.plain (OpenSpec.upto parseTokensSpec)) parseTokensUptoCard

/-- THE SECOND FORM's CARD OF 'lockorderlaw02.ExprFormat'. -/
def exprFormatUptoCard : Claim7 := { stood := { row := exprFormatUptoRow, standIns := [], harness := (true, "077c29b91818da9781f0ec58d4a4b98232d0c4217bef450638840aed84abefde"), looks := false }, kinds := [], alts := [], laidByText := true, laidKinds := [.data, .data, .data, .widerDeep, .data], laidTests := true, laidLooks := .later }
def ExprFormatUptoCardSaid : Prop := Claim7.holds Tryd.pinned (.plain (OpenSpec.upto exprFormatSpec)) exprFormatUptoCard

/-- THE SECOND FORM's CARD OF 'lockorderlaw02.ExprValid'. -/
def exprValidUptoCard : Claim7 := { stood := { row := exprValidUptoRow, standIns := [], harness := (true, "077c29b91818da9781f0ec58d4a4b98232d0c4217bef450638840aed84abefde"), looks := false }, kinds := [], alts := [], laidByText := true, laidKinds := [.data, .data, .data, .widerDeep, .data], laidTests := true, laidLooks := .later }
def ExprValidUptoCardSaid : Prop := Claim7.holds Tryd.pinned (.plain (OpenSpec.upto exprValidSpec)) exprValidUptoCard
end Rows
end Go.Proofs.YtflcnehhpmjipaaDoor
