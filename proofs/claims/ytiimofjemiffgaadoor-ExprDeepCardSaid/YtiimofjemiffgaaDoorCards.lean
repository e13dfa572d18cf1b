/-
  DERIVED. GIVEN WITH THE SEED: THE CARDS: each row of YtiimofjemiffgaaDoorRows.lean that lists a variable, with what it lists TIED to the program's text (the seventh form; the later family's looks); each row that meets fmt, with fmt's text TOLD by the authors' own Lean function (tested against real Go, not proved from fmt's source: count such statements apart). THE CARD IS WHAT COUNTS. Prove the row's statement (the work); the ties are given (YtiimofjemiffgaaDoorTie.lean); close each card by the builder's one call (the guide's Derived/Test/ToyasCard.lean, 'card_holds'). Laid BY PROGRAM, IN A SANDBOX (cutbox-door.mjs). By AI agents, Wed Nov 11 2026. No macro, syntax, notation, axiom, sorry.
-/
import Derived.Test.YtiimofjemiffgaaDoorRows
import GoSem.ClaimSeven
namespace Go.Proofs.YtiimofjemiffgaaDoor
namespace Rows

/-- THE TIED CARD OF 'lockorderlaw02.ExprTokens'. -/
def exprTokensCard : Claim7 := { stood := { row := exprTokensRow, standIns := [], harness := (true, "fd079d5a56688bdcd4edcb9205efc7f8ac9c1e4f21d0f2f9a5c03952eb6235f9"), looks := false }, kinds := [], alts := [], laidByText := true, laidKinds := [.data, .data, .data, .widerDeep, .data], laidTests := true, laidLooks := .later }
def ExprTokensCardSaid : Prop := Claim7.holds Tryd.pinned (.plain (OpenSpec.ofChange exprTokensSpec)) exprTokensCard

/-- THE TIED CARD OF 'lockorderlaw02.ExprOperators'. -/
def exprOperatorsCard : Claim7 := { stood := { row := exprOperatorsRow, standIns := [], harness := (true, "fd079d5a56688bdcd4edcb9205efc7f8ac9c1e4f21d0f2f9a5c03952eb6235f9"), looks := false }, kinds := [], alts := [], laidByText := true, laidKinds := [.data, .data, .data, .widerDeep, .data], laidTests := true, laidLooks := .later }
def ExprOperatorsCardSaid : Prop := Claim7.holds Tryd.pinned (.plain (OpenSpec.ofChange exprOperatorsSpec)) exprOperatorsCard

/-- THE TIED CARD OF 'lockorderlaw02.ExprDeep'. -/
def exprDeepCard : Claim7 := { stood := { row := exprDeepRow, standIns := [], harness := (true, "fd079d5a56688bdcd4edcb9205efc7f8ac9c1e4f21d0f2f9a5c03952eb6235f9"), looks := false }, kinds := [], alts := [], laidByText := true, laidKinds := [.data, .data, .data, .widerDeep, .data], laidTests := true, laidLooks := .later }
def ExprDeepCardSaid : Prop := Claim7.holds Tryd.pinned (.plain (OpenSpec.ofChange exprDeepSpec)) exprDeepCard

/-- THE TIED CARD OF 'lockorderlaw02.ExprParse'. -/
def exprParseCard : Claim7 := { stood := { row := exprParseRow, standIns := [], harness := (true, "fd079d5a56688bdcd4edcb9205efc7f8ac9c1e4f21d0f2f9a5c03952eb6235f9"), looks := false }, kinds := [], alts := [], laidByText := true, laidKinds := [.data, .data, .data, .widerDeep, .data], laidTests := true, laidLooks := .later }
def ExprParseCardSaid : Prop := Claim7.holds Tryd.pinned (.plain (OpenSpec.ofChange exprParseSpec)) exprParseCard

/-- THE TIED CARD OF 'lockorderlaw02.ExprHeight'. -/
def exprHeightCard : Claim7 := { stood := { row := exprHeightRow, standIns := [], harness := (true, "fd079d5a56688bdcd4edcb9205efc7f8ac9c1e4f21d0f2f9a5c03952eb6235f9"), looks := false }, kinds := [], alts := [], laidByText := true, laidKinds := [.data, .data, .data, .widerDeep, .data], laidTests := true, laidLooks := .later }
def ExprHeightCardSaid : Prop := Claim7.holds Tryd.pinned (.plain (OpenSpec.ofChange exprHeightSpec)) exprHeightCard

/-- THE TIED CARD OF 'lockorderlaw02.ExprParentheses'. -/
def exprParenthesesCard : Claim7 := { stood := { row := exprParenthesesRow, standIns := [], harness := (true, "fd079d5a56688bdcd4edcb9205efc7f8ac9c1e4f21d0f2f9a5c03952eb6235f9"), looks := false }, kinds := [], alts := [], laidByText := true, laidKinds := [.data, .data, .data, .widerDeep, .data], laidTests := true, laidLooks := .later }
def ExprParenthesesCardSaid : Prop := Claim7.holds Tryd.pinned (.plain (OpenSpec.ofChange exprParenthesesSpec)) exprParenthesesCard

/-- THE TIED CARD OF 'lockorderlaw03.ParseProgram'. -/
def parseProgramCard : Claim7 := { stood := { row := parseProgramRow, standIns := [], harness := (true, "fd079d5a56688bdcd4edcb9205efc7f8ac9c1e4f21d0f2f9a5c03952eb6235f9"), looks := false }, kinds := [], alts := [], laidByText := true, laidKinds := [.widerDeep], laidTests := true, laidLooks := .later }
def ParseProgramCardSaid : Prop := Claim7.holds Tryd.pinned (.plain (OpenSpec.ofChange parseProgramSpec)) parseProgramCard

/-- THE TIED CARD OF 'lockorderlaw03.ParseTokens'. -/
def parseTokensCard : Claim7 := { stood := { row := parseTokensRow, standIns := [], harness := (true, "fd079d5a56688bdcd4edcb9205efc7f8ac9c1e4f21d0f2f9a5c03952eb6235f9"), looks := false }, kinds := [], alts := [], laidByText := true, laidKinds := [.widerDeep], laidTests := true, laidLooks := .later }
def ParseTokensCardSaid : Prop := Claim7.holds Tryd.pinned (.plain (OpenSpec.ofChange parseTokensSpec)) parseTokensCard

/-- THE SECOND FORM's CARD OF 'lockorderlaw02.ExprTokens'. -/
def exprTokensUptoCard : Claim7 := { stood := { row := exprTokensUptoRow, standIns := [], harness := (true, "fd079d5a56688bdcd4edcb9205efc7f8ac9c1e4f21d0f2f9a5c03952eb6235f9"), looks := false }, kinds := [], alts := [], laidByText := true, laidKinds := [.data, .data, .data, .widerDeep, .data], laidTests := true, laidLooks := .later }
def ExprTokensUptoCardSaid : Prop := Claim7.holds Tryd.pinned (.plain (OpenSpec.upto exprTokensSpec)) exprTokensUptoCard

/-- THE SECOND FORM's CARD OF 'lockorderlaw02.ExprOperators'. -/
def exprOperatorsUptoCard : Claim7 := { stood := { row := exprOperatorsUptoRow, standIns := [], harness := (true, "fd079d5a56688bdcd4edcb9205efc7f8ac9c1e4f21d0f2f9a5c03952eb6235f9"), looks := false }, kinds := [], alts := [], laidByText := true, laidKinds := [.data, .data, .data, .widerDeep, .data], laidTests := true, laidLooks := .later }
def ExprOperatorsUptoCardSaid : Prop := Claim7.holds Tryd.pinned (.plain (OpenSpec.upto exprOperatorsSpec)) exprOperatorsUptoCard

/-- THE SECOND FORM's CARD OF 'lockorderlaw02.ExprDeep'. -/
def exprDeepUptoCard : Claim7 := { stood := { row := exprDeepUptoRow, standIns := [], harness := (true, "fd079d5a56688bdcd4edcb9205efc7f8ac9c1e4f21d0f2f9a5c03952eb6235f9"), looks := false }, kinds := [], alts := [], laidByText := true, laidKinds := [.data, .data, .data, .widerDeep, .data], laidTests := true, laidLooks := .later }
def ExprDeepUptoCardSaid : Prop := Claim7.holds Tryd.pinned (.plain (OpenSpec.upto exprDeepSpec)) exprDeepUptoCard

/-- THE SECOND FORM's CARD OF 'lockorderlaw02.ExprParse'. -/
def exprParseUptoCard : Claim7 := { stood := { row := exprParseUptoRow, standIns := [], harness := (true, "fd079d5a56688bdcd4edcb9205efc7f8ac9c1e4f21d0f2f9a5c03952eb6235f9"), looks := false }, kinds := [], alts := [], laidByText := true, laidKinds := [.data, .data, .data, .widerDeep, .data], laidTests := true, laidLooks := .later }
def ExprParseUptoCardSaid : Prop := Claim7.holds Tryd.pinned (.plain (OpenSpec.upto exprParseSpec)) exprParseUptoCard

/-- THE SECOND FORM's CARD OF 'lockorderlaw02.ExprHeight'. -/
def exprHeightUptoCard : Claim7 := { stood := { row := exprHeightUptoRow, standIns := [], harness := (true, "fd079d5a56688bdcd4edcb9205efc7f8ac9c1e4f21d0f2f9a5c03952eb6235f9"), looks := false }, kinds := [], alts := [], laidByText := true, laidKinds := [.data, .data, .data, .widerDeep, .data], laidTests := true, laidLooks := .later }
def ExprHeightUptoCardSaid : Prop := Claim7.holds Tryd.pinned (.plain (OpenSpec.upto exprHeightSpec)) exprHeightUptoCard

/-- THE SECOND FORM's CARD OF 'lockorderlaw02.ExprParentheses'. -/
def exprParenthesesUptoCard : Claim7 := { stood := { row := exprParenthesesUptoRow, standIns := [], harness := (true, "fd079d5a56688bdcd4edcb9205efc7f8ac9c1e4f21d0f2f9a5c03952eb6235f9"), looks := false }, kinds := [], alts := [], laidByText := true, laidKinds := [.data, .data, .data, .widerDeep, .data], laidTests := true, laidLooks := .later }
def ExprParenthesesUptoCardSaid : Prop := Claim7.holds Tryd.pinned (.plain (OpenSpec.upto exprParenthesesSpec)) exprParenthesesUptoCard

/-- THE SECOND FORM's CARD OF 'lockorderlaw03.ParseProgram'. -/
def parseProgramUptoCard : Claim7 := { stood := { row := parseProgramUptoRow, standIns := [], harness := (true, "fd079d5a56688bdcd4edcb9205efc7f8ac9c1e4f21d0f2f9a5c03952eb6235f9"), looks := false }, kinds := [], alts := [], laidByText := true, laidKinds := [.widerDeep], laidTests := true, laidLooks := .later }
def ParseProgramUptoCardSaid : Prop := Claim7.holds Tryd.pinned (.plain (OpenSpec.upto parseProgramSpec)) parseProgramUptoCard

/-- THE SECOND FORM's CARD OF 'lockorderlaw03.ParseTokens'. -/
def parseTokensUptoCard : Claim7 := { stood := { row := parseTokensUptoRow, standIns := [], harness := (true, "fd079d5a56688bdcd4edcb9205efc7f8ac9c1e4f21d0f2f9a5c03952eb6235f9"), looks := false }, kinds := [], alts := [], laidByText := true, laidKinds := [.widerDeep], laidTests := true, laidLooks := .later }
def ParseTokensUptoCardSaid : Prop := Claim7.holds Tryd.pinned (.plain (OpenSpec.upto parseTokensSpec)) parseTokensUptoCard
end Rows
end Go.Proofs.YtiimofjemiffgaaDoor
