/-
  DERIVED. GIVEN WITH THE SEED: THE CARDS: each row of YtlbocidcjmehfaaDoorRows.lean that lists a variable, with what it lists TIED to the program's text (the seventh form; the later family's looks); each row that meets fmt, with fmt's text TOLD by the authors' own Lean function (tested against real Go, not proved from fmt's source: count such statements apart). THE CARD IS WHAT COUNTS. Prove the row's statement (the work); the ties are given (YtlbocidcjmehfaaDoorTie.lean); close each card by the builder's one call (the guide's Derived/Test/ToyasCard.lean, 'card_holds'). Laid BY PROGRAM, IN A SANDBOX (cutbox-door.mjs). By AI agents, Wed Nov 11 2026. No macro, syntax, notation, axiom, sorry.
-/
import Derived.Test.YtlbocidcjmehfaaDoorRows
import GoSem.ClaimSeven
namespace Go.Proofs.YtlbocidcjmehfaaDoor
namespace Rows

/-- THE TIED CARD OF 'lockorderlaw01.TokenChanged'. -/
def tokenChangedCard : Claim7 := { stood := { row := tokenChangedRow, standIns := [], harness := (true, "acb8959f93a74d89e68d671584cd5f44b0c2b50d6dc417fc8fd20d2820dfa3f2"), looks := false }, kinds := [], alts := [], laidByText := true, laidKinds := [.widerDeep], laidTests := true, laidLooks := .later }
def TokenChangedCardSaid : Prop := Claim7.holds Tryd.pinned (.plain (OpenSpec.ofChange tokenChangedSpec)) tokenChangedCard

/-- THE TIED CARD OF 'lockorderlaw01.TokenText'. -/
def tokenTextCard : Claim7 := { stood := { row := tokenTextRow, standIns := [], harness := (true, "acb8959f93a74d89e68d671584cd5f44b0c2b50d6dc417fc8fd20d2820dfa3f2"), looks := false }, kinds := [], alts := [], laidByText := true, laidKinds := [.widerDeep], laidTests := true, laidLooks := .later }
def TokenTextCardSaid : Prop := Claim7.holds Tryd.pinned (.plain (OpenSpec.ofChange tokenTextSpec)) tokenTextCard

/-- THE TIED CARD OF 'lockorderlaw01.TokenSpace'. -/
def tokenSpaceCard : Claim7 := { stood := { row := tokenSpaceRow, standIns := [], harness := (true, "acb8959f93a74d89e68d671584cd5f44b0c2b50d6dc417fc8fd20d2820dfa3f2"), looks := false }, kinds := [], alts := [], laidByText := true, laidKinds := [.widerDeep], laidTests := true, laidLooks := .later }
def TokenSpaceCardSaid : Prop := Claim7.holds Tryd.pinned (.plain (OpenSpec.ofChange tokenSpaceSpec)) tokenSpaceCard

/-- THE TIED CARD OF 'lockorderlaw03.ParseProgram'. -/
def parseProgramCard : Claim7 := { stood := { row := parseProgramRow, standIns := [], harness := (true, "acb8959f93a74d89e68d671584cd5f44b0c2b50d6dc417fc8fd20d2820dfa3f2"), looks := false }, kinds := [], alts := [], laidByText := true, laidKinds := [.widerDeep], laidTests := true, laidLooks := .later }
def ParseProgramCardSaid : Prop := Claim7.holds Tryd.pinned (.plain (OpenSpec.ofChange parseProgramSpec)) parseProgramCard

/-- THE TIED CARD OF 'lockorderlaw03.ParseTokens'. -/
def parseTokensCard : Claim7 := { stood := { row := parseTokensRow, standIns := [], harness := (true, "acb8959f93a74d89e68d671584cd5f44b0c2b50d6dc417fc8fd20d2820dfa3f2"), looks := false }, kinds := [], alts := [], laidByText := true, laidKinds := [.widerDeep], laidTests := true, laidLooks := .later }
def ParseTokensCardSaid : Prop := Claim7.holds Tryd.pinned (.plain (OpenSpec.ofChange parseTokensSpec)) parseTokensCard

/-- THE TIED CARD OF 'lockorderlaw02.ExprTokens'. -/
def exprTokensCard : Claim7 := { stood := { row := exprTokensRow, standIns := [], harness := (true, "acb8959f93a74d89e68d671584cd5f44b0c2b50d6dc417fc8fd20d2820dfa3f2"), looks := false }, kinds := [], alts := [], laidByText := true, laidKinds := [.data, .data, .data, .widerDeep, .data], laidTests := true, laidLooks := .later }
def ExprTokensCardSaid : Prop := Claim7.holds Tryd.pinned (.plain (OpenSpec.ofChange exprTokensSpec)) exprTokensCard

/-- THE TIED CARD OF 'lockorderlaw02.ExprDeep'. -/
def exprDeepCard : Claim7 := { stood := { row := exprDeepRow, standIns := [], harness := (true, "acb8959f93a74d89e68d671584cd5f44b0c2b50d6dc417fc8fd20d2820dfa3f2"), looks := false }, kinds := [], alts := [], laidByText := true, laidKinds := [.data, .data, .data, .widerDeep, .data], laidTests := true, laidLooks := .later }
def ExprDeepCardSaid : Prop := Claim7.holds Tryd.pinned (.plain (OpenSpec.ofChange exprDeepSpec)) exprDeepCard

/-- THE TIED CARD OF 'lockorderlaw02.ExprOperators'. -/
def exprOperatorsCard : Claim7 := { stood := { row := exprOperatorsRow, standIns := [], harness := (true, "acb8959f93a74d89e68d671584cd5f44b0c2b50d6dc417fc8fd20d2820dfa3f2"), looks := false }, kinds := [], alts := [], laidByText := true, laidKinds := [.data, .data, .data, .widerDeep, .data], laidTests := true, laidLooks := .later }
def ExprOperatorsCardSaid : Prop := Claim7.holds Tryd.pinned (.plain (OpenSpec.ofChange exprOperatorsSpec)) exprOperatorsCard

/-- THE SECOND FORM's CARD OF 'lockorderlaw01.TokenChanged'. -/
def tokenChangedUptoCard : Claim7 := { stood := { row := tokenChangedUptoRow, standIns := [], harness := (true, "acb8959f93a74d89e68d671584cd5f44b0c2b50d6dc417fc8fd20d2820dfa3f2"), looks := false }, kinds := [], alts := [], laidByText := true, laidKinds := [.widerDeep], laidTests := true, laidLooks := .later }
def TokenChangedUptoCardSaid : Prop := Claim7.holds Tryd.pinned (.plain (OpenSpec.upto tokenChangedSpec)) tokenChangedUptoCard

/-- THE SECOND FORM's CARD OF 'lockorderlaw01.TokenText'. -/
def tokenTextUptoCard : Claim7 := { stood := { row := tokenTextUptoRow, standIns := [], harness := (true, "acb8959f93a74d89e68d671584cd5f44b0c2b50d6dc417fc8fd20d2820dfa3f2"), looks := false }, kinds := [], alts := [], laidByText := true, laidKinds := [.widerDeep], laidTests := true, laidLooks := .later }
def TokenTextUptoCardSaid : Prop := Claim7.holds Tryd.pinned (.plain (OpenSpec.upto tokenTextSpec)) tokenTextUptoCard

/-- THE SECOND FORM's CARD OF 'lockorderlaw01.TokenSpace'. -/
def tokenSpaceUptoCard : Claim7 := { stood := { row := tokenSpaceUptoRow, standIns := [], harness := (true, "acb8959f93a74d89e68d671584cd5f44b0c2b50d6dc417fc8fd20d2820dfa3f2"), looks := false }, kinds := [], alts := [], laidByText := true, laidKinds := [.widerDeep], laidTests := true, laidLooks := .later }
def TokenSpaceUptoCardSaid : Prop := Claim7.holds Tryd.pinned (.plain (OpenSpec.upto tokenSpaceSpec)) tokenSpaceUptoCard

/-- THE SECOND FORM's CARD OF 'lockorderlaw03.ParseProgram'. -/
def parseProgramUptoCard : Claim7 := { stood := { row := parseProgramUptoRow, standIns := [], harness := (true, "acb8959f93a74d89e68d671584cd5f44b0c2b50d6dc417fc8fd20d2820dfa3f2"), looks := false }, kinds := [], alts := [], laidByText := true, laidKinds := [.widerDeep], laidTests := true, laidLooks := .later }
def ParseProgramUptoCardSaid : Prop := Claim7.holds Tryd.pinned (.plain (OpenSpec.upto parseProgramSpec)) parseProgramUptoCard

/-- THE SECOND FORM's CARD OF 'lockorderlaw03.ParseTokens'. -/
def parseTokensUptoCard : Claim7 := { stood := { row := parseTokensUptoRow, standIns := [], harness := (true, "acb8959f93a74d89e68d671584cd5f44b0c2b50d6dc417fc8fd20d2820dfa3f2"), looks := false }, kinds := [], alts := [], laidByText := true, laidKinds := [.widerDeep], laidTests := true, laidLooks := .later }
def ParseTokensUptoCardSaid : Prop := Claim7.holds Tryd.pinned (.plain (OpenSpec.upto parseTokensSpec)) parseTokensUptoCard

/-- THE SECOND FORM's CARD OF 'lockorderlaw02.ExprTokens'. -/
def exprTokensUptoCard : Claim7 := { stood := { row := exprTokensUptoRow, standIns := [], harness := (true, "acb8959f93a74d89e68d671584cd5f44b0c2b50d6dc417fc8fd20d2820dfa3f2"), looks := false }, kinds := [], alts := [], laidByText := true, laidKinds := [.data, .data, .data, .widerDeep, .data], laidTests := true, laidLooks := .later }
def ExprTokensUptoCardSaid : Prop := Claim7.holds Tryd.pinned (.plain (OpenSpec.upto exprTokensSpec)) exprTokensUptoCard

/-- THE SECOND FORM's CARD OF 'lockorderlaw02.ExprDeep'. -/
def exprDeepUptoCard : Claim7 := { stood := { row := exprDeepUptoRow, standIns := [], harness := (true, "acb8959f93a74d89e68d671584cd5f44b0c2b50d6dc417fc8fd20d2820dfa3f2"), looks := false }, kinds := [], alts := [], laidByText := true, laidKinds := [.data, .data, .data, .widerDeep, .data], laidTests := true, laidLooks := .later }
def ExprDeepUptoCardSaid : Prop := Claim7.holds Tryd.pinned (.plain (OpenSpec.upto exprDeepSpec)) exprDeepUptoCard

/-- THE SECOND FORM's CARD OF 'lockorderlaw02.ExprOperators'. -/
def exprOperatorsUptoCard : Claim7 := { stood := { row := exprOperatorsUptoRow, standIns := [], harness := (true, "acb8959f93a74d89e68d671584cd5f44b0c2b50d6dc417fc8fd20d2820dfa3f2"), looks := false }, kinds := [], alts := [], laidByText := true, laidKinds := [.data, .data, .data, .widerDeep, .data], laidTests := true, laidLooks := .later }
def ExprOperatorsUptoCardSaid : Prop := Claim7.holds Tryd.pinned (.plain (OpenSpec.upto exprOperatorsSpec)) exprOperatorsUptoCard
end Rows
end Go.Proofs.YtlbocidcjmehfaaDoor
