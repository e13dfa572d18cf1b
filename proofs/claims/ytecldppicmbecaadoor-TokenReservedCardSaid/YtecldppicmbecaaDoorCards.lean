/-
  DERIVED. GIVEN WITH THE SEED: THE CARDS: each row of YtecldppicmbecaaDoorRows.lean that lists a variable, with what it lists TIED to the program's text (the seventh form; the later family's looks); each row that meets fmt, with fmt's text TOLD by the authors' own Lean function (tested against real Go, not proved from fmt's source: count such statements apart). THE CARD IS WHAT COUNTS. Prove the row's statement (the work); the ties are given (YtecldppicmbecaaDoorTie.lean); close each card by the builder's one call (the guide's Derived/Test/ToyasCard.lean, 'card_holds'). Laid BY PROGRAM, IN A SANDBOX (cutbox-door.mjs). By AI agents, Wed Nov 11 2026. No macro, syntax, notation, axiom, sorry.
-/
import Derived.Test.YtecldppicmbecaaDoorRows
import GoSem.ClaimSeven
namespace Go.Proofs.YtecldppicmbecaaDoor
namespace Rows

/-- THE TIED CARD OF 'lockorderlaw01.TokenLex'. -/
def tokenLexCard : Claim7 := { stood := { row := tokenLexRow, standIns := [], harness := (true, "da5059062373dd9ae98dd7416b1b051b32be10e3276a1338cb1e171f85cd6bc5"), looks := false }, kinds := [], alts := [], laidByText := true, laidKinds := [.widerDeep], laidTests := true, laidLooks := .later }
def TokenLexCardSaid : Prop := Claim7.holds Tryd.pinned (.plain (OpenSpec.ofChange tokenLexSpec)) tokenLexCard

/-- THE TIED CARD OF 'lockorderlaw01.TokenChanged'. -/
def tokenChangedCard : Claim7 := { stood := { row := tokenChangedRow, standIns := [], harness := (true, "da5059062373dd9ae98dd7416b1b051b32be10e3276a1338cb1e171f85cd6bc5"), looks := false }, kinds := [], alts := [], laidByText := true, laidKinds := [.widerDeep], laidTests := true, laidLooks := .later }
def TokenChangedCardSaid : Prop := Claim7.holds Tryd.pinned (.plain (OpenSpec.ofChange tokenChangedSpec)) tokenChangedCard

/-- THE TIED CARD OF 'lockorderlaw01.TokenNumbers'. -/
def tokenNumbersCard : Claim7 := { stood := { row := tokenNumbersRow, standIns := [], harness := (true, "da5059062373dd9ae98dd7416b1b051b32be10e3276a1338cb1e171f85cd6bc5"), looks := false }, kinds := [], alts := [], laidByText := true, laidKinds := [.widerDeep], laidTests := true, laidLooks := .later }
def TokenNumbersCardSaid : Prop := Claim7.holds Tryd.pinned (.plain (OpenSpec.ofChange tokenNumbersSpec)) tokenNumbersCard

/-- THE TIED CARD OF 'lockorderlaw01.TokenLimits'. -/
def tokenLimitsCard : Claim7 := { stood := { row := tokenLimitsRow, standIns := [], harness := (true, "da5059062373dd9ae98dd7416b1b051b32be10e3276a1338cb1e171f85cd6bc5"), looks := false }, kinds := [], alts := [], laidByText := true, laidKinds := [.widerDeep], laidTests := true, laidLooks := .later }
def TokenLimitsCardSaid : Prop := Claim7.holds Tryd.pinned (.plain (OpenSpec.ofChange tokenLimitsSpec)) tokenLimitsCard

/-- THE TIED CARD OF 'lockorderlaw01.TokenText'. -/
def tokenTextCard : Claim7 := { stood := { row := tokenTextRow, standIns := [], harness := (true, "da5059062373dd9ae98dd7416b1b051b32be10e3276a1338cb1e171f85cd6bc5"), looks := false }, kinds := [], alts := [], laidByText := true, laidKinds := [.widerDeep], laidTests := true, laidLooks := .later }
def TokenTextCardSaid : Prop := Claim7.holds Tryd.pinned (.plain (OpenSpec.ofChange tokenTextSpec)) tokenTextCard

/-- THE TIED CARD OF 'lockorderlaw01.TokenSpace'. -/
def tokenSpaceCard : Claim7 := { stood := { row := tokenSpaceRow, standIns := [], harness := (true, "da5059062373dd9ae98dd7416b1b051b32be10e3276a1338cb1e171f85cd6bc5"), looks := false }, kinds := [], alts := [], laidByText := true, laidKinds := [.widerDeep], laidTests := true, laidLooks := .later }
def TokenSpaceCardSaid : Prop := Claim7.holds Tryd.pinned (.plain (OpenSpec.ofChange tokenSpaceSpec)) tokenSpaceCard

/-- THE TIED CARD OF 'lockorderlaw01.TokenReserved'. -/
def tokenReservedCard : Claim7 := { stood := { row := tokenReservedRow, standIns := [], harness := (true, "da5059062373dd9ae98dd7416b1b051b32be10e3276a1338cb1e171f85cd6bc5"), looks := false }, kinds := [], alts := [], laidByText := true, laidKinds := [.widerDeep], laidTests := true, laidLooks := .later }
def TokenReservedCardSaid : Prop := Claim7.holds Tryd.pinned (.plain (OpenSpec.ofChange tokenReservedSpec)) tokenReservedCard

/-- THE SECOND FORM's CARD OF 'lockorderlaw01.TokenLex'. -/
def tokenLexUptoCard : Claim7 := { stood := { row := tokenLexUptoRow, standIns := [], harness := (true, "da5059062373dd9ae98dd7416b1b051b32be10e3276a1338cb1e171f85cd6bc5"), looks := false }, kinds := [], alts := [], laidByText := true, laidKinds := [.widerDeep], laidTests := true, laidLooks := .later }
def TokenLexUptoCardSaid : Prop := Claim7.holds Tryd.pinned (.plain (OpenSpec.upto tokenLexSpec)) tokenLexUptoCard

/-- THE SECOND FORM's CARD OF 'lockorderlaw01.TokenChanged'. -/
def tokenChangedUptoCard : Claim7 := { stood := { row := tokenChangedUptoRow, standIns := [], harness := (true, "da5059062373dd9ae98dd7416b1b051b32be10e3276a1338cb1e171f85cd6bc5"), looks := false }, kinds := [], alts := [], laidByText := true, laidKinds := [.widerDeep], laidTests := true, laidLooks := .later }
def TokenChangedUptoCardSaid : Prop := Claim7.holds Tryd.pinned (.plain (OpenSpec.upto tokenChangedSpec)) tokenChangedUptoCard

/-- THE SECOND FORM's CARD OF 'lockorderlaw01.TokenNumbers'. -/
def tokenNumbersUptoCard : Claim7 := { stood := { row := tokenNumbersUptoRow, standIns := [], harness := (true, "da5059062373dd9ae98dd7416b1b051b32be10e3276a1338cb1e171f85cd6bc5"), looks := false }, kinds := [], alts := [], laidByText := true, laidKinds := [.widerDeep], laidTests := true, laidLooks := .later }
def TokenNumbersUptoCardSaid : Prop := Claim7.holds Tryd.pinned (.plain (OpenSpec.upto tokenNumbersSpec)) tokenNumbersUptoCard

/-- THE SECOND FORM's CARD OF 'lockorderlaw01.TokenLimits'. -/
def tokenLimitsUptoCard : Claim7 := { stood := { row := tokenLimitsUptoRow, standIns := [], harness := (true, "da5059062373dd9ae98dd7416b1b051b32be10e3276a1338cb1e171f85cd6bc5"), looks := false }, kinds := [], alts := [], laidByText := true, laidKinds := [.widerDeep], laidTests := true, laidLooks := .later }
def TokenLimitsUptoCardSaid : Prop := Claim7.holds Tryd.pinned (.plain (OpenSpec.upto tokenLimitsSpec)) tokenLimitsUptoCard

/-- THE SECOND FORM's CARD OF 'lockorderlaw01.TokenText'. -/
def tokenTextUptoCard : Claim7 := { stood := { row := tokenTextUptoRow, standIns := [], harness := (true, "da5059062373dd9ae98dd7416b1b051b32be10e3276a1338cb1e171f85cd6bc5"), looks := false }, kinds := [], alts := [], laidByText := true, laidKinds := [.widerDeep], laidTests := true, laidLooks := .later }
def TokenTextUptoCardSaid : Prop := Claim7.holds Tryd.pinned (.plain (OpenSpec.upto tokenTextSpec)) tokenTextUptoCard

/-- THE SECOND FORM's CARD OF 'lockorderlaw01.TokenSpace'. -/
def tokenSpaceUptoCard : Claim7 := { stood := { row := tokenSpaceUptoRow, standIns := [], harness := (true, "da5059062373dd9ae98dd7416b1b051b32be10e3276a1338cb1e171f85cd6bc5"), looks := false }, kinds := [], alts := [], laidByText := true, laidKinds := [.widerDeep], laidTests := true, laidLooks := .later }
def TokenSpaceUptoCardSaid : Prop := Claim7.holds Tryd.pinned (.plain (OpenSpec.upto tokenSpaceSpec)) tokenSpaceUptoCard

/-- THE SECOND FORM's CARD OF 'lockorderlaw01.TokenReserved'. -/
def tokenReservedUptoCard : Claim7 := { stood := { row := tokenReservedUptoRow, standIns := [], harness := (true, "da5059062373dd9ae98dd7416b1b051b32be10e3276a1338cb1e171f85cd6bc5"), looks := false }, kinds := [], alts := [], laidByText := true, laidKinds := [.widerDeep], laidTests := true, laidLooks := .later }
def TokenReservedUptoCardSaid : Prop := Claim7.holds Tryd.pinned (.plain (OpenSpec.upto tokenReservedSpec)) tokenReservedUptoCard
end Rows
end Go.Proofs.YtecldppicmbecaaDoor
