/-
  DERIVED. GIVEN WITH THE SEED: THE CARDS: each row of YtbdfdjdgfanjaaaDoorRows.lean that lists a variable, with what it lists TIED to the program's text (the seventh form; the later family's looks); each row that meets fmt, with fmt's text TOLD by the authors' own Lean function (tested against real Go, not proved from fmt's source: count such statements apart). THE CARD IS WHAT COUNTS. Prove the row's statement (the work); the ties are given (YtbdfdjdgfanjaaaDoorTie.lean); close each card by the builder's one call (the guide's Derived/Test/ToyasCard.lean, 'card_holds'). Laid BY PROGRAM, IN A SANDBOX (cutbox-door.mjs). By AI agents, Wed Nov 11 2026. No macro, syntax, notation, axiom, sorry.
-/
import Derived.Test.YtbdfdjdgfanjaaaDoorRows
import GoSem.ClaimSeven
namespace Go.Proofs.YtbdfdjdgfanjaaaDoor
namespace Rows

/-- THE TIED CARD OF 'lockorderlaw02.ExprFormat'. -/
def exprFormatCard : Claim7 := { stood := { row := exprFormatRow, standIns := [], harness := (true, "276412734ff668b4d14dada195b60cd2a65e6be65d5466366b19ee7b964d598c"), looks := false }, kinds := [], alts := [], laidByText := true, laidKinds := [.data, .data, .data, .widerDeep, .data], laidTests := true, laidLooks := .later }
def ExprFormatCardSaid : Prop := Claim7.holds Tryd.pinned (.plain (OpenSpec.ofChange exprFormatSpec)) exprFormatCard

/-- THE TIED CARD OF 'lockorderlaw02.ExprValid'. -/
def exprValidCard : Claim7 := { stood := { row := exprValidRow, standIns := [], harness := (true, "276412734ff668b4d14dada195b60cd2a65e6be65d5466366b19ee7b964d598c"), looks := false }, kinds := [], alts := [], laidByText := true, laidKinds := [.data, .data, .data, .widerDeep, .data], laidTests := true, laidLooks := .later }
def ExprValidCardSaid : Prop := Claim7.holds Tryd.pinned (.plain (OpenSpec.ofChange exprValidSpec)) exprValidCard

/-- THE SECOND FORM's CARD OF 'lockorderlaw02.ExprFormat'. -/
def exprFormatUptoCard : Claim7 := { stood := { row := exprFormatUptoRow, standIns := [], harness := (true, "276412734ff668b4d14dada195b60cd2a65e6be65d5466366b19ee7b964d598c"), looks := false }, kinds := [], alts := [], laidByText := true, laidKinds := [.data, .data, .data, .widerDeep, .data], laidTests := true, laidLooks := .later }
def ExprFormatUptoCardSaid : Prop := Claim7.holds Tryd.pinned (.plain (OpenSpec.upto exprFormatSpec)) exprFormatUptoCard

/-- THE SECOND FORM's CARD OF 'lockorderlaw02.ExprValid'. -/
def exprValidUptoCard : Claim7 := { stood := { row := exprValidUptoRow, standIns := [], harness := (true, "276412734ff668b4d14dada195b60cd2a65e6be65d5466366b19ee7b964d598c"), looks := false }, kinds := [], alts := [], laidByText := true, laidKinds := [.data, .data, .data, .widerDeep, .data], laidTests := true, laidLooks := .later }
def ExprValidUptoCardSaid : Prop := Claim7.holds Tryd.pinned (.plain (OpenSpec.upto exprValidSpec)) exprValidUptoCard
end Rows
end Go.Proofs.YtbdfdjdgfanjaaaDoor
