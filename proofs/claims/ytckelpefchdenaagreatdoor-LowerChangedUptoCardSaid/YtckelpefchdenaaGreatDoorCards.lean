/-
  DERIVED. GIVEN WITH THE SEED: THE CARDS: each row of YtckelpefchdenaaGreatDoorRows.lean that lists a variable, with what it lists TIED to the program's text (the seventh form; the later family's looks); each row that meets fmt, with fmt's text TOLD by the authors' own Lean function (tested against real Go, not proved from fmt's source: count such statements apart). THE CARD IS WHAT COUNTS. Prove the row's statement (the work); the ties are given (YtckelpefchdenaaGreatDoorTie.lean); close each card by the builder's one call (the guide's Derived/Test/ToyasCard.lean, 'card_holds'). Laid BY PROGRAM, IN A SANDBOX (cutbox-door.mjs). By AI agents, Wed Nov 11 2026. No macro, syntax, notation, axiom, sorry.
-/
import Derived.Test.YtckelpefchdenaaGreatDoorRows
import GoSem.ClaimSeven
namespace Go.Proofs.YtckelpefchdenaaGreatDoor
namespace Rows

/-- THE TIED CARD OF 'lockorderlaw06.LowerChanged'. -/
def lowerChangedCard : Claim7 := { stood := { row := lowerChangedRow, standIns := [], harness := (true, "54b30024822a9af85c065a95a1d5fc6696cd861c0f03887a7ae14af9086218d7"), looks := false }, kinds := [], alts := [], laidByText := true, laidKinds := [.data, .data, .data, .widerDeep, .data], laidTests := true, laidLooks := .later }
def LowerChangedCardSaid : Prop := Claim7.holds Tryz.pinned (.plain (OpenSpec.ofChange lowerChangedSpec)) lowerChangedCard

/-- THE SECOND FORM's CARD OF 'lockorderlaw06.LowerChanged'. -/
def lowerChangedUptoCard : Claim7 := { stood := { row := lowerChangedUptoRow, standIns := [], harness := (true, "54b30024822a9af85c065a95a1d5fc6696cd861c0f03887a7ae14af9086218d7"), looks := false }, kinds := [], alts := [], laidByText := true, laidKinds := [.data, .data, .data, .widerDeep, .data], laidTests := true, laidLooks := .later }
def LowerChangedUptoCardSaid : Prop := Claim7.holds Tryz.pinned (.plain (OpenSpec.upto lowerChangedSpec)) lowerChangedUptoCard
end Rows
end Go.Proofs.YtckelpefchdenaaGreatDoor
