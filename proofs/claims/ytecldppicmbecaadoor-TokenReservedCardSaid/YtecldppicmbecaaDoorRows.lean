/-
  NARROWER THAN 'FOR EVERY INPUT', by the rows' own cells (each row's printed sentence says how): TokenLex: laid · TokenChanged: laid · TokenNumbers: laid · TokenLimits: laid · TokenText: laid · TokenSpace: laid · TokenReserved: laid.
  DERIVED. THE GIVEN ROWS OF THIS SEAT. 7 by the template 'for every input the law returns true; each argument reads behind the call as it read before'; 0 by the template 'total and deterministic' (their statements: YtecldppicmbecaaDoorTotals.lean).
  GIVEN WITH THE SEED: the statements are not yours to turn. If you find one false, say at which input.
  Laid BY PROGRAM, IN A SANDBOX (cutbox-rows.mjs): the forced cells as the released guide's own fill.sh prints them over the translation acd1e64f9e0f8396… (all of the seat's roots in one cut). By AI agents, Wed Nov 11 2026. No macro, syntax, notation, axiom, sorry.
-/
import Derived.Test.YtecldppicmbecaaDoorChecked
import GoSem.Claim
import GoSem.ClaimJoined
import GoSem.ClaimMapViews
import Derived.JoinedTies
import Derived.KernelRfl
namespace Go.Proofs.YtecldppicmbecaaDoor
/- THE CELL 'sum', in the pinned program and in every row, IS THE sha256 OF THE DUMP (.gsa) THAT YtecldppicmbecaaDoorProg.lean LOADS. Nothing in Lean hashes anything: it is a label: what it is worth is what the hold of that sum in a sandbox is worth. -/
noncomputable def Tryd.pinned : Pinned := { name := "ytecldppicmbecaadoor", sum := "acd1e64f9e0f83964f3c7790adc50ef27579f0c8147945c65f2f4113366d57d3", checked := Tryd.checked }
namespace Rows
def none {H : Type} : Left H := { results := [], args := [] }

/- WHAT THE LISTED PACKAGE-LEVEL VARIABLES READ AS WHEN THE CALL BEGINS. Each datum BY PROGRAM (the guide's laid-datum.mjs) off the statement by which the dump's own 'gosem.cut.vars' lays the variable. In a bare row this is a premise. The card (YtecldppicmbecaaDoorCards.lean) ties it to the program's text. -/
def laid_lockorder_token_words {H : Type} : DataW H := .agg [.lit (.string [118, 97, 114]), .lit (.string [109, 117, 116, 101, 120]), .lit (.string [114, 109, 117, 116, 101, 120]), .lit (.string [102, 117, 110, 99]), .lit (.string [108, 111, 99, 107]), .lit (.string [117, 110, 108, 111, 99, 107]), .lit (.string [103, 111]), .lit (.string [105, 102]), .lit (.string [101, 108, 115, 101]), .lit (.string [119, 104, 105, 108, 101]), .lit (.string [114, 101, 116, 117, 114, 110])]

/-- 'lockorderlaw01.TokenLex': WHATEVER THE INPUT: true; the input reads as it did. -/
def tokenLexSpec : ChangeSpec := { name := "tokenLex", fn := fun _ => fun
  | [d] => { results := [.lit (.bool true)], args := [d] }
  | _ => none }
def tokenLexRow : OpenClaim := { program := "ytecldppicmbecaadoor", sum := "acd1e64f9e0f83964f3c7790adc50ef27579f0c8147945c65f2f4113366d57d3", func := "lockorder/lockorderlaw01.TokenLex", spec := "tokenLex", inPlace := ["internal/bytealg.IndexByteString", "internal/bytealg.IndexString", "internal/abi.NoEscape", "internal/bytealg.MakeNoZero"], unfollowed := true, recurses := true, named := ["lockorder/token.words", "internal/bytealg.MaxLen"], apart := false, laid := [("lockorder/token.words", laid_lockorder_token_words)] }
def TokenLexSaid : Prop := tokenLexRow.holds Tryd.pinned (OpenSpec.ofChange tokenLexSpec)

/-- ITS FALSE NEIGHBOUR: 'it returns false'. Refute it at one input. -/
def tokenLexWrong : ChangeSpec := { name := "tokenLex", fn := fun _ => fun
  | [d] => { results := [.lit (.bool false)], args := [d] }
  | _ => none }
def TokenLexWrongFalsely : Prop := tokenLexRow.holds Tryd.pinned (OpenSpec.ofChange tokenLexWrong)

/-- 'lockorderlaw01.TokenChanged': WHATEVER THE INPUT: true; the input reads as it did. -/
def tokenChangedSpec : ChangeSpec := { name := "tokenChanged", fn := fun _ => fun
  | [d1, d2, d3] => { results := [.lit (.bool true)], args := [d1, d2, d3] }
  | _ => none }
def tokenChangedRow : OpenClaim := { program := "ytecldppicmbecaadoor", sum := "acd1e64f9e0f83964f3c7790adc50ef27579f0c8147945c65f2f4113366d57d3", func := "lockorder/lockorderlaw01.TokenChanged", spec := "tokenChanged", inPlace := ["internal/bytealg.IndexByteString", "internal/bytealg.IndexString", "internal/abi.NoEscape", "internal/bytealg.MakeNoZero"], unfollowed := true, recurses := true, named := ["lockorder/token.words", "internal/bytealg.MaxLen"], apart := false, laid := [("lockorder/token.words", laid_lockorder_token_words)] }
def TokenChangedSaid : Prop := tokenChangedRow.holds Tryd.pinned (OpenSpec.ofChange tokenChangedSpec)

/-- ITS FALSE NEIGHBOUR: 'it returns false'. Refute it at one input. -/
def tokenChangedWrong : ChangeSpec := { name := "tokenChanged", fn := fun _ => fun
  | [d1, d2, d3] => { results := [.lit (.bool false)], args := [d1, d2, d3] }
  | _ => none }
def TokenChangedWrongFalsely : Prop := tokenChangedRow.holds Tryd.pinned (OpenSpec.ofChange tokenChangedWrong)

/-- 'lockorderlaw01.TokenNumbers': WHATEVER THE INPUT: true; the input reads as it did. -/
def tokenNumbersSpec : ChangeSpec := { name := "tokenNumbers", fn := fun _ => fun
  | [d1, d2, d3] => { results := [.lit (.bool true)], args := [d1, d2, d3] }
  | _ => none }
def tokenNumbersRow : OpenClaim := { program := "ytecldppicmbecaadoor", sum := "acd1e64f9e0f83964f3c7790adc50ef27579f0c8147945c65f2f4113366d57d3", func := "lockorder/lockorderlaw01.TokenNumbers", spec := "tokenNumbers", inPlace := ["internal/bytealg.IndexByteString", "internal/bytealg.IndexString", "internal/abi.NoEscape", "internal/bytealg.MakeNoZero"], unfollowed := true, recurses := true, named := ["lockorder/token.words", "internal/bytealg.MaxLen"], apart := false, laid := [("lockorder/token.words", laid_lockorder_token_words)] }
def TokenNumbersSaid : Prop := tokenNumbersRow.holds Tryd.pinned (OpenSpec.ofChange tokenNumbersSpec)

/-- ITS FALSE NEIGHBOUR: 'it returns false'. Refute it at one input. -/
def tokenNumbersWrong : ChangeSpec := { name := "tokenNumbers", fn := fun _ => fun
  | [d1, d2, d3] => { results := [.lit (.bool false)], args := [d1, d2, d3] }
  | _ => none }
def TokenNumbersWrongFalsely : Prop := tokenNumbersRow.holds Tryd.pinned (OpenSpec.ofChange tokenNumbersWrong)

/-- 'lockorderlaw01.TokenLimits': WHATEVER THE INPUT: true; the input reads as it did. -/
def tokenLimitsSpec : ChangeSpec := { name := "tokenLimits", fn := fun _ => fun
  | [d1, d2, d3] => { results := [.lit (.bool true)], args := [d1, d2, d3] }
  | _ => none }
def tokenLimitsRow : OpenClaim := { program := "ytecldppicmbecaadoor", sum := "acd1e64f9e0f83964f3c7790adc50ef27579f0c8147945c65f2f4113366d57d3", func := "lockorder/lockorderlaw01.TokenLimits", spec := "tokenLimits", inPlace := ["internal/bytealg.IndexByteString", "internal/bytealg.IndexString", "internal/abi.NoEscape", "internal/bytealg.MakeNoZero"], unfollowed := true, recurses := true, named := ["lockorder/token.words", "internal/bytealg.MaxLen"], apart := false, laid := [("lockorder/token.words", laid_lockorder_token_words)] }
def TokenLimitsSaid : Prop := tokenLimitsRow.holds Tryd.pinned (OpenSpec.ofChange tokenLimitsSpec)

/-- ITS FALSE NEIGHBOUR: 'it returns false'. Refute it at one input. -/
def tokenLimitsWrong : ChangeSpec := { name := "tokenLimits", fn := fun _ => fun
  | [d1, d2, d3] => { results := [.lit (.bool false)], args := [d1, d2, d3] }
  | _ => none }
def TokenLimitsWrongFalsely : Prop := tokenLimitsRow.holds Tryd.pinned (OpenSpec.ofChange tokenLimitsWrong)

/-- 'lockorderlaw01.TokenText': WHATEVER THE INPUT: true; the input reads as it did. -/
def tokenTextSpec : ChangeSpec := { name := "tokenText", fn := fun _ => fun
  | [d] => { results := [.lit (.bool true)], args := [d] }
  | _ => none }
def tokenTextRow : OpenClaim := { program := "ytecldppicmbecaadoor", sum := "acd1e64f9e0f83964f3c7790adc50ef27579f0c8147945c65f2f4113366d57d3", func := "lockorder/lockorderlaw01.TokenText", spec := "tokenText", inPlace := ["internal/bytealg.IndexByteString", "internal/bytealg.IndexString", "internal/abi.NoEscape", "internal/bytealg.MakeNoZero"], unfollowed := true, recurses := true, named := ["lockorder/token.words", "internal/bytealg.MaxLen"], apart := false, laid := [("lockorder/token.words", laid_lockorder_token_words)] }
def TokenTextSaid : Prop := tokenTextRow.holds Tryd.pinned (OpenSpec.ofChange tokenTextSpec)

/-- ITS FALSE NEIGHBOUR: 'it returns false'. Refute it at one input. -/
def tokenTextWrong : ChangeSpec := { name := "tokenText", fn := fun _ => fun
  | [d] => { results := [.lit (.bool false)], args := [d] }
  | _ => none }
def TokenTextWrongFalsely : Prop := tokenTextRow.holds Tryd.pinned (OpenSpec.ofChange tokenTextWrong)

/-- 'lockorderlaw01.TokenSpace': WHATEVER THE INPUT: true; the input reads as it did. -/
def tokenSpaceSpec : ChangeSpec := { name := "tokenSpace", fn := fun _ => fun
  | [d1, d2] => { results := [.lit (.bool true)], args := [d1, d2] }
  | _ => none }
def tokenSpaceRow : OpenClaim := { program := "ytecldppicmbecaadoor", sum := "acd1e64f9e0f83964f3c7790adc50ef27579f0c8147945c65f2f4113366d57d3", func := "lockorder/lockorderlaw01.TokenSpace", spec := "tokenSpace", inPlace := ["internal/bytealg.IndexByteString", "internal/bytealg.IndexString", "internal/abi.NoEscape", "internal/bytealg.MakeNoZero"], unfollowed := true, recurses := true, named := ["lockorder/token.words", "internal/bytealg.MaxLen"], apart := false, laid := [("lockorder/token.words", laid_lockorder_token_words)] }
def TokenSpaceSaid : Prop := tokenSpaceRow.holds Tryd.pinned (OpenSpec.ofChange tokenSpaceSpec)

/-- ITS FALSE NEIGHBOUR: 'it returns false'. Refute it at one input. -/
def tokenSpaceWrong : ChangeSpec := { name := "tokenSpace", fn := fun _ => fun
  | [d1, d2] => { results := [.lit (.bool false)], args := [d1, d2] }
  | _ => none }
def TokenSpaceWrongFalsely : Prop := tokenSpaceRow.holds Tryd.pinned (OpenSpec.ofChange tokenSpaceWrong)

/-- 'lockorderlaw01.TokenReserved': WHATEVER THE INPUT: true; the input reads as it did. -/
def tokenReservedSpec : ChangeSpec := { name := "tokenReserved", fn := fun _ => fun
  | [d1, d2] => { results := [.lit (.bool true)], args := [d1, d2] }
  | _ => none }
def tokenReservedRow : OpenClaim := { program := "ytecldppicmbecaadoor", sum := "acd1e64f9e0f83964f3c7790adc50ef27579f0c8147945c65f2f4113366d57d3", func := "lockorder/lockorderlaw01.TokenReserved", spec := "tokenReserved", inPlace := ["internal/bytealg.IndexByteString", "internal/bytealg.IndexString", "internal/abi.NoEscape", "internal/bytealg.MakeNoZero"], unfollowed := true, recurses := true, named := ["lockorder/token.words", "internal/bytealg.MaxLen"], apart := false, laid := [("lockorder/token.words", laid_lockorder_token_words)] }
def TokenReservedSaid : Prop := tokenReservedRow.holds Tryd.pinned (OpenSpec.ofChange tokenReservedSpec)

/-- ITS FALSE NEIGHBOUR: 'it returns false'. Refute it at one input. -/
def tokenReservedWrong : ChangeSpec := { name := "tokenReserved", fn := fun _ => fun
  | [d1, d2] => { results := [.lit (.bool false)], args := [d1, d2] }
  | _ => none }
def TokenReservedWrongFalsely : Prop := tokenReservedRow.holds Tryd.pinned (OpenSpec.ofChange tokenReservedWrong)

/- THE SECOND FORM. 'bulk': how many values and letters a reading holds, each counted each time it is reached (what is shared counts as often as it is met; a slice's spare places count too). A statement '..UptoSaid' is the law's where the arguments, and the package variables that the reading takes, are together of bulk at most 1048576: NARROWER than '..Said'. Prove '..Said' where nothing that the law and all that it calls make is longer than what came in: it says more and counts as full. Else prove '..UptoSaid'. A law counts once. -/
mutual
def uptoBulk {H : Type} : DataW H → Nat
  | .lit (.string bytes) => bytes.length + 1
  | .lit _ => 1
  | .nil => 1
  | .ptr d => uptoBulk d + 1
  | .slice elems spare => uptoBulkAll elems + uptoBulkAll spare + 1
  | .agg parts => uptoBulkAll parts + 1
  | .iface _ d => uptoBulk d + 1
  | .map entries => uptoBulkEntries entries + 1
  | .held _ => 1
def uptoBulkAll {H : Type} : List (DataW H) → Nat
  | [] => 0
  | d :: r => uptoBulk d + uptoBulkAll r
def uptoBulkEntries {H : Type} : List (Lit × DataW H) → Nat
  | [] => 0
  | x :: r => uptoBulkEntry x + uptoBulkEntries r
def uptoBulkEntry {H : Type} : Lit × DataW H → Nat
  | (.string bytes, d) => bytes.length + uptoBulk d + 1
  | (_, d) => uptoBulk d + 1
 end
def uptoSmall : (H : Type) → List (DataW H) → Bool := fun _ ds => decide (uptoBulkAll ds ≤ 1048576)
def OpenSpec.upto (s : _root_.Go.ChangeSpec) : _root_.Go.OpenSpec := { _root_.Go.OpenSpec.ofChange s with cond := some uptoSmall }

/-- 'lockorderlaw01.TokenLex', WHERE WHAT IT READS IS OF BULK AT MOST 1048576: true; the input reads as it did. -/
def tokenLexUptoRow : OpenClaim := { program := "ytecldppicmbecaadoor", sum := "acd1e64f9e0f83964f3c7790adc50ef27579f0c8147945c65f2f4113366d57d3", func := "lockorder/lockorderlaw01.TokenLex", spec := "tokenLex", inPlace := ["internal/bytealg.IndexByteString", "internal/bytealg.IndexString", "internal/abi.NoEscape", "internal/bytealg.MakeNoZero"], unfollowed := true, recurses := true, named := ["lockorder/token.words", "internal/bytealg.MaxLen"], apart := false, laid := [("lockorder/token.words", laid_lockorder_token_words)], narrowed := true }
def TokenLexUptoSaid : Prop := tokenLexUptoRow.holds Tryd.pinned (OpenSpec.upto tokenLexSpec)

/-- 'lockorderlaw01.TokenChanged', WHERE WHAT IT READS IS OF BULK AT MOST 1048576: true; the input reads as it did. -/
def tokenChangedUptoRow : OpenClaim := { program := "ytecldppicmbecaadoor", sum := "acd1e64f9e0f83964f3c7790adc50ef27579f0c8147945c65f2f4113366d57d3", func := "lockorder/lockorderlaw01.TokenChanged", spec := "tokenChanged", inPlace := ["internal/bytealg.IndexByteString", "internal/bytealg.IndexString", "internal/abi.NoEscape", "internal/bytealg.MakeNoZero"], unfollowed := true, recurses := true, named := ["lockorder/token.words", "internal/bytealg.MaxLen"], apart := false, laid := [("lockorder/token.words", laid_lockorder_token_words)], narrowed := true }
def TokenChangedUptoSaid : Prop := tokenChangedUptoRow.holds Tryd.pinned (OpenSpec.upto tokenChangedSpec)

/-- 'lockorderlaw01.TokenNumbers', WHERE WHAT IT READS IS OF BULK AT MOST 1048576: true; the input reads as it did. -/
def tokenNumbersUptoRow : OpenClaim := { program := "ytecldppicmbecaadoor", sum := "acd1e64f9e0f83964f3c7790adc50ef27579f0c8147945c65f2f4113366d57d3", func := "lockorder/lockorderlaw01.TokenNumbers", spec := "tokenNumbers", inPlace := ["internal/bytealg.IndexByteString", "internal/bytealg.IndexString", "internal/abi.NoEscape", "internal/bytealg.MakeNoZero"], unfollowed := true, recurses := true, named := ["lockorder/token.words", "internal/bytealg.MaxLen"], apart := false, laid := [("lockorder/token.words", laid_lockorder_token_words)], narrowed := true }
def TokenNumbersUptoSaid : Prop := tokenNumbersUptoRow.holds Tryd.pinned (OpenSpec.upto tokenNumbersSpec)

/-- 'lockorderlaw01.TokenLimits', WHERE WHAT IT READS IS OF BULK AT MOST 1048576: true; the input reads as it did. -/
def tokenLimitsUptoRow : OpenClaim := { program := "ytecldppicmbecaadoor", sum := "acd1e64f9e0f83964f3c7790adc50ef27579f0c8147945c65f2f4113366d57d3", func := "lockorder/lockorderlaw01.TokenLimits", spec := "tokenLimits", inPlace := ["internal/bytealg.IndexByteString", "internal/bytealg.IndexString", "internal/abi.NoEscape", "internal/bytealg.MakeNoZero"], unfollowed := true, recurses := true, named := ["lockorder/token.words", "internal/bytealg.MaxLen"], apart := false, laid := [("lockorder/token.words", laid_lockorder_token_words)], narrowed := true }
def TokenLimitsUptoSaid : Prop := tokenLimitsUptoRow.holds Tryd.pinned (OpenSpec.upto tokenLimitsSpec)

/-- 'lockorderlaw01.TokenText', WHERE WHAT IT READS IS OF BULK AT MOST 1048576: true; the input reads as it did. -/
def tokenTextUptoRow : OpenClaim := { program := "ytecldppicmbecaadoor", sum := "acd1e64f9e0f83964f3c7790adc50ef27579f0c8147945c65f2f4113366d57d3", func := "lockorder/lockorderlaw01.TokenText", spec := "tokenText", inPlace := ["internal/bytealg.IndexByteString", "internal/bytealg.IndexString", "internal/abi.NoEscape", "internal/bytealg.MakeNoZero"], unfollowed := true, recurses := true, named := ["lockorder/token.words", "internal/bytealg.MaxLen"], apart := false, laid := [("lockorder/token.words", laid_lockorder_token_words)], narrowed := true }
def TokenTextUptoSaid : Prop := tokenTextUptoRow.holds Tryd.pinned (OpenSpec.upto tokenTextSpec)

/-- 'lockorderlaw01.TokenSpace', WHERE WHAT IT READS IS OF BULK AT MOST 1048576: true; the input reads as it did. -/
def tokenSpaceUptoRow : OpenClaim := { program := "ytecldppicmbecaadoor", sum := "acd1e64f9e0f83964f3c7790adc50ef27579f0c8147945c65f2f4113366d57d3", func := "lockorder/lockorderlaw01.TokenSpace", spec := "tokenSpace", inPlace := ["internal/bytealg.IndexByteString", "internal/bytealg.IndexString", "internal/abi.NoEscape", "internal/bytealg.MakeNoZero"], unfollowed := true, recurses := true, named := ["lockorder/token.words", "internal/bytealg.MaxLen"], apart := false, laid := [("lockorder/token.words", laid_lockorder_token_words)], narrowed := true }
def TokenSpaceUptoSaid : Prop := tokenSpaceUptoRow.holds Tryd.pinned (OpenSpec.upto tokenSpaceSpec)

/-- 'lockorderlaw01.TokenReserved', WHERE WHAT IT READS IS OF BULK AT MOST 1048576: true; the input reads as it did. -/
def tokenReservedUptoRow : OpenClaim := { program := "ytecldppicmbecaadoor", sum := "acd1e64f9e0f83964f3c7790adc50ef27579f0c8147945c65f2f4113366d57d3", func := "lockorder/lockorderlaw01.TokenReserved", spec := "tokenReserved", inPlace := ["internal/bytealg.IndexByteString", "internal/bytealg.IndexString", "internal/abi.NoEscape", "internal/bytealg.MakeNoZero"], unfollowed := true, recurses := true, named := ["lockorder/token.words", "internal/bytealg.MaxLen"], apart := false, laid := [("lockorder/token.words", laid_lockorder_token_words)], narrowed := true }
def TokenReservedUptoSaid : Prop := tokenReservedUptoRow.holds Tryd.pinned (OpenSpec.upto tokenReservedSpec)

end Rows
end Go.Proofs.YtecldppicmbecaaDoor
