/-
  NARROWER THAN 'FOR EVERY INPUT', by the rows' own cells (each row's printed sentence says how): PrintAgain: laid · PrintLong: laid · ResolveProgram: laid · ResolveChanged: laid · ResolveRaw: loops, laid · ResolveTexts: laid · ResolveRename: laid · ResolveFirst: laid.
  DERIVED. THE GIVEN ROWS OF THIS SEAT. 8 by the template 'for every input the law returns true; each argument reads behind the call as it read before'; 0 by the template 'total and deterministic' (their statements: YtojinfngbbajgaaGreatDoorTotals.lean).
  GIVEN WITH THE SEED: the statements are not yours to turn. If you find one false, say at which input.
  Laid BY PROGRAM, IN A SANDBOX (cutbox-rows.mjs): the forced cells as the released guide's own fill.sh prints them over the translation 3a3abac75a093d36… (all of the seat's roots in one cut). By AI agents, Wed Nov 11 2026. No macro, syntax, notation, axiom, sorry.
-/
import Derived.Test.YtojinfngbbajgaaGreatDoorChecked
import GoSem.Claim
import GoSem.ClaimJoined
import GoSem.ClaimMapViews
import Derived.JoinedTies
import Derived.KernelRfl
namespace Go.Proofs.YtojinfngbbajgaaGreatDoor
/- THE CELL 'sum', in the pinned program and in every row, IS THE sha256 OF THE DUMP (.gsa) THAT YtojinfngbbajgaaGreatDoorProg.lean LOADS. Nothing in Lean hashes anything: it is a label: what it is worth is what the hold of that sum in a sandbox is worth. -/
noncomputable def Tryz.pinned : Pinned := { name := "ytojinfngbbajgaagreatdoor", sum := "3a3abac75a093d360fb190f08457c22165a914173ad662d55c8bdb49dd83857b", checked := Tryz.checked }
namespace Rows
def none {H : Type} : Left H := { results := [], args := [] }

/- WHAT THE LISTED PACKAGE-LEVEL VARIABLES READ AS WHEN THE CALL BEGINS. Each datum BY PROGRAM (the guide's laid-datum.mjs) off the statement by which the dump's own 'gosem.cut.vars' lays the variable. In a bare row this is a premise. The card (YtojinfngbbajgaaGreatDoorCards.lean) ties it to the program's text. -/
def laid_math_bits_deBruijn32tab {H : Type} : DataW H := .agg [.lit (.int .u8 0), .lit (.int .u8 1), .lit (.int .u8 28), .lit (.int .u8 2), .lit (.int .u8 29), .lit (.int .u8 14), .lit (.int .u8 24), .lit (.int .u8 3), .lit (.int .u8 30), .lit (.int .u8 22), .lit (.int .u8 20), .lit (.int .u8 15), .lit (.int .u8 25), .lit (.int .u8 17), .lit (.int .u8 4), .lit (.int .u8 8), .lit (.int .u8 31), .lit (.int .u8 27), .lit (.int .u8 13), .lit (.int .u8 23), .lit (.int .u8 21), .lit (.int .u8 19), .lit (.int .u8 16), .lit (.int .u8 7), .lit (.int .u8 26), .lit (.int .u8 12), .lit (.int .u8 18), .lit (.int .u8 6), .lit (.int .u8 11), .lit (.int .u8 5), .lit (.int .u8 10), .lit (.int .u8 9)]
def laid_math_bits_deBruijn64tab {H : Type} : DataW H := .agg [.lit (.int .u8 0), .lit (.int .u8 1), .lit (.int .u8 56), .lit (.int .u8 2), .lit (.int .u8 57), .lit (.int .u8 49), .lit (.int .u8 28), .lit (.int .u8 3), .lit (.int .u8 61), .lit (.int .u8 58), .lit (.int .u8 42), .lit (.int .u8 50), .lit (.int .u8 38), .lit (.int .u8 29), .lit (.int .u8 17), .lit (.int .u8 4), .lit (.int .u8 62), .lit (.int .u8 47), .lit (.int .u8 59), .lit (.int .u8 36), .lit (.int .u8 45), .lit (.int .u8 43), .lit (.int .u8 51), .lit (.int .u8 22), .lit (.int .u8 53), .lit (.int .u8 39), .lit (.int .u8 33), .lit (.int .u8 30), .lit (.int .u8 24), .lit (.int .u8 18), .lit (.int .u8 12), .lit (.int .u8 5), .lit (.int .u8 63), .lit (.int .u8 55), .lit (.int .u8 48), .lit (.int .u8 27), .lit (.int .u8 60), .lit (.int .u8 41), .lit (.int .u8 37), .lit (.int .u8 16), .lit (.int .u8 46), .lit (.int .u8 35), .lit (.int .u8 44), .lit (.int .u8 21), .lit (.int .u8 52), .lit (.int .u8 32), .lit (.int .u8 23), .lit (.int .u8 11), .lit (.int .u8 54), .lit (.int .u8 26), .lit (.int .u8 40), .lit (.int .u8 15), .lit (.int .u8 34), .lit (.int .u8 20), .lit (.int .u8 31), .lit (.int .u8 10), .lit (.int .u8 25), .lit (.int .u8 14), .lit (.int .u8 19), .lit (.int .u8 9), .lit (.int .u8 13), .lit (.int .u8 8), .lit (.int .u8 7), .lit (.int .u8 6)]
def laid_internal_strconv_uint64pow10 {H : Type} : DataW H := .agg [.lit (.int .u64 1), .lit (.int .u64 10), .lit (.int .u64 100), .lit (.int .u64 1000), .lit (.int .u64 10000), .lit (.int .u64 100000), .lit (.int .u64 1000000), .lit (.int .u64 10000000), .lit (.int .u64 100000000), .lit (.int .u64 1000000000), .lit (.int .u64 10000000000), .lit (.int .u64 100000000000), .lit (.int .u64 1000000000000), .lit (.int .u64 10000000000000), .lit (.int .u64 100000000000000), .lit (.int .u64 1000000000000000), .lit (.int .u64 10000000000000000), .lit (.int .u64 100000000000000000), .lit (.int .u64 1000000000000000000), .lit (.int .u64 10000000000000000000)]
def laid_lockorder_token_words {H : Type} : DataW H := .agg [.lit (.string [118, 97, 114]), .lit (.string [109, 117, 116, 101, 120]), .lit (.string [114, 109, 117, 116, 101, 120]), .lit (.string [102, 117, 110, 99]), .lit (.string [108, 111, 99, 107]), .lit (.string [117, 110, 108, 111, 99, 107]), .lit (.string [103, 111]), .lit (.string [105, 102]), .lit (.string [101, 108, 115, 101]), .lit (.string [119, 104, 105, 108, 101]), .lit (.string [114, 101, 116, 117, 114, 110])]
def laid_lockorder_expr_signs {H : Type} : DataW H := .agg [.lit (.string []), .lit (.string []), .lit (.string []), .lit (.string [45]), .lit (.string [33]), .lit (.string [42]), .lit (.string [47]), .lit (.string [37]), .lit (.string [43]), .lit (.string [45]), .lit (.string [60]), .lit (.string [60, 61]), .lit (.string [62]), .lit (.string [62, 61]), .lit (.string [61, 61]), .lit (.string [33, 61]), .lit (.string [38, 38]), .lit (.string [124, 124])]

/-- 'lockorderlaw04.PrintAgain': WHATEVER THE INPUT: true; the input reads as it did. -/
def printAgainSpec : ChangeSpec := { name := "printAgain", fn := fun _ => fun
  | [d1, d2, d3] => { results := [.lit (.bool true)], args := [d1, d2, d3] }
  | _ => none }
def printAgainRow : OpenClaim := { program := "ytojinfngbbajgaagreatdoor", sum := "3a3abac75a093d360fb190f08457c22165a914173ad662d55c8bdb49dd83857b", func := "lockorder/lockorderlaw04.PrintAgain", spec := "printAgain", inPlace := ["internal/bytealg.IndexByteString", "internal/bytealg.IndexString", "internal/abi.NoEscape", "internal/bytealg.MakeNoZero"], unfollowed := true, recurses := true, named := ["lockorder/token.words", "internal/bytealg.MaxLen", "lockorder/expr.signs", "internal/strconv.uint64pow10", "math/bits.deBruijn32tab", "math/bits.deBruijn64tab"], apart := false, laid := [("math/bits.deBruijn32tab", laid_math_bits_deBruijn32tab), ("math/bits.deBruijn64tab", laid_math_bits_deBruijn64tab), ("internal/strconv.uint64pow10", laid_internal_strconv_uint64pow10), ("lockorder/token.words", laid_lockorder_token_words), ("lockorder/expr.signs", laid_lockorder_expr_signs)] }
def PrintAgainSaid : Prop := printAgainRow.holds Tryz.pinned (OpenSpec.ofChange printAgainSpec)

/-- ITS FALSE NEIGHBOUR: 'it returns false'. Refute it at one input. -/
def printAgainWrong : ChangeSpec := { name := "printAgain", fn := fun _ => fun
  | [d1, d2, d3] => { results := [.lit (.bool false)], args := [d1, d2, d3] }
  | _ => none }
def PrintAgainWrongFalsely : Prop := printAgainRow.holds Tryz.pinned (OpenSpec.ofChange printAgainWrong)

/-- 'lockorderlaw04.PrintLong': WHATEVER THE INPUT: true; the input reads as it did. -/
def printLongSpec : ChangeSpec := { name := "printLong", fn := fun _ => fun
  | [d1, d2, d3] => { results := [.lit (.bool true)], args := [d1, d2, d3] }
  | _ => none }
def printLongRow : OpenClaim := { program := "ytojinfngbbajgaagreatdoor", sum := "3a3abac75a093d360fb190f08457c22165a914173ad662d55c8bdb49dd83857b", func := "lockorder/lockorderlaw04.PrintLong", spec := "printLong", inPlace := ["internal/bytealg.IndexByteString", "internal/bytealg.IndexString", "internal/abi.NoEscape", "internal/bytealg.MakeNoZero"], unfollowed := true, recurses := true, named := ["lockorder/token.words", "internal/bytealg.MaxLen", "lockorder/expr.signs", "internal/strconv.uint64pow10", "math/bits.deBruijn32tab", "math/bits.deBruijn64tab"], apart := false, laid := [("math/bits.deBruijn32tab", laid_math_bits_deBruijn32tab), ("math/bits.deBruijn64tab", laid_math_bits_deBruijn64tab), ("internal/strconv.uint64pow10", laid_internal_strconv_uint64pow10), ("lockorder/token.words", laid_lockorder_token_words), ("lockorder/expr.signs", laid_lockorder_expr_signs)] }
def PrintLongSaid : Prop := printLongRow.holds Tryz.pinned (OpenSpec.ofChange printLongSpec)

/-- ITS FALSE NEIGHBOUR: 'it returns false'. Refute it at one input. -/
def printLongWrong : ChangeSpec := { name := "printLong", fn := fun _ => fun
  | [d1, d2, d3] => { results := [.lit (.bool false)], args := [d1, d2, d3] }
  | _ => none }
def PrintLongWrongFalsely : Prop := printLongRow.holds Tryz.pinned (OpenSpec.ofChange printLongWrong)

/-- 'lockorderlaw05.ResolveProgram': WHATEVER THE INPUT: true; the input reads as it did. -/
def resolveProgramSpec : ChangeSpec := { name := "resolveProgram", fn := fun _ => fun
  | [d] => { results := [.lit (.bool true)], args := [d] }
  | _ => none }
def resolveProgramRow : OpenClaim := { program := "ytojinfngbbajgaagreatdoor", sum := "3a3abac75a093d360fb190f08457c22165a914173ad662d55c8bdb49dd83857b", func := "lockorder/lockorderlaw05.ResolveProgram", spec := "resolveProgram", inPlace := ["internal/bytealg.IndexByteString", "internal/bytealg.IndexString", "internal/abi.NoEscape", "internal/bytealg.MakeNoZero"], unfollowed := true, recurses := true, named := ["lockorder/token.words", "internal/bytealg.MaxLen", "lockorder/expr.signs", "internal/strconv.uint64pow10", "math/bits.deBruijn32tab", "math/bits.deBruijn64tab"], apart := false, laid := [("math/bits.deBruijn32tab", laid_math_bits_deBruijn32tab), ("math/bits.deBruijn64tab", laid_math_bits_deBruijn64tab), ("internal/strconv.uint64pow10", laid_internal_strconv_uint64pow10), ("lockorder/token.words", laid_lockorder_token_words), ("lockorder/expr.signs", laid_lockorder_expr_signs)] }
def ResolveProgramSaid : Prop := resolveProgramRow.holds Tryz.pinned (OpenSpec.ofChange resolveProgramSpec)

/-- ITS FALSE NEIGHBOUR: 'it returns false'. Refute it at one input. -/
def resolveProgramWrong : ChangeSpec := { name := "resolveProgram", fn := fun _ => fun
  | [d] => { results := [.lit (.bool false)], args := [d] }
  | _ => none }
def ResolveProgramWrongFalsely : Prop := resolveProgramRow.holds Tryz.pinned (OpenSpec.ofChange resolveProgramWrong)

/-- 'lockorderlaw05.ResolveChanged': WHATEVER THE INPUT: true; the input reads as it did. -/
def resolveChangedSpec : ChangeSpec := { name := "resolveChanged", fn := fun _ => fun
  | [d1, d2, d3, d4, d5, d6, d7, d8, d9] => { results := [.lit (.bool true)], args := [d1, d2, d3, d4, d5, d6, d7, d8, d9] }
  | _ => none }
def resolveChangedRow : OpenClaim := { program := "ytojinfngbbajgaagreatdoor", sum := "3a3abac75a093d360fb190f08457c22165a914173ad662d55c8bdb49dd83857b", func := "lockorder/lockorderlaw05.ResolveChanged", spec := "resolveChanged", inPlace := ["internal/bytealg.IndexByteString", "internal/bytealg.IndexString", "internal/abi.NoEscape", "internal/bytealg.MakeNoZero"], unfollowed := true, recurses := true, named := ["lockorder/token.words", "internal/bytealg.MaxLen", "lockorder/expr.signs", "internal/strconv.uint64pow10", "math/bits.deBruijn32tab", "math/bits.deBruijn64tab"], apart := false, laid := [("math/bits.deBruijn32tab", laid_math_bits_deBruijn32tab), ("math/bits.deBruijn64tab", laid_math_bits_deBruijn64tab), ("internal/strconv.uint64pow10", laid_internal_strconv_uint64pow10), ("lockorder/token.words", laid_lockorder_token_words), ("lockorder/expr.signs", laid_lockorder_expr_signs)] }
def ResolveChangedSaid : Prop := resolveChangedRow.holds Tryz.pinned (OpenSpec.ofChange resolveChangedSpec)

/-- ITS FALSE NEIGHBOUR: 'it returns false'. Refute it at one input. -/
def resolveChangedWrong : ChangeSpec := { name := "resolveChanged", fn := fun _ => fun
  | [d1, d2, d3, d4, d5, d6, d7, d8, d9] => { results := [.lit (.bool false)], args := [d1, d2, d3, d4, d5, d6, d7, d8, d9] }
  | _ => none }
def ResolveChangedWrongFalsely : Prop := resolveChangedRow.holds Tryz.pinned (OpenSpec.ofChange resolveChangedWrong)

/-- 'lockorderlaw05.ResolveRaw': WHATEVER THE INPUT: true; the input reads as it did. -/
def resolveRawSpec : ChangeSpec := { name := "resolveRaw", fn := fun _ => fun
  | [d] => { results := [.lit (.bool true)], args := [d] }
  | _ => none }
def resolveRawRow : OpenClaim := { program := "ytojinfngbbajgaagreatdoor", sum := "3a3abac75a093d360fb190f08457c22165a914173ad662d55c8bdb49dd83857b", func := "lockorder/lockorderlaw05.ResolveRaw", spec := "resolveRaw", inPlace := ["internal/bytealg.IndexByteString", "internal/bytealg.IndexString", "internal/abi.NoEscape", "internal/bytealg.MakeNoZero"], unfollowed := true, recurses := true, named := ["lockorder/token.words", "internal/bytealg.MaxLen", "lockorder/expr.signs", "internal/strconv.uint64pow10", "math/bits.deBruijn32tab", "math/bits.deBruijn64tab"], loops := true, apart := false, laid := [("math/bits.deBruijn32tab", laid_math_bits_deBruijn32tab), ("math/bits.deBruijn64tab", laid_math_bits_deBruijn64tab), ("internal/strconv.uint64pow10", laid_internal_strconv_uint64pow10), ("lockorder/token.words", laid_lockorder_token_words), ("lockorder/expr.signs", laid_lockorder_expr_signs)] }
def ResolveRawSaid : Prop := resolveRawRow.holds Tryz.pinned (OpenSpec.ofChange resolveRawSpec)

/-- ITS FALSE NEIGHBOUR: 'it returns false'. Refute it at one input. -/
def resolveRawWrong : ChangeSpec := { name := "resolveRaw", fn := fun _ => fun
  | [d] => { results := [.lit (.bool false)], args := [d] }
  | _ => none }
def ResolveRawWrongFalsely : Prop := resolveRawRow.holds Tryz.pinned (OpenSpec.ofChange resolveRawWrong)

/-- 'lockorderlaw05.ResolveTexts': WHATEVER THE INPUT: true; the input reads as it did. -/
def resolveTextsSpec : ChangeSpec := { name := "resolveTexts", fn := fun _ => fun
  | [d] => { results := [.lit (.bool true)], args := [d] }
  | _ => none }
def resolveTextsRow : OpenClaim := { program := "ytojinfngbbajgaagreatdoor", sum := "3a3abac75a093d360fb190f08457c22165a914173ad662d55c8bdb49dd83857b", func := "lockorder/lockorderlaw05.ResolveTexts", spec := "resolveTexts", inPlace := ["internal/bytealg.IndexByteString", "internal/bytealg.IndexString", "internal/abi.NoEscape", "internal/bytealg.MakeNoZero"], unfollowed := true, recurses := true, named := ["lockorder/token.words", "internal/bytealg.MaxLen", "lockorder/expr.signs", "internal/strconv.uint64pow10", "math/bits.deBruijn32tab", "math/bits.deBruijn64tab"], apart := false, laid := [("math/bits.deBruijn32tab", laid_math_bits_deBruijn32tab), ("math/bits.deBruijn64tab", laid_math_bits_deBruijn64tab), ("internal/strconv.uint64pow10", laid_internal_strconv_uint64pow10), ("lockorder/token.words", laid_lockorder_token_words), ("lockorder/expr.signs", laid_lockorder_expr_signs)] }
def ResolveTextsSaid : Prop := resolveTextsRow.holds Tryz.pinned (OpenSpec.ofChange resolveTextsSpec)

/-- ITS FALSE NEIGHBOUR: 'it returns false'. Refute it at one input. -/
def resolveTextsWrong : ChangeSpec := { name := "resolveTexts", fn := fun _ => fun
  | [d] => { results := [.lit (.bool false)], args := [d] }
  | _ => none }
def ResolveTextsWrongFalsely : Prop := resolveTextsRow.holds Tryz.pinned (OpenSpec.ofChange resolveTextsWrong)

/-- 'lockorderlaw05.ResolveRename': WHATEVER THE INPUT: true; the input reads as it did. -/
def resolveRenameSpec : ChangeSpec := { name := "resolveRename", fn := fun _ => fun
  | [d1, d2, d3, d4, d5, d6] => { results := [.lit (.bool true)], args := [d1, d2, d3, d4, d5, d6] }
  | _ => none }
def resolveRenameRow : OpenClaim := { program := "ytojinfngbbajgaagreatdoor", sum := "3a3abac75a093d360fb190f08457c22165a914173ad662d55c8bdb49dd83857b", func := "lockorder/lockorderlaw05.ResolveRename", spec := "resolveRename", inPlace := ["internal/bytealg.IndexByteString", "internal/bytealg.IndexString", "internal/abi.NoEscape", "internal/bytealg.MakeNoZero"], unfollowed := true, recurses := true, named := ["lockorder/token.words", "internal/bytealg.MaxLen", "lockorder/expr.signs", "internal/strconv.uint64pow10", "math/bits.deBruijn32tab", "math/bits.deBruijn64tab"], apart := false, laid := [("math/bits.deBruijn32tab", laid_math_bits_deBruijn32tab), ("math/bits.deBruijn64tab", laid_math_bits_deBruijn64tab), ("internal/strconv.uint64pow10", laid_internal_strconv_uint64pow10), ("lockorder/token.words", laid_lockorder_token_words), ("lockorder/expr.signs", laid_lockorder_expr_signs)] }
def ResolveRenameSaid : Prop := resolveRenameRow.holds Tryz.pinned (OpenSpec.ofChange resolveRenameSpec)

/-- ITS FALSE NEIGHBOUR: 'it returns false'. Refute it at one input. -/
def resolveRenameWrong : ChangeSpec := { name := "resolveRename", fn := fun _ => fun
  | [d1, d2, d3, d4, d5, d6] => { results := [.lit (.bool false)], args := [d1, d2, d3, d4, d5, d6] }
  | _ => none }
def ResolveRenameWrongFalsely : Prop := resolveRenameRow.holds Tryz.pinned (OpenSpec.ofChange resolveRenameWrong)

/-- 'lockorderlaw05.ResolveFirst': WHATEVER THE INPUT: true; the input reads as it did. -/
def resolveFirstSpec : ChangeSpec := { name := "resolveFirst", fn := fun _ => fun
  | [d1, d2, d3, d4, d5, d6, d7, d8] => { results := [.lit (.bool true)], args := [d1, d2, d3, d4, d5, d6, d7, d8] }
  | _ => none }
def resolveFirstRow : OpenClaim := { program := "ytojinfngbbajgaagreatdoor", sum := "3a3abac75a093d360fb190f08457c22165a914173ad662d55c8bdb49dd83857b", func := "lockorder/lockorderlaw05.ResolveFirst", spec := "resolveFirst", inPlace := ["internal/bytealg.IndexByteString", "internal/bytealg.IndexString", "internal/abi.NoEscape", "internal/bytealg.MakeNoZero"], unfollowed := true, recurses := true, named := ["lockorder/token.words", "internal/bytealg.MaxLen", "lockorder/expr.signs", "internal/strconv.uint64pow10", "math/bits.deBruijn32tab", "math/bits.deBruijn64tab"], apart := false, laid := [("math/bits.deBruijn32tab", laid_math_bits_deBruijn32tab), ("math/bits.deBruijn64tab", laid_math_bits_deBruijn64tab), ("internal/strconv.uint64pow10", laid_internal_strconv_uint64pow10), ("lockorder/token.words", laid_lockorder_token_words), ("lockorder/expr.signs", laid_lockorder_expr_signs)] }
def ResolveFirstSaid : Prop := resolveFirstRow.holds Tryz.pinned (OpenSpec.ofChange resolveFirstSpec)

/-- ITS FALSE NEIGHBOUR: 'it returns false'. Refute it at one input. -/
def resolveFirstWrong : ChangeSpec := { name := "resolveFirst", fn := fun _ => fun
  | [d1, d2, d3, d4, d5, d6, d7, d8] => { results := [.lit (.bool false)], args := [d1, d2, d3, d4, d5, d6, d7, d8] }
  | _ => none }
def ResolveFirstWrongFalsely : Prop := resolveFirstRow.holds Tryz.pinned (OpenSpec.ofChange resolveFirstWrong)

/- THE SECOND FORM. 'bulk': how many values and letters a reading holds, each counted each time it is reached (what is shared counts as often as it is met; a slice's spare places count too). A statement '..UptoSaid' is the law's where the arguments, and the package variables that the reading takes, are together of bulk at most 1048576: NARROWER than '..Said'. Prove '..Said' where nothing that the law and all that it calls make is longer than what came in: it says more and counts as full. Else prove '..UptoSaid'. A law counts once. -/
mutual
def uptoBulk {H : Type} : DataW H → Nat
  | .lit (.string bytes) => bytes.length + 1
  | .lit _ => 1
  | .nil => 1
  | .ptr d => uptoBulk d + 1
  | .slice elems spare => uptoBulkAll elems + uptoBulkAll spare + 1
  | .agg parts => uptoBulkAll parts + 1
  | .iface _ d => uptoBulk d + 1
  | .map entries => uptoBulkEntries entries + 1
  | .held _ => 1
def uptoBulkAll {H : Type} : List (DataW H) → Nat
  | [] => 0
  | d :: r => uptoBulk d + uptoBulkAll r
def uptoBulkEntries {H : Type} : List (Lit × DataW H) → Nat
  | [] => 0
  | x :: r => uptoBulkEntry x + uptoBulkEntries r
def uptoBulkEntry {H : Type} : Lit × DataW H → Nat
  | (.string bytes, d) => bytes.length + uptoBulk d + 1
  | (_, d) => uptoBulk d + 1
 end
def uptoSmall : (H : Type) → List (DataW H) → Bool := fun _ ds => decide (uptoBulkAll ds ≤ 1048576)
def OpenSpec.upto (s : _root_.Go.ChangeSpec) : _root_.Go.OpenSpec := { _root_.Go.OpenSpec.ofChange s with cond := some uptoSmall }

/-- 'lockorderlaw04.PrintAgain', WHERE WHAT IT READS IS OF BULK AT MOST 1048576: true; the input reads as it did. -/
def printAgainUptoRow : OpenClaim := { program := "ytojinfngbbajgaagreatdoor", sum := "3a3abac75a093d360fb190f08457c22165a914173ad662d55c8bdb49dd83857b", func := "lockorder/lockorderlaw04.PrintAgain", spec := "printAgain", inPlace := ["internal/bytealg.IndexByteString", "internal/bytealg.IndexString", "internal/abi.NoEscape", "internal/bytealg.MakeNoZero"], unfollowed := true, recurses := true, named := ["lockorder/token.words", "internal/bytealg.MaxLen", "lockorder/expr.signs", "internal/strconv.uint64pow10", "math/bits.deBruijn32tab", "math/bits.deBruijn64tab"], apart := false, laid := [("math/bits.deBruijn32tab", laid_math_bits_deBruijn32tab), ("math/bits.deBruijn64tab", laid_math_bits_deBruijn64tab), ("internal/strconv.uint64pow10", laid_internal_strconv_uint64pow10), ("lockorder/token.words", laid_lockorder_token_words), ("lockorder/expr.signs", laid_lockorder_expr_signs)], narrowed := true }
def PrintAgainUptoSaid : Prop := printAgainUptoRow.holds Tryz.pinned (OpenSpec.upto printAgainSpec)

/-- 'lockorderlaw04.PrintLong', WHERE WHAT IT READS IS OF BULK AT MOST 1048576: true; the input reads as it did. -/
def printLongUptoRow : OpenClaim := { program := "ytojinfngbbajgaagreatdoor", sum := "3a3abac75a093d360fb190f08457c22165a914173ad662d55c8bdb49dd83857b", func := "lockorder/lockorderlaw04.PrintLong", spec := "printLong", inPlace := ["internal/bytealg.IndexByteString", "internal/bytealg.IndexString", "internal/abi.NoEscape", "internal/bytealg.MakeNoZero"], unfollowed := true, recurses := true, named := ["lockorder/token.words", "internal/bytealg.MaxLen", "lockorder/expr.signs", "internal/strconv.uint64pow10", "math/bits.deBruijn32tab", "math/bits.deBruijn64tab"], apart := false, laid := [("math/bits.deBruijn32tab", laid_math_bits_deBruijn32tab), ("math/bits.deBruijn64tab", laid_math_bits_deBruijn64tab), ("internal/strconv.uint64pow10", laid_internal_strconv_uint64pow10), ("lockorder/token.words", laid_lockorder_token_words), ("lockorder/expr.signs", laid_lockorder_expr_signs)], narrowed := true }
def PrintLongUptoSaid : Prop := printLongUptoRow.holds Tryz.pinned (OpenSpec.upto printLongSpec)

/-- 'lockorderlaw05.ResolveProgram', WHERE WHAT IT READS IS OF BULK AT MOST 1048576: true; the input reads as it did. -/
def resolveProgramUptoRow : OpenClaim := { program := "ytojinfngbbajgaagreatdoor", sum := "3a3abac75a093d360fb190f08457c22165a914173ad662d55c8bdb49dd83857b", func := "lockorder/lockorderlaw05.ResolveProgram", spec := "resolveProgram", inPlace := ["internal/bytealg.IndexByteString", "internal/bytealg.IndexString", "internal/abi.NoEscape", "internal/bytealg.MakeNoZero"], unfollowed := true, recurses := true, named := ["lockorder/token.words", "internal/bytealg.MaxLen", "lockorder/expr.signs", "internal/strconv.uint64pow10", "math/bits.deBruijn32tab", "math/bits.deBruijn64tab"], apart := false, laid := [("math/bits.deBruijn32tab", laid_math_bits_deBruijn32tab), ("math/bits.deBruijn64tab", laid_math_bits_deBruijn64tab), ("internal/strconv.uint64pow10", laid_internal_strconv_uint64pow10), ("lockorder/token.words", laid_lockorder_token_words), ("lockorder/expr.signs", laid_lockorder_expr_signs)], narrowed := true }
def ResolveProgramUptoSaid : Prop := resolveProgramUptoRow.holds Tryz.pinned (OpenSpec.upto resolveProgramSpec)

/-- 'lockorderlaw05.ResolveChanged', WHERE WHAT IT READS IS OF BULK AT MOST 1048576: true; the input reads as it did. -/
def resolveChangedUptoRow : OpenClaim := { program := "ytojinfngbbajgaagreatdoor", sum := "3a3abac75a093d360fb190f08457c22165a914173ad662d55c8bdb49dd83857b", func := "lockorder/lockorderlaw05.ResolveChanged", spec := "resolveChanged", inPlace := ["internal/bytealg.IndexByteString", "internal/bytealg.IndexString", "internal/abi.NoEscape", "internal/bytealg.MakeNoZero"], unfollowed := true, recurses := true, named := ["lockorder/token.words", "internal/bytealg.MaxLen", "lockorder/expr.signs", "internal/strconv.uint64pow10", "math/bits.deBruijn32tab", "math/bits.deBruijn64tab"], apart := false, laid := [("math/bits.deBruijn32tab", laid_math_bits_deBruijn32tab), ("math/bits.deBruijn64tab", laid_math_bits_deBruijn64tab), ("internal/strconv.uint64pow10", laid_internal_strconv_uint64pow10), ("lockorder/token.words", laid_lockorder_token_words), ("lockorder/expr.signs", laid_lockorder_expr_signs)], narrowed := true }
def ResolveChangedUptoSaid : Prop := resolveChangedUptoRow.holds Tryz.pinned (OpenSpec.upto resolveChangedSpec)

/-- 'lockorderlaw05.ResolveRaw', WHERE WHAT IT READS IS OF BULK AT MOST 1048576: true; the input reads as it did. -/
def resolveRawUptoRow : OpenClaim := { program := "ytojinfngbbajgaagreatdoor", sum := "3a3abac75a093d360fb190f08457c22165a914173ad662d55c8bdb49dd83857b", func := "lockorder/lockorderlaw05.ResolveRaw", spec := "resolveRaw", inPlace := ["internal/bytealg.IndexByteString", "internal/bytealg.IndexString", "internal/abi.NoEscape", "internal/bytealg.MakeNoZero"], unfollowed := true, recurses := true, named := ["lockorder/token.words", "internal/bytealg.MaxLen", "lockorder/expr.signs", "internal/strconv.uint64pow10", "math/bits.deBruijn32tab", "math/bits.deBruijn64tab"], loops := true, apart := false, laid := [("math/bits.deBruijn32tab", laid_math_bits_deBruijn32tab), ("math/bits.deBruijn64tab", laid_math_bits_deBruijn64tab), ("internal/strconv.uint64pow10", laid_internal_strconv_uint64pow10), ("lockorder/token.words", laid_lockorder_token_words), ("lockorder/expr.signs", laid_lockorder_expr_signs)], narrowed := true }
def ResolveRawUptoSaid : Prop := resolveRawUptoRow.holds Tryz.pinned (OpenSpec.upto resolveRawSpec)

/-- 'lockorderlaw05.ResolveTexts', WHERE WHAT IT READS IS OF BULK AT MOST 1048576: true; the input reads as it did. -/
def resolveTextsUptoRow : OpenClaim := { program := "ytojinfngbbajgaagreatdoor", sum := "3a3abac75a093d360fb190f08457c22165a914173ad662d55c8bdb49dd83857b", func := "lockorder/lockorderlaw05.ResolveTexts", spec := "resolveTexts", inPlace := ["internal/bytealg.IndexByteString", "internal/bytealg.IndexString", "internal/abi.NoEscape", "internal/bytealg.MakeNoZero"], unfollowed := true, recurses := true, named := ["lockorder/token.words", "internal/bytealg.MaxLen", "lockorder/expr.signs", "internal/strconv.uint64pow10", "math/bits.deBruijn32tab", "math/bits.deBruijn64tab"], apart := false, laid := [("math/bits.deBruijn32tab", laid_math_bits_deBruijn32tab), ("math/bits.deBruijn64tab", laid_math_bits_deBruijn64tab), ("internal/strconv.uint64pow10", laid_internal_strconv_uint64pow10), ("lockorder/token.words", laid_lockorder_token_words), ("lockorder/expr.signs", laid_lockorder_expr_signs)], narrowed := true }
def ResolveTextsUptoSaid : Prop := resolveTextsUptoRow.holds Tryz.pinned (OpenSpec.upto resolveTextsSpec)

/-- 'lockorderlaw05.ResolveRename', WHERE WHAT IT READS IS OF BULK AT MOST 1048576: true; the input reads as it did. -/
def resolveRenameUptoRow : OpenClaim := { program := "ytojinfngbbajgaagreatdoor", sum := "3a3abac75a093d360fb190f08457c22165a914173ad662d55c8bdb49dd83857b", func := "lockorder/lockorderlaw05.ResolveRename", spec := "resolveRename", inPlace := ["internal/bytealg.IndexByteString", "internal/bytealg.IndexString", "internal/abi.NoEscape", "internal/bytealg.MakeNoZero"], unfollowed := true, recurses := true, named := ["lockorder/token.words", "internal/bytealg.MaxLen", "lockorder/expr.signs", "internal/strconv.uint64pow10", "math/bits.deBruijn32tab", "math/bits.deBruijn64tab"], apart := false, laid := [("math/bits.deBruijn32tab", laid_math_bits_deBruijn32tab), ("math/bits.deBruijn64tab", laid_math_bits_deBruijn64tab), ("internal/strconv.uint64pow10", laid_internal_strconv_uint64pow10), ("lockorder/token.words", laid_lockorder_token_words), ("lockorder/expr.signs", laid_lockorder_expr_signs)], narrowed := true }
def ResolveRenameUptoSaid : Prop := resolveRenameUptoRow.holds Tryz.pinned (OpenSpec.upto resolveRenameSpec)

/-- 'lockorderlaw05.ResolveFirst', WHERE WHAT IT READS IS OF BULK AT MOST 1048576: true; the input reads as it did. -/
def resolveFirstUptoRow : OpenClaim := { program := "ytojinfngbbajgaagreatdoor", sum := "3a3abac75a093d360fb190f08457c22165a914173ad662d55c8bdb49dd83857b", func := "lockorder/lockorderlaw05.ResolveFirst", spec := "resolveFirst", inPlace := ["internal/bytealg.IndexByteString", "internal/bytealg.IndexString", "internal/abi.NoEscape", "internal/bytealg.MakeNoZero"], unfollowed := true, recurses := true, named := ["lockorder/token.words", "internal/bytealg.MaxLen", "lockorder/expr.signs", "internal/strconv.uint64pow10", "math/bits.deBruijn32tab", "math/bits.deBruijn64tab"], apart := false, laid := [("math/bits.deBruijn32tab", laid_math_bits_deBruijn32tab), ("math/bits.deBruijn64tab", laid_math_bits_deBruijn64tab), ("internal/strconv.uint64pow10", laid_internal_strconv_uint64pow10), ("lockorder/token.words", laid_lockorder_token_words), ("lockorder/expr.signs", laid_lockorder_expr_signs)], narrowed := true }
def ResolveFirstUptoSaid : Prop := resolveFirstUptoRow.holds Tryz.pinned (OpenSpec.upto resolveFirstSpec)

end Rows
end Go.Proofs.YtojinfngbbajgaaGreatDoor
