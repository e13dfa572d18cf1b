/-
  NARROWER THAN 'FOR EVERY INPUT', by the rows' own cells (each row's printed sentence says how): ExprTokens: laid · ExprOperators: laid · ExprDeep: laid · ExprParse: laid · ExprHeight: laid · ExprParentheses: laid · ParseProgram: laid · ParseTokens: laid.
  DERIVED. THE GIVEN ROWS OF THIS SEAT. 8 by the template 'for every input the law returns true; each argument reads behind the call as it read before'; 0 by the template 'total and deterministic' (their statements: YtiimofjemiffgaaDoorTotals.lean).
  GIVEN WITH THE SEED: the statements are not yours to turn. If you find one false, say at which input.
  Laid BY PROGRAM, IN A SANDBOX (cutbox-rows.mjs): the forced cells as the released guide's own fill.sh prints them over the translation db75fdad5748e214… (all of the seat's roots in one cut). By AI agents, Wed Nov 11 2026. No macro, syntax, notation, axiom, sorry.
-/
import Derived.Test.YtiimofjemiffgaaDoorChecked
import GoSem.Claim
import GoSem.ClaimJoined
import GoSem.ClaimMapViews
import Derived.JoinedTies
import Derived.KernelRfl
namespace Go.Proofs.YtiimofjemiffgaaDoor
/- THE CELL 'sum', in the pinned program and in every row, IS THE sha256 OF THE DUMP (.gsa) THAT YtiimofjemiffgaaDoorProg.lean LOADS. Nothing in Lean hashes anything: it is a label: what it is worth is what the hold of that sum in a sandbox is worth. -/
noncomputable def Tryd.pinned : Pinned := { name := "ytiimofjemiffgaadoor", sum := "db75fdad5748e21426451d15da0457150b51f0154534142c8de4f90758255afe", checked := Tryd.checked }
namespace Rows
def none {H : Type} : Left H := { results := [], args := [] }

/- WHAT THE LISTED PACKAGE-LEVEL VARIABLES READ AS WHEN THE CALL BEGINS. Each datum BY PROGRAM (the guide's laid-datum.mjs) off the statement by which the dump's own 'gosem.cut.vars' lays the variable. In a bare row this is a premise. The card (YtiimofjemiffgaaDoorCards.lean) ties it to the program's text. -/
def laid_math_bits_deBruijn32tab {H : Type} : DataW H := .agg [.lit (.int .u8 0), .lit (.int .u8 1), .lit (.int .u8 28), .lit (.int .u8 2), .lit (.int .u8 29), .lit (.int .u8 14), .lit (.int .u8 24), .lit (.int .u8 3), .lit (.int .u8 30), .lit (.int .u8 22), .lit (.int .u8 20), .lit (.int .u8 15), .lit (.int .u8 25), .lit (.int .u8 17), .lit (.int .u8 4), .lit (.int .u8 8), .lit (.int .u8 31), .lit (.int .u8 27), .lit (.int .u8 13), .lit (.int .u8 23), .lit (.int .u8 21), .lit (.int .u8 19), .lit (.int .u8 16), .lit (.int .u8 7), .lit (.int .u8 26), .lit (.int .u8 12), .lit (.int .u8 18), .lit (.int .u8 6), .lit (.int .u8 11), .lit (.int .u8 5), .lit (.int .u8 10), .lit (.int .u8 9)]
def laid_math_bits_deBruijn64tab {H : Type} : DataW H := .agg [.lit (.int .u8 0), .lit (.int .u8 1), .lit (.int .u8 56), .lit (.int .u8 2), .lit (.int .u8 57), .lit (.int .u8 49), .lit (.int .u8 28), .lit (.int .u8 3), .lit (.int .u8 61), .lit (.int .u8 58), .lit (.int .u8 42), .lit (.int .u8 50), .lit (.int .u8 38), .lit (.int .u8 29), .lit (.int .u8 17), .lit (.int .u8 4), .lit (.int .u8 62), .lit (.int .u8 47), .lit (.int .u8 59), .lit (.int .u8 36), .lit (.int .u8 45), .lit (.int .u8 43), .lit (.int .u8 51), .lit (.int .u8 22), .lit (.int .u8 53), .lit (.int .u8 39), .lit (.int .u8 33), .lit (.int .u8 30), .lit (.int .u8 24), .lit (.int .u8 18), .lit (.int .u8 12), .lit (.int .u8 5), .lit (.int .u8 63), .lit (.int .u8 55), .lit (.int .u8 48), .lit (.int .u8 27), .lit (.int .u8 60), .lit (.int .u8 41), .lit (.int .u8 37), .lit (.int .u8 16), .lit (.int .u8 46), .lit (.int .u8 35), .lit (.int .u8 44), .lit (.int .u8 21), .lit (.int .u8 52), .lit (.int .u8 32), .lit (.int .u8 23), .lit (.int .u8 11), .lit (.int .u8 54), .lit (.int .u8 26), .lit (.int .u8 40), .lit (.int .u8 15), .lit (.int .u8 34), .lit (.int .u8 20), .lit (.int .u8 31), .lit (.int .u8 10), .lit (.int .u8 25), .lit (.int .u8 14), .lit (.int .u8 19), .lit (.int .u8 9), .lit (.int .u8 13), .lit (.int .u8 8), .lit (.int .u8 7), .lit (.int .u8 6)]
def laid_internal_strconv_uint64pow10 {H : Type} : DataW H := .agg [.lit (.int .u64 1), .lit (.int .u64 10), .lit (.int .u64 100), .lit (.int .u64 1000), .lit (.int .u64 10000), .lit (.int .u64 100000), .lit (.int .u64 1000000), .lit (.int .u64 10000000), .lit (.int .u64 100000000), .lit (.int .u64 1000000000), .lit (.int .u64 10000000000), .lit (.int .u64 100000000000), .lit (.int .u64 1000000000000), .lit (.int .u64 10000000000000), .lit (.int .u64 100000000000000), .lit (.int .u64 1000000000000000), .lit (.int .u64 10000000000000000), .lit (.int .u64 100000000000000000), .lit (.int .u64 1000000000000000000), .lit (.int .u64 10000000000000000000)]
def laid_lockorder_token_words {H : Type} : DataW H := .agg [.lit (.string [118, 97, 114]), .lit (.string [109, 117, 116, 101, 120]), .lit (.string [114, 109, 117, 116, 101, 120]), .lit (.string [102, 117, 110, 99]), .lit (.string [108, 111, 99, 107]), .lit (.string [117, 110, 108, 111, 99, 107]), .lit (.string [103, 111]), .lit (.string [105, 102]), .lit (.string [101, 108, 115, 101]), .lit (.string [119, 104, 105, 108, 101]), .lit (.string [114, 101, 116, 117, 114, 110])]
def laid_lockorder_expr_signs {H : Type} : DataW H := .agg [.lit (.string []), .lit (.string []), .lit (.string []), .lit (.string [45]), .lit (.string [33]), .lit (.string [42]), .lit (.string [47]), .lit (.string [37]), .lit (.string [43]), .lit (.string [45]), .lit (.string [60]), .lit (.string [60, 61]), .lit (.string [62]), .lit (.string [62, 61]), .lit (.string [61, 61]), .lit (.string [33, 61]), .lit (.string [38, 38]), .lit (.string [124, 124])]

/-- 'lockorderlaw02.ExprTokens': WHATEVER THE INPUT: true; the input reads as it did. -/
def exprTokensSpec : ChangeSpec := { name := "exprTokens", fn := fun _ => fun
  | [d1, d2, d3, d4] => { results := [.lit (.bool true)], args := [d1, d2, d3, d4] }
  | _ => none }
def exprTokensRow : OpenClaim := { program := "ytiimofjemiffgaadoor", sum := "db75fdad5748e21426451d15da0457150b51f0154534142c8de4f90758255afe", func := "lockorder/lockorderlaw02.ExprTokens", spec := "exprTokens", inPlace := ["internal/bytealg.IndexByteString", "internal/bytealg.IndexString"], unfollowed := true, recurses := true, named := ["lockorder/expr.signs", "lockorder/token.words", "internal/bytealg.MaxLen", "internal/strconv.uint64pow10", "math/bits.deBruijn32tab", "math/bits.deBruijn64tab"], apart := false, laid := [("math/bits.deBruijn32tab", laid_math_bits_deBruijn32tab), ("math/bits.deBruijn64tab", laid_math_bits_deBruijn64tab), ("internal/strconv.uint64pow10", laid_internal_strconv_uint64pow10), ("lockorder/token.words", laid_lockorder_token_words), ("lockorder/expr.signs", laid_lockorder_expr_signs)] }
def ExprTokensSaid : Prop := exprTokensRow.holds Tryd.pinned (OpenSpec.ofChange exprTokensSpec)

/-- ITS FALSE NEIGHBOUR: 'it returns false'. Refute it at one input. -/
def exprTokensWrong : ChangeSpec := { name := "exprTokens", fn := fun _ => fun
  | [d1, d2, d3, d4] => { results := [.lit (.bool false)], args := [d1, d2, d3, d4] }
  | _ => none }
def ExprTokensWrongFalsely : Prop := exprTokensRow.holds Tryd.pinned (OpenSpec.ofChange exprTokensWrong)

/-- 'lockorderlaw02.ExprOperators': WHATEVER THE INPUT: true; the input reads as it did. -/
def exprOperatorsSpec : ChangeSpec := { name := "exprOperators", fn := fun _ => fun
  | [d1, d2] => { results := [.lit (.bool true)], args := [d1, d2] }
  | _ => none }
def exprOperatorsRow : OpenClaim := { program := "ytiimofjemiffgaadoor", sum := "db75fdad5748e21426451d15da0457150b51f0154534142c8de4f90758255afe", func := "lockorder/lockorderlaw02.ExprOperators", spec := "exprOperators", inPlace := ["internal/bytealg.IndexByteString", "internal/bytealg.IndexString"], unfollowed := true, recurses := true, named := ["lockorder/expr.signs", "lockorder/token.words", "internal/bytealg.MaxLen", "internal/strconv.uint64pow10", "math/bits.deBruijn32tab", "math/bits.deBruijn64tab"], apart := false, laid := [("math/bits.deBruijn32tab", laid_math_bits_deBruijn32tab), ("math/bits.deBruijn64tab", laid_math_bits_deBruijn64tab), ("internal/strconv.uint64pow10", laid_internal_strconv_uint64pow10), ("lockorder/token.words", laid_lockorder_token_words), ("lockorder/expr.signs", laid_lockorder_expr_signs)] }
def ExprOperatorsSaid : Prop := exprOperatorsRow.holds Tryd.pinned (OpenSpec.ofChange exprOperatorsSpec)

/-- ITS FALSE NEIGHBOUR: 'it returns false'. Refute it at one input. -/
def exprOperatorsWrong : ChangeSpec := { name := "exprOperators", fn := fun _ => fun
  | [d1, d2] => { results := [.lit (.bool false)], args := [d1, d2] }
  | _ => none }
def ExprOperatorsWrongFalsely : Prop := exprOperatorsRow.holds Tryd.pinned (OpenSpec.ofChange exprOperatorsWrong)

/-- 'lockorderlaw02.ExprDeep': WHATEVER THE INPUT: true; the input reads as it did. -/
def exprDeepSpec : ChangeSpec := { name := "exprDeep", fn := fun _ => fun
  | [d1, d2] => { results := [.lit (.bool true)], args := [d1, d2] }
  | _ => none }
def exprDeepRow : OpenClaim := { program := "ytiimofjemiffgaadoor", sum := "db75fdad5748e21426451d15da0457150b51f0154534142c8de4f90758255afe", func := "lockorder/lockorderlaw02.ExprDeep", spec := "exprDeep", inPlace := ["internal/bytealg.IndexByteString", "internal/bytealg.IndexString"], unfollowed := true, recurses := true, named := ["lockorder/expr.signs", "lockorder/token.words", "internal/bytealg.MaxLen", "internal/strconv.uint64pow10", "math/bits.deBruijn32tab", "math/bits.deBruijn64tab"], apart := false, laid := [("math/bits.deBruijn32tab", laid_math_bits_deBruijn32tab), ("math/bits.deBruijn64tab", laid_math_bits_deBruijn64tab), ("internal/strconv.uint64pow10", laid_internal_strconv_uint64pow10), ("lockorder/token.words", laid_lockorder_token_words), ("lockorder/expr.signs", laid_lockorder_expr_signs)] }
def ExprDeepSaid : Prop := exprDeepRow.holds Tryd.pinned (OpenSpec.ofChange exprDeepSpec)

/-- ITS FALSE NEIGHBOUR: 'it returns false'. Refute it at one input. -/
def exprDeepWrong : ChangeSpec := { name := "exprDeep", fn := fun _ => fun
  | [d1, d2] => { results := [.lit (.bool false)], args := [d1, d2] }
  | _ => none }
def ExprDeepWrongFalsely : Prop := exprDeepRow.holds Tryd.pinned (OpenSpec.ofChange exprDeepWrong)

/-- 'lockorderlaw02.ExprParse': WHATEVER THE INPUT: true; the input reads as it did. -/
def exprParseSpec : ChangeSpec := { name := "exprParse", fn := fun _ => fun
  | [d1, d2, d3] => { results := [.lit (.bool true)], args := [d1, d2, d3] }
  | _ => none }
def exprParseRow : OpenClaim := { program := "ytiimofjemiffgaadoor", sum := "db75fdad5748e21426451d15da0457150b51f0154534142c8de4f90758255afe", func := "lockorder/lockorderlaw02.ExprParse", spec := "exprParse", inPlace := ["internal/bytealg.IndexByteString", "internal/bytealg.IndexString"], unfollowed := true, recurses := true, named := ["lockorder/expr.signs", "lockorder/token.words", "internal/bytealg.MaxLen", "internal/strconv.uint64pow10", "math/bits.deBruijn32tab", "math/bits.deBruijn64tab"], apart := false, laid := [("math/bits.deBruijn32tab", laid_math_bits_deBruijn32tab), ("math/bits.deBruijn64tab", laid_math_bits_deBruijn64tab), ("internal/strconv.uint64pow10", laid_internal_strconv_uint64pow10), ("lockorder/token.words", laid_lockorder_token_words), ("lockorder/expr.signs", laid_lockorder_expr_signs)] }
def ExprParseSaid : Prop := exprParseRow.holds Tryd.pinned (OpenSpec.ofChange exprParseSpec)

/-- ITS FALSE NEIGHBOUR: 'it returns false'. Refute it at one input. -/
def exprParseWrong : ChangeSpec := { name := "exprParse", fn := fun _ => fun
  | [d1, d2, d3] => { results := [.lit (.bool false)], args := [d1, d2, d3] }
  | _ => none }
def ExprParseWrongFalsely : Prop := exprParseRow.holds Tryd.pinned (OpenSpec.ofChange exprParseWrong)

/-- 'lockorderlaw02.ExprHeight': WHATEVER THE INPUT: true; the input reads as it did. -/
def exprHeightSpec : ChangeSpec := { name := "exprHeight", fn := fun _ => fun
  | [d1, d2] => { results := [.lit (.bool true)], args := [d1, d2] }
  | _ => none }
def exprHeightRow : OpenClaim := { program := "ytiimofjemiffgaadoor", sum := "db75fdad5748e21426451d15da0457150b51f0154534142c8de4f90758255afe", func := "lockorder/lockorderlaw02.ExprHeight", spec := "exprHeight", inPlace := ["internal/bytealg.IndexByteString", "internal/bytealg.IndexString"], unfollowed := true, recurses := true, named := ["lockorder/expr.signs", "lockorder/token.words", "internal/bytealg.MaxLen", "internal/strconv.uint64pow10", "math/bits.deBruijn32tab", "math/bits.deBruijn64tab"], apart := false, laid := [("math/bits.deBruijn32tab", laid_math_bits_deBruijn32tab), ("math/bits.deBruijn64tab", laid_math_bits_deBruijn64tab), ("internal/strconv.uint64pow10", laid_internal_strconv_uint64pow10), ("lockorder/token.words", laid_lockorder_token_words), ("lockorder/expr.signs", laid_lockorder_expr_signs)] }
def ExprHeightSaid : Prop := exprHeightRow.holds Tryd.pinned (OpenSpec.ofChange exprHeightSpec)

/-- ITS FALSE NEIGHBOUR: 'it returns false'. Refute it at one input. -/
def exprHeightWrong : ChangeSpec := { name := "exprHeight", fn := fun _ => fun
  | [d1, d2] => { results := [.lit (.bool false)], args := [d1, d2] }
  | _ => none }
def ExprHeightWrongFalsely : Prop := exprHeightRow.holds Tryd.pinned (OpenSpec.ofChange exprHeightWrong)

/-- 'lockorderlaw02.ExprParentheses': WHATEVER THE INPUT: true; the input reads as it did. -/
def exprParenthesesSpec : ChangeSpec := { name := "exprParentheses", fn := fun _ => fun
  | [d] => { results := [.lit (.bool true)], args := [d] }
  | _ => none }
def exprParenthesesRow : OpenClaim := { program := "ytiimofjemiffgaadoor", sum := "db75fdad5748e21426451d15da0457150b51f0154534142c8de4f90758255afe", func := "lockorder/lockorderlaw02.ExprParentheses", spec := "exprParentheses", inPlace := ["internal/bytealg.IndexByteString", "internal/bytealg.IndexString"], unfollowed := true, recurses := true, named := ["lockorder/expr.signs", "lockorder/token.words", "internal/bytealg.MaxLen", "internal/strconv.uint64pow10", "math/bits.deBruijn32tab", "math/bits.deBruijn64tab"], apart := false, laid := [("math/bits.deBruijn32tab", laid_math_bits_deBruijn32tab), ("math/bits.deBruijn64tab", laid_math_bits_deBruijn64tab), ("internal/strconv.uint64pow10", laid_internal_strconv_uint64pow10), ("lockorder/token.words", laid_lockorder_token_words), ("lockorder/expr.signs", laid_lockorder_expr_signs)] }
def ExprParenthesesSaid : Prop := exprParenthesesRow.holds Tryd.pinned (OpenSpec.ofChange exprParenthesesSpec)

/-- ITS FALSE NEIGHBOUR: 'it returns false'. Refute it at one input. -/
def exprParenthesesWrong : ChangeSpec := { name := "exprParentheses", fn := fun _ => fun
  | [d] => { results := [.lit (.bool false)], args := [d] }
  | _ => none }
def ExprParenthesesWrongFalsely : Prop := exprParenthesesRow.holds Tryd.pinned (OpenSpec.ofChange exprParenthesesWrong)

/-- 'lockorderlaw03.ParseProgram': WHATEVER THE INPUT: true; the input reads as it did. -/
def parseProgramSpec : ChangeSpec := { name := "parseProgram", fn := fun _ => fun
  | [d] => { results := [.lit (.bool true)], args := [d] }
  | _ => none }
def parseProgramRow : OpenClaim := { program := "ytiimofjemiffgaadoor", sum := "db75fdad5748e21426451d15da0457150b51f0154534142c8de4f90758255afe", func := "lockorder/lockorderlaw03.ParseProgram", spec := "parseProgram", inPlace := ["internal/bytealg.IndexByteString", "internal/bytealg.IndexString"], unfollowed := true, recurses := true, named := ["lockorder/token.words", "internal/bytealg.MaxLen"], apart := false, laid := [("lockorder/token.words", laid_lockorder_token_words)] }
def ParseProgramSaid : Prop := parseProgramRow.holds Tryd.pinned (OpenSpec.ofChange parseProgramSpec)

/-- ITS FALSE NEIGHBOUR: 'it returns false'. Refute it at one input. -/
def parseProgramWrong : ChangeSpec := { name := "parseProgram", fn := fun _ => fun
  | [d] => { results := [.lit (.bool false)], args := [d] }
  | _ => none }
def ParseProgramWrongFalsely : Prop := parseProgramRow.holds Tryd.pinned (OpenSpec.ofChange parseProgramWrong)

/-- 'lockorderlaw03.ParseTokens': WHATEVER THE INPUT: true; the input reads as it did. -/
def parseTokensSpec : ChangeSpec := { name := "parseTokens", fn := fun _ => fun
  | [d] => { results := [.lit (.bool true)], args := [d] }
  | _ => none }
def parseTokensRow : OpenClaim := { program := "ytiimofjemiffgaadoor", sum := "db75fdad5748e21426451d15da0457150b51f0154534142c8de4f90758255afe", func := "lockorder/lockorderlaw03.ParseTokens", spec := "parseTokens", inPlace := ["internal/bytealg.IndexByteString", "internal/bytealg.IndexString"], unfollowed := true, recurses := true, named := ["lockorder/token.words", "internal/bytealg.MaxLen"], apart := false, laid := [("lockorder/token.words", laid_lockorder_token_words)] }
def ParseTokensSaid : Prop := parseTokensRow.holds Tryd.pinned (OpenSpec.ofChange parseTokensSpec)

/-- ITS FALSE NEIGHBOUR: 'it returns false'. Refute it at one input. -/
def parseTokensWrong : ChangeSpec := { name := "parseTokens", fn := fun _ => fun
  | [d] => { results := [.lit (.bool false)], args := [d] }
  | _ => none }
def ParseTokensWrongFalsely : Prop := parseTokensRow.holds Tryd.pinned (OpenSpec.ofChange parseTokensWrong)

/- THE SECOND FORM. 'bulk': how many values and letters a reading holds, each counted each time it is reached (what is shared counts as often as it is met; a slice's spare places count too). A statement '..UptoSaid' is the law's where the arguments, and the package variables that the reading takes, are together of bulk at most 1048576: NARROWER than '..Said'. Prove '..Said' where nothing that the law and all that it calls make is longer than what came in: it says more and counts as full. Else prove '..UptoSaid'. A law counts once. -/
mutual
def uptoBulk {H : Type} : DataW H → Nat
  | .lit (.string bytes) => bytes.length + 1
  | .lit _ => 1
  | .nil => 1
  | .ptr d => uptoBulk d + 1
  | .slice elems spare => uptoBulkAll elems + uptoBulkAll spare + 1
  | .agg parts => uptoBulkAll parts + 1
  | .iface _ d => uptoBulk d + 1
  | .map entries => uptoBulkEntries entries + 1
  | .held _ => 1
def uptoBulkAll {H : Type} : List (DataW H) → Nat
  | [] => 0
  | d :: r => uptoBulk d + uptoBulkAll r
def uptoBulkEntries {H : Type} : List (Lit × DataW H) → Nat
  | [] => 0
  | x :: r => uptoBulkEntry x + uptoBulkEntries r
def uptoBulkEntry {H : Type} : Lit × DataW H → Nat
  | (.string bytes, d) => bytes.length + uptoBulk d + 1
  | (_, d) => uptoBulk d + 1
 end
def uptoSmall : (H : Type) → List (DataW H) → Bool := fun _ ds => decide (uptoBulkAll ds ≤ 1048576)
def OpenSpec.upto (s : _root_.Go.ChangeSpec) : _root_.Go.OpenSpec := { _root_.Go.OpenSpec.ofChange s with cond := some uptoSmall }

/-- 'lockorderlaw02.ExprTokens', WHERE WHAT IT READS IS OF BULK AT MOST 1048576: true; the input reads as it did. -/
def exprTokensUptoRow : OpenClaim := { program := "ytiimofjemiffgaadoor", sum := "db75fdad5748e21426451d15da0457150b51f0154534142c8de4f90758255afe", func := "lockorder/lockorderlaw02.ExprTokens", spec := "exprTokens", inPlace := ["internal/bytealg.IndexByteString", "internal/bytealg.IndexString"], unfollowed := true, recurses := true, named := ["lockorder/expr.signs", "lockorder/token.words", "internal/bytealg.MaxLen", "internal/strconv.uint64pow10", "math/bits.deBruijn32tab", "math/bits.deBruijn64tab"], apart := false, laid := [("math/bits.deBruijn32tab", laid_math_bits_deBruijn32tab), ("math/bits.deBruijn64tab", laid_math_bits_deBruijn64tab), ("internal/strconv.uint64pow10", laid_internal_strconv_uint64pow10), ("lockorder/token.words", laid_lockorder_token_words), ("lockorder/expr.signs", laid_lockorder_expr_signs)], narrowed := true }
def ExprTokensUptoSaid : Prop := exprTokensUptoRow.holds Tryd.pinned (OpenSpec.upto exprTokensSpec)

/-- 'lockorderlaw02.ExprOperators', WHERE WHAT IT READS IS OF BULK AT MOST 1048576: true; the input reads as it did. -/
def exprOperatorsUptoRow : OpenClaim := { program := "ytiimofjemiffgaadoor", sum := "db75fdad5748e21426451d15da0457150b51f0154534142c8de4f90758255afe", func := "lockorder/lockorderlaw02.ExprOperators", spec := "exprOperators", inPlace := ["internal/bytealg.IndexByteString", "internal/bytealg.IndexString"], unfollowed := true, recurses := true, named := ["lockorder/expr.signs", "lockorder/token.words", "internal/bytealg.MaxLen", "internal/strconv.uint64pow10", "math/bits.deBruijn32tab", "math/bits.deBruijn64tab"], apart := false, laid := [("math/bits.deBruijn32tab", laid_math_bits_deBruijn32tab), ("math/bits.deBruijn64tab", laid_math_bits_deBruijn64tab), ("internal/strconv.uint64pow10", laid_internal_strconv_uint64pow10), ("lockorder/token.words", laid_lockorder_token_words), ("lockorder/expr.signs", laid_lockorder_expr_signs)], narrowed := true }
def ExprOperatorsUptoSaid : Prop := exprOperatorsUptoRow.holds Tryd.pinned (OpenSpec.upto exprOperatorsSpec)

/-- 'lockorderlaw02.ExprDeep', WHERE WHAT IT READS IS OF BULK AT MOST 1048576: true; the input reads as it did. -/
def exprDeepUptoRow : OpenClaim := { program := "ytiimofjemiffgaadoor", sum := "db75fdad5748e21426451d15da0457150b51f0154534142c8de4f90758255afe", func := "lockorder/lockorderlaw02.ExprDeep", spec := "exprDeep", inPlace := ["internal/bytealg.IndexByteString", "internal/bytealg.IndexString"], unfollowed := true, recurses := true, named := ["lockorder/expr.signs", "lockorder/token.words", "internal/bytealg.MaxLen", "internal/strconv.uint64pow10", "math/bits.deBruijn32tab", "math/bits.deBruijn64tab"], apart := false, laid := [("math/bits.deBruijn32tab", laid_math_bits_deBruijn32tab), ("math/bits.deBruijn64tab", laid_math_bits_deBruijn64tab), ("internal/strconv.uint64pow10", laid_internal_strconv_uint64pow10), ("lockorder/token.words", laid_lockorder_token_words), ("lockorder/expr.signs", laid_lockorder_expr_signs)], narrowed := true }
def ExprDeepUptoSaid : Prop := exprDeepUptoRow.holds Tryd.pinned (OpenSpec.upto exprDeepSpec)

/-- 'lockorderlaw02.ExprParse', WHERE WHAT IT READS IS OF BULK AT MOST 1048576: true; the input reads as it did. -/
def exprParseUptoRow : OpenClaim := { program := "ytiimofjemiffgaadoor", sum := "db75fdad5748e21426451d15da0457150b51f0154534142c8de4f90758255afe", func := "lockorder/lockorderlaw02.ExprParse", spec := "exprParse", inPlace := ["internal/bytealg.IndexByteString", "internal/bytealg.IndexString"], unfollowed := true, recurses := true, named := ["lockorder/expr.signs", "lockorder/token.words", "internal/bytealg.MaxLen", "internal/strconv.uint64pow10", "math/bits.deBruijn32tab", "math/bits.deBruijn64tab"], apart := false, laid := [("math/bits.deBruijn32tab", laid_math_bits_deBruijn32tab), ("math/bits.deBruijn64tab", laid_math_bits_deBruijn64tab), ("internal/strconv.uint64pow10", laid_internal_strconv_uint64pow10), ("lockorder/token.words", laid_lockorder_token_words), ("lockorder/expr.signs", laid_lockorder_expr_signs)], narrowed := true }
def ExprParseUptoSaid : Prop := exprParseUptoRow.holds Tryd.pinned (OpenSpec.upto exprParseSpec)

/-- 'lockorderlaw02.ExprHeight', WHERE WHAT IT READS IS OF BULK AT MOST 1048576: true; the input reads as it did. -/
def exprHeightUptoRow : OpenClaim := { program := "ytiimofjemiffgaadoor", sum := "db75fdad5748e21426451d15da0457150b51f0154534142c8de4f90758255afe", func := "lockorder/lockorderlaw02.ExprHeight", spec := "exprHeight", inPlace := ["internal/bytealg.IndexByteString", "internal/bytealg.IndexString"], unfollowed := true, recurses := true, named := ["lockorder/expr.signs", "lockorder/token.words", "internal/bytealg.MaxLen", "internal/strconv.uint64pow10", "math/bits.deBruijn32tab", "math/bits.deBruijn64tab"], apart := false, laid := [("math/bits.deBruijn32tab", laid_math_bits_deBruijn32tab), ("math/bits.deBruijn64tab", laid_math_bits_deBruijn64tab), ("internal/strconv.uint64pow10", laid_internal_strconv_uint64pow10), ("lockorder/token.words", laid_lockorder_token_words), ("lockorder/expr.signs", laid_lockorder_expr_signs)], narrowed := true }
def ExprHeightUptoSaid : Prop := exprHeightUptoRow.holds Tryd.pinned (OpenSpec.upto exprHeightSpec)

/-- 'lockorderlaw02.ExprParentheses', WHERE WHAT IT READS IS OF BULK AT MOST 1048576: true; the input reads as it did. -/
def exprParenthesesUptoRow : OpenClaim := { program := "ytiimofjemiffgaadoor", sum := "db75fdad5748e21426451d15da0457150b51f0154534142c8de4f90758255afe", func := "lockorder/lockorderlaw02.ExprParentheses", spec := "exprParentheses", inPlace := ["internal/bytealg.IndexByteString", "internal/bytealg.IndexString"], unfollowed := true, recurses := true, named := ["lockorder/expr.signs", "lockorder/token.words", "internal/bytealg.MaxLen", "internal/strconv.uint64pow10", "math/bits.deBruijn32tab", "math/bits.deBruijn64tab"], apart := false, laid := [("math/bits.deBruijn32tab", laid_math_bits_deBruijn32tab), ("math/bits.deBruijn64tab", laid_math_bits_deBruijn64tab), ("internal/strconv.uint64pow10", laid_internal_strconv_uint64pow10), ("lockorder/token.words", laid_lockorder_token_words), ("lockorder/expr.signs", laid_lockorder_expr_signs)], narrowed := true }
def ExprParenthesesUptoSaid : Prop := exprParenthesesUptoRow.holds Tryd.pinned (OpenSpec.upto exprParenthesesSpec)

/-- 'lockorderlaw03.ParseProgram', WHERE WHAT IT READS IS OF BULK AT MOST 1048576: true; the input reads as it did. -/
def parseProgramUptoRow : OpenClaim := { program := "ytiimofjemiffgaadoor", sum := "db75fdad5748e21426451d15da0457150b51f0154534142c8de4f90758255afe", func := "lockorder/lockorderlaw03.ParseProgram", spec := "parseProgram", inPlace := ["internal/bytealg.IndexByteString", "internal/bytealg.IndexString"], unfollowed := true, recurses := true, named := ["lockorder/token.words", "internal/bytealg.MaxLen"], apart := false, laid := [("lockorder/token.words", laid_lockorder_token_words)], narrowed := true }
def ParseProgramUptoSaid : Prop := parseProgramUptoRow.holds Tryd.pinned (OpenSpec.upto parseProgramSpec)

/-- 'lockorderlaw03.ParseTokens', WHERE WHAT IT READS IS OF BULK AT MOST 1048576: true; the input reads as it did. -/
def parseTokensUptoRow : OpenClaim := { program := "ytiimofjemiffgaadoor", sum := "db75fdad5748e21426451d15da0457150b51f0154534142c8de4f90758255afe", func := "lockorder/lockorderlaw03.ParseTokens", spec := "parseTokens", inPlace := ["internal/bytealg.IndexByteString", "internal/bytealg.IndexString"], unfollowed := true, recurses := true, named := ["lockorder/token.words", "internal/bytealg.MaxLen"], apart := false, laid := [("lockorder/token.words", laid_lockorder_token_words)], narrowed := true }
def ParseTokensUptoSaid : Prop := parseTokensUptoRow.holds Tryd.pinned (OpenSpec.upto parseTokensSpec)

end Rows
end Go.Proofs.YtiimofjemiffgaaDoor
