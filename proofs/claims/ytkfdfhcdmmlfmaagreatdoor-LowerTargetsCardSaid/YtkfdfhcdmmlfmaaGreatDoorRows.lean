/-
  NARROWER THAN 'FOR EVERY INPUT', by the rows' own cells (each row's printed sentence says how): ResolveRename: laid · LowerCode: laid · LowerChanged: loops, laid · LowerSites: laid · LowerTargets: laid · LowerRename: laid · LowerSize: laid · ReportPlace: laid · ReportLine: laid · ReportFormat: laid · ReportRejected: laid · ReportLines: laid.
  DERIVED. THE GIVEN ROWS OF THIS SEAT. 12 by the template 'for every input the law returns true; each argument reads behind the call as it read before'; 0 by the template 'total and deterministic' (their statements: YtkfdfhcdmmlfmaaGreatDoorTotals.lean).
  GIVEN WITH THE SEED: the statements are not yours to turn. If you find one false, say at which input.
  Laid BY PROGRAM, IN A SANDBOX (cutbox-rows.mjs): the forced cells as the released guide's own fill.sh prints them over the translation a85d1816a3663777… (all of the seat's roots in one cut). By AI agents, Wed Nov 11 2026. No macro, syntax, notation, axiom, sorry.
-/
import Derived.Test.YtkfdfhcdmmlfmaaGreatDoorChecked
import GoSem.Claim
import GoSem.ClaimJoined
import GoSem.ClaimMapViews
import Derived.JoinedTies
import Derived.KernelRfl
namespace Go.Proofs.YtkfdfhcdmmlfmaaGreatDoor
/- THE CELL 'sum', in the pinned program and in every row, IS THE sha256 OF THE DUMP (.gsa) THAT YtkfdfhcdmmlfmaaGreatDoorProg.lean LOADS. Nothing in Lean hashes anything: it is a label: what it is worth is what the hold of that sum in a sandbox is worth. -/
noncomputable def Tryz.pinned : Pinned := { name := "ytkfdfhcdmmlfmaagreatdoor", sum := "a85d1816a36637773cfaa1fea4fdf9de3f2561bbae5bb3cd399acf136c12c4f6", checked := Tryz.checked }
namespace Rows
def none {H : Type} : Left H := { results := [], args := [] }

/- WHAT THE LISTED PACKAGE-LEVEL VARIABLES READ AS WHEN THE CALL BEGINS. Each datum BY PROGRAM (the guide's laid-datum.mjs) off the statement by which the dump's own 'gosem.cut.vars' lays the variable. In a bare row this is a premise. The card (YtkfdfhcdmmlfmaaGreatDoorCards.lean) ties it to the program's text. -/
def laid_math_bits_deBruijn32tab {H : Type} : DataW H := .agg [.lit (.int .u8 0), .lit (.int .u8 1), .lit (.int .u8 28), .lit (.int .u8 2), .lit (.int .u8 29), .lit (.int .u8 14), .lit (.int .u8 24), .lit (.int .u8 3), .lit (.int .u8 30), .lit (.int .u8 22), .lit (.int .u8 20), .lit (.int .u8 15), .lit (.int .u8 25), .lit (.int .u8 17), .lit (.int .u8 4), .lit (.int .u8 8), .lit (.int .u8 31), .lit (.int .u8 27), .lit (.int .u8 13), .lit (.int .u8 23), .lit (.int .u8 21), .lit (.int .u8 19), .lit (.int .u8 16), .lit (.int .u8 7), .lit (.int .u8 26), .lit (.int .u8 12), .lit (.int .u8 18), .lit (.int .u8 6), .lit (.int .u8 11), .lit (.int .u8 5), .lit (.int .u8 10), .lit (.int .u8 9)]
def laid_math_bits_deBruijn64tab {H : Type} : DataW H := .agg [.lit (.int .u8 0), .lit (.int .u8 1), .lit (.int .u8 56), .lit (.int .u8 2), .lit (.int .u8 57), .lit (.int .u8 49), .lit (.int .u8 28), .lit (.int .u8 3), .lit (.int .u8 61), .lit (.int .u8 58), .lit (.int .u8 42), .lit (.int .u8 50), .lit (.int .u8 38), .lit (.int .u8 29), .lit (.int .u8 17), .lit (.int .u8 4), .lit (.int .u8 62), .lit (.int .u8 47), .lit (.int .u8 59), .lit (.int .u8 36), .lit (.int .u8 45), .lit (.int .u8 43), .lit (.int .u8 51), .lit (.int .u8 22), .lit (.int .u8 53), .lit (.int .u8 39), .lit (.int .u8 33), .lit (.int .u8 30), .lit (.int .u8 24), .lit (.int .u8 18), .lit (.int .u8 12), .lit (.int .u8 5), .lit (.int .u8 63), .lit (.int .u8 55), .lit (.int .u8 48), .lit (.int .u8 27), .lit (.int .u8 60), .lit (.int .u8 41), .lit (.int .u8 37), .lit (.int .u8 16), .lit (.int .u8 46), .lit (.int .u8 35), .lit (.int .u8 44), .lit (.int .u8 21), .lit (.int .u8 52), .lit (.int .u8 32), .lit (.int .u8 23), .lit (.int .u8 11), .lit (.int .u8 54), .lit (.int .u8 26), .lit (.int .u8 40), .lit (.int .u8 15), .lit (.int .u8 34), .lit (.int .u8 20), .lit (.int .u8 31), .lit (.int .u8 10), .lit (.int .u8 25), .lit (.int .u8 14), .lit (.int .u8 19), .lit (.int .u8 9), .lit (.int .u8 13), .lit (.int .u8 8), .lit (.int .u8 7), .lit (.int .u8 6)]
def laid_internal_strconv_uint64pow10 {H : Type} : DataW H := .agg [.lit (.int .u64 1), .lit (.int .u64 10), .lit (.int .u64 100), .lit (.int .u64 1000), .lit (.int .u64 10000), .lit (.int .u64 100000), .lit (.int .u64 1000000), .lit (.int .u64 10000000), .lit (.int .u64 100000000), .lit (.int .u64 1000000000), .lit (.int .u64 10000000000), .lit (.int .u64 100000000000), .lit (.int .u64 1000000000000), .lit (.int .u64 10000000000000), .lit (.int .u64 100000000000000), .lit (.int .u64 1000000000000000), .lit (.int .u64 10000000000000000), .lit (.int .u64 100000000000000000), .lit (.int .u64 1000000000000000000), .lit (.int .u64 10000000000000000000)]
def laid_lockorder_token_words {H : Type} : DataW H := .agg [.lit (.string [118, 97, 114]), .lit (.string [109, 117, 116, 101, 120]), .lit (.string [114, 109, 117, 116, 101, 120]), .lit (.string [102, 117, 110, 99]), .lit (.string [108, 111, 99, 107]), .lit (.string [117, 110, 108, 111, 99, 107]), .lit (.string [103, 111]), .lit (.string [105, 102]), .lit (.string [101, 108, 115, 101]), .lit (.string [119, 104, 105, 108, 101]), .lit (.string [114, 101, 116, 117, 114, 110])]
def laid_lockorder_expr_signs {H : Type} : DataW H := .agg [.lit (.string []), .lit (.string []), .lit (.string []), .lit (.string [45]), .lit (.string [33]), .lit (.string [42]), .lit (.string [47]), .lit (.string [37]), .lit (.string [43]), .lit (.string [45]), .lit (.string [60]), .lit (.string [60, 61]), .lit (.string [62]), .lit (.string [62, 61]), .lit (.string [61, 61]), .lit (.string [33, 61]), .lit (.string [38, 38]), .lit (.string [124, 124])]

/-- 'lockorderlaw05.ResolveRename': WHATEVER THE INPUT: true; the input reads as it did. -/
def resolveRenameSpec : ChangeSpec := { name := "resolveRename", fn := fun _ => fun
  | [d1, d2, d3, d4, d5, d6] => { results := [.lit (.bool true)], args := [d1, d2, d3, d4, d5, d6] }
  | _ => none }
def resolveRenameRow : OpenClaim := { program := "ytkfdfhcdmmlfmaagreatdoor", sum := "a85d1816a36637773cfaa1fea4fdf9de3f2561bbae5bb3cd399acf136c12c4f6", func := "lockorder/lockorderlaw05.ResolveRename", spec := "resolveRename", inPlace := ["internal/bytealg.IndexByteString", "internal/bytealg.IndexString", "internal/abi.NoEscape", "internal/bytealg.MakeNoZero"], unfollowed := true, recurses := true, named := ["lockorder/token.words", "internal/bytealg.MaxLen", "lockorder/expr.signs", "internal/strconv.uint64pow10", "math/bits.deBruijn32tab", "math/bits.deBruijn64tab"], apart := false, laid := [("math/bits.deBruijn32tab", laid_math_bits_deBruijn32tab), ("math/bits.deBruijn64tab", laid_math_bits_deBruijn64tab), ("internal/strconv.uint64pow10", laid_internal_strconv_uint64pow10), ("lockorder/token.words", laid_lockorder_token_words), ("lockorder/expr.signs", laid_lockorder_expr_signs)] }
def ResolveRenameSaid : Prop := resolveRenameRow.holds Tryz.pinned (OpenSpec.ofChange resolveRenameSpec)

/-- ITS FALSE NEIGHBOUR: 'it returns false'. Refute it at one input. -/
def resolveRenameWrong : ChangeSpec := { name := "resolveRename", fn := fun _ => fun
  | [d1, d2, d3, d4, d5, d6] => { results := [.lit (.bool false)], args := [d1, d2, d3, d4, d5, d6] }
  | _ => none }
def ResolveRenameWrongFalsely : Prop := resolveRenameRow.holds Tryz.pinned (OpenSpec.ofChange resolveRenameWrong)

/-- 'lockorderlaw06.LowerCode': WHATEVER THE INPUT: true; the input reads as it did. -/
def lowerCodeSpec : ChangeSpec := { name := "lowerCode", fn := fun _ => fun
  | [d] => { results := [.lit (.bool true)], args := [d] }
  | _ => none }
def lowerCodeRow : OpenClaim := { program := "ytkfdfhcdmmlfmaagreatdoor", sum := "a85d1816a36637773cfaa1fea4fdf9de3f2561bbae5bb3cd399acf136c12c4f6", func := "lockorder/lockorderlaw06.LowerCode", spec := "lowerCode", inPlace := ["internal/bytealg.IndexByteString", "internal/bytealg.IndexString", "internal/abi.NoEscape", "internal/bytealg.MakeNoZero"], unfollowed := true, recurses := true, named := ["lockorder/token.words", "internal/bytealg.MaxLen", "lockorder/expr.signs", "internal/strconv.uint64pow10", "math/bits.deBruijn32tab", "math/bits.deBruijn64tab"], apart := false, laid := [("math/bits.deBruijn32tab", laid_math_bits_deBruijn32tab), ("math/bits.deBruijn64tab", laid_math_bits_deBruijn64tab), ("internal/strconv.uint64pow10", laid_internal_strconv_uint64pow10), ("lockorder/token.words", laid_lockorder_token_words), ("lockorder/expr.signs", laid_lockorder_expr_signs)] }
def LowerCodeSaid : Prop := lowerCodeRow.holds Tryz.pinned (OpenSpec.ofChange lowerCodeSpec)

/-- ITS FALSE NEIGHBOUR: 'it returns false'. Refute it at one input. -/
def lowerCodeWrong : ChangeSpec := { name := "lowerCode", fn := fun _ => fun
  | [d] => { results := [.lit (.bool false)], args := [d] }
  | _ => none }
def LowerCodeWrongFalsely : Prop := lowerCodeRow.holds Tryz.pinned (OpenSpec.ofChange lowerCodeWrong)

/-- 'lockorderlaw06.LowerChanged': WHATEVER THE INPUT: true; the input reads as it did. -/
def lowerChangedSpec : ChangeSpec := { name := "lowerChanged", fn := fun _ => fun
  | [d1, d2, d3, d4, d5, d6, d7, d8, d9, d10, d11] => { results := [.lit (.bool true)], args := [d1, d2, d3, d4, d5, d6, d7, d8, d9, d10, d11] }
  | _ => none }
def lowerChangedRow : OpenClaim := { program := "ytkfdfhcdmmlfmaagreatdoor", sum := "a85d1816a36637773cfaa1fea4fdf9de3f2561bbae5bb3cd399acf136c12c4f6", func := "lockorder/lockorderlaw06.LowerChanged", spec := "lowerChanged", inPlace := ["internal/bytealg.IndexByteString", "internal/bytealg.IndexString", "internal/abi.NoEscape", "internal/bytealg.MakeNoZero"], unfollowed := true, recurses := true, named := ["lockorder/token.words", "internal/bytealg.MaxLen", "lockorder/expr.signs", "internal/strconv.uint64pow10", "math/bits.deBruijn32tab", "math/bits.deBruijn64tab"], loops := true, apart := false, laid := [("math/bits.deBruijn32tab", laid_math_bits_deBruijn32tab), ("math/bits.deBruijn64tab", laid_math_bits_deBruijn64tab), ("internal/strconv.uint64pow10", laid_internal_strconv_uint64pow10), ("lockorder/token.words", laid_lockorder_token_words), ("lockorder/expr.signs", laid_lockorder_expr_signs)] }
def LowerChangedSaid : Prop := lowerChangedRow.holds Tryz.pinned (OpenSpec.ofChange lowerChangedSpec)

/-- ITS FALSE NEIGHBOUR: 'it returns false'. Refute it at one input. -/
def lowerChangedWrong : ChangeSpec := { name := "lowerChanged", fn := fun _ => fun
  | [d1, d2, d3, d4, d5, d6, d7, d8, d9, d10, d11] => { results := [.lit (.bool false)], args := [d1, d2, d3, d4, d5, d6, d7, d8, d9, d10, d11] }
  | _ => none }
def LowerChangedWrongFalsely : Prop := lowerChangedRow.holds Tryz.pinned (OpenSpec.ofChange lowerChangedWrong)

/-- 'lockorderlaw06.LowerSites': WHATEVER THE INPUT: true; the input reads as it did. -/
def lowerSitesSpec : ChangeSpec := { name := "lowerSites", fn := fun _ => fun
  | [d1, d2, d3, d4, d5, d6] => { results := [.lit (.bool true)], args := [d1, d2, d3, d4, d5, d6] }
  | _ => none }
def lowerSitesRow : OpenClaim := { program := "ytkfdfhcdmmlfmaagreatdoor", sum := "a85d1816a36637773cfaa1fea4fdf9de3f2561bbae5bb3cd399acf136c12c4f6", func := "lockorder/lockorderlaw06.LowerSites", spec := "lowerSites", inPlace := ["internal/bytealg.IndexByteString", "internal/bytealg.IndexString", "internal/abi.NoEscape", "internal/bytealg.MakeNoZero"], unfollowed := true, recurses := true, named := ["lockorder/token.words", "internal/bytealg.MaxLen", "lockorder/expr.signs", "internal/strconv.uint64pow10", "math/bits.deBruijn32tab", "math/bits.deBruijn64tab"], apart := false, laid := [("math/bits.deBruijn32tab", laid_math_bits_deBruijn32tab), ("math/bits.deBruijn64tab", laid_math_bits_deBruijn64tab), ("internal/strconv.uint64pow10", laid_internal_strconv_uint64pow10), ("lockorder/token.words", laid_lockorder_token_words), ("lockorder/expr.signs", laid_lockorder_expr_signs)] }
def LowerSitesSaid : Prop := lowerSitesRow.holds Tryz.pinned (OpenSpec.ofChange lowerSitesSpec)

/-- ITS FALSE NEIGHBOUR: 'it returns false'. Refute it at one input. -/
def lowerSitesWrong : ChangeSpec := { name := "lowerSites", fn := fun _ => fun
  | [d1, d2, d3, d4, d5, d6] => { results := [.lit (.bool false)], args := [d1, d2, d3, d4, d5, d6] }
  | _ => none }
def LowerSitesWrongFalsely : Prop := lowerSitesRow.holds Tryz.pinned (OpenSpec.ofChange lowerSitesWrong)

/-- 'lockorderlaw06.LowerTargets': WHATEVER THE INPUT: true; the input reads as it did. -/
def lowerTargetsSpec : ChangeSpec := { name := "lowerTargets", fn := fun _ => fun
  | [d] => { results := [.lit (.bool true)], args := [d] }
  | _ => none }
def lowerTargetsRow : OpenClaim := { program := "ytkfdfhcdmmlfmaagreatdoor", sum := "a85d1816a36637773cfaa1fea4fdf9de3f2561bbae5bb3cd399acf136c12c4f6", func := "lockorder/lockorderlaw06.LowerTargets", spec := "lowerTargets", inPlace := ["internal/bytealg.IndexByteString", "internal/bytealg.IndexString", "internal/abi.NoEscape", "internal/bytealg.MakeNoZero"], unfollowed := true, recurses := true, named := ["lockorder/token.words", "internal/bytealg.MaxLen", "lockorder/expr.signs", "internal/strconv.uint64pow10", "math/bits.deBruijn32tab", "math/bits.deBruijn64tab"], apart := false, laid := [("math/bits.deBruijn32tab", laid_math_bits_deBruijn32tab), ("math/bits.deBruijn64tab", laid_math_bits_deBruijn64tab), ("internal/strconv.uint64pow10", laid_internal_strconv_uint64pow10), ("lockorder/token.words", laid_lockorder_token_words), ("lockorder/expr.signs", laid_lockorder_expr_signs)] }
def LowerTargetsSaid : Prop := lowerTargetsRow.holds Tryz.pinned (OpenSpec.ofChange lowerTargetsSpec)

/-- ITS FALSE NEIGHBOUR: 'it returns false'. Refute it at one input. -/
def lowerTargetsWrong : ChangeSpec := { name := "lowerTargets", fn := fun _ => fun
  | [d] => { results := [.lit (.bool false)], args := [d] }
  | _ => none }
def LowerTargetsWrongFalsely : Prop := lowerTargetsRow.holds Tryz.pinned (OpenSpec.ofChange lowerTargetsWrong)

/-- 'lockorderlaw06.LowerRename': WHATEVER THE INPUT: true; the input reads as it did. -/
def lowerRenameSpec : ChangeSpec := { name := "lowerRename", fn := fun _ => fun
  | [d1, d2] => { results := [.lit (.bool true)], args := [d1, d2] }
  | _ => none }
def lowerRenameRow : OpenClaim := { program := "ytkfdfhcdmmlfmaagreatdoor", sum := "a85d1816a36637773cfaa1fea4fdf9de3f2561bbae5bb3cd399acf136c12c4f6", func := "lockorder/lockorderlaw06.LowerRename", spec := "lowerRename", inPlace := ["internal/bytealg.IndexByteString", "internal/bytealg.IndexString", "internal/abi.NoEscape", "internal/bytealg.MakeNoZero"], unfollowed := true, recurses := true, named := ["lockorder/token.words", "internal/bytealg.MaxLen", "lockorder/expr.signs", "internal/strconv.uint64pow10", "math/bits.deBruijn32tab", "math/bits.deBruijn64tab"], apart := false, laid := [("math/bits.deBruijn32tab", laid_math_bits_deBruijn32tab), ("math/bits.deBruijn64tab", laid_math_bits_deBruijn64tab), ("internal/strconv.uint64pow10", laid_internal_strconv_uint64pow10), ("lockorder/token.words", laid_lockorder_token_words), ("lockorder/expr.signs", laid_lockorder_expr_signs)] }
def LowerRenameSaid : Prop := lowerRenameRow.holds Tryz.pinned (OpenSpec.ofChange lowerRenameSpec)

/-- ITS FALSE NEIGHBOUR: 'it returns false'. Refute it at one input. -/
def lowerRenameWrong : ChangeSpec := { name := "lowerRename", fn := fun _ => fun
  | [d1, d2] => { results := [.lit (.bool false)], args := [d1, d2] }
  | _ => none }
def LowerRenameWrongFalsely : Prop := lowerRenameRow.holds Tryz.pinned (OpenSpec.ofChange lowerRenameWrong)

/-- 'lockorderlaw06.LowerSize': WHATEVER THE INPUT: true; the input reads as it did. -/
def lowerSizeSpec : ChangeSpec := { name := "lowerSize", fn := fun _ => fun
  | [d1, d2] => { results := [.lit (.bool true)], args := [d1, d2] }
  | _ => none }
def lowerSizeRow : OpenClaim := { program := "ytkfdfhcdmmlfmaagreatdoor", sum := "a85d1816a36637773cfaa1fea4fdf9de3f2561bbae5bb3cd399acf136c12c4f6", func := "lockorder/lockorderlaw06.LowerSize", spec := "lowerSize", inPlace := ["internal/bytealg.IndexByteString", "internal/bytealg.IndexString", "internal/abi.NoEscape", "internal/bytealg.MakeNoZero"], unfollowed := true, recurses := true, named := ["lockorder/token.words", "internal/bytealg.MaxLen", "lockorder/expr.signs", "internal/strconv.uint64pow10", "math/bits.deBruijn32tab", "math/bits.deBruijn64tab"], apart := false, laid := [("math/bits.deBruijn32tab", laid_math_bits_deBruijn32tab), ("math/bits.deBruijn64tab", laid_math_bits_deBruijn64tab), ("internal/strconv.uint64pow10", laid_internal_strconv_uint64pow10), ("lockorder/token.words", laid_lockorder_token_words), ("lockorder/expr.signs", laid_lockorder_expr_signs)] }
def LowerSizeSaid : Prop := lowerSizeRow.holds Tryz.pinned (OpenSpec.ofChange lowerSizeSpec)

/-- ITS FALSE NEIGHBOUR: 'it returns false'. Refute it at one input. -/
def lowerSizeWrong : ChangeSpec := { name := "lowerSize", fn := fun _ => fun
  | [d1, d2] => { results := [.lit (.bool false)], args := [d1, d2] }
  | _ => none }
def LowerSizeWrongFalsely : Prop := lowerSizeRow.holds Tryz.pinned (OpenSpec.ofChange lowerSizeWrong)

/-- 'lockorderlaw30.ReportPlace': WHATEVER THE INPUT: true; the input reads as it did. -/
def reportPlaceSpec : ChangeSpec := { name := "reportPlace", fn := fun _ => fun
  | [d1, d2, d3, d4] => { results := [.lit (.bool true)], args := [d1, d2, d3, d4] }
  | _ => none }
def reportPlaceRow : OpenClaim := { program := "ytkfdfhcdmmlfmaagreatdoor", sum := "a85d1816a36637773cfaa1fea4fdf9de3f2561bbae5bb3cd399acf136c12c4f6", func := "lockorder/lockorderlaw30.ReportPlace", spec := "reportPlace", inPlace := ["internal/abi.NoEscape", "internal/bytealg.IndexByteString", "internal/bytealg.IndexString", "internal/bytealg.MakeNoZero"], unfollowed := true, recurses := true, named := ["lockorder/token.words", "internal/bytealg.MaxLen", "lockorder/expr.signs", "internal/strconv.uint64pow10", "math/bits.deBruijn32tab", "math/bits.deBruijn64tab"], apart := false, laid := [("math/bits.deBruijn32tab", laid_math_bits_deBruijn32tab), ("math/bits.deBruijn64tab", laid_math_bits_deBruijn64tab), ("internal/strconv.uint64pow10", laid_internal_strconv_uint64pow10), ("lockorder/token.words", laid_lockorder_token_words), ("lockorder/expr.signs", laid_lockorder_expr_signs)] }
def ReportPlaceSaid : Prop := reportPlaceRow.holds Tryz.pinned (OpenSpec.ofChange reportPlaceSpec)

/-- ITS FALSE NEIGHBOUR: 'it returns false'. Refute it at one input. -/
def reportPlaceWrong : ChangeSpec := { name := "reportPlace", fn := fun _ => fun
  | [d1, d2, d3, d4] => { results := [.lit (.bool false)], args := [d1, d2, d3, d4] }
  | _ => none }
def ReportPlaceWrongFalsely : Prop := reportPlaceRow.holds Tryz.pinned (OpenSpec.ofChange reportPlaceWrong)

/-- 'lockorderlaw30.ReportLine': WHATEVER THE INPUT: true; the input reads as it did. -/
def reportLineSpec : ChangeSpec := { name := "reportLine", fn := fun _ => fun
  | [d] => { results := [.lit (.bool true)], args := [d] }
  | _ => none }
def reportLineRow : OpenClaim := { program := "ytkfdfhcdmmlfmaagreatdoor", sum := "a85d1816a36637773cfaa1fea4fdf9de3f2561bbae5bb3cd399acf136c12c4f6", func := "lockorder/lockorderlaw30.ReportLine", spec := "reportLine", inPlace := ["internal/abi.NoEscape", "internal/bytealg.IndexByteString", "internal/bytealg.IndexString", "internal/bytealg.MakeNoZero"], unfollowed := true, recurses := true, named := ["lockorder/token.words", "internal/bytealg.MaxLen", "lockorder/expr.signs", "internal/strconv.uint64pow10", "math/bits.deBruijn32tab", "math/bits.deBruijn64tab"], apart := false, laid := [("math/bits.deBruijn32tab", laid_math_bits_deBruijn32tab), ("math/bits.deBruijn64tab", laid_math_bits_deBruijn64tab), ("internal/strconv.uint64pow10", laid_internal_strconv_uint64pow10), ("lockorder/token.words", laid_lockorder_token_words), ("lockorder/expr.signs", laid_lockorder_expr_signs)] }
def ReportLineSaid : Prop := reportLineRow.holds Tryz.pinned (OpenSpec.ofChange reportLineSpec)

/-- ITS FALSE NEIGHBOUR: 'it returns false'. Refute it at one input. -/
def reportLineWrong : ChangeSpec := { name := "reportLine", fn := fun _ => fun
  | [d] => { results := [.lit (.bool false)], args := [d] }
  | _ => none }
def ReportLineWrongFalsely : Prop := reportLineRow.holds Tryz.pinned (OpenSpec.ofChange reportLineWrong)

/-- 'lockorderlaw30.ReportFormat': WHATEVER THE INPUT: true; the input reads as it did. -/
def reportFormatSpec : ChangeSpec := { name := "reportFormat", fn := fun _ => fun
  | [d1, d2, d3, d4, d5, d6, d7] => { results := [.lit (.bool true)], args := [d1, d2, d3, d4, d5, d6, d7] }
  | _ => none }
def reportFormatRow : OpenClaim := { program := "ytkfdfhcdmmlfmaagreatdoor", sum := "a85d1816a36637773cfaa1fea4fdf9de3f2561bbae5bb3cd399acf136c12c4f6", func := "lockorder/lockorderlaw30.ReportFormat", spec := "reportFormat", inPlace := ["internal/abi.NoEscape", "internal/bytealg.IndexByteString", "internal/bytealg.IndexString", "internal/bytealg.MakeNoZero"], unfollowed := true, recurses := true, named := ["internal/strconv.uint64pow10", "math/bits.deBruijn32tab", "math/bits.deBruijn64tab", "lockorder/token.words", "internal/bytealg.MaxLen", "lockorder/expr.signs"], apart := false, laid := [("math/bits.deBruijn32tab", laid_math_bits_deBruijn32tab), ("math/bits.deBruijn64tab", laid_math_bits_deBruijn64tab), ("internal/strconv.uint64pow10", laid_internal_strconv_uint64pow10), ("lockorder/token.words", laid_lockorder_token_words), ("lockorder/expr.signs", laid_lockorder_expr_signs)] }
def ReportFormatSaid : Prop := reportFormatRow.holds Tryz.pinned (OpenSpec.ofChange reportFormatSpec)

/-- ITS FALSE NEIGHBOUR: 'it returns false'. Refute it at one input. -/
def reportFormatWrong : ChangeSpec := { name := "reportFormat", fn := fun _ => fun
  | [d1, d2, d3, d4, d5, d6, d7] => { results := [.lit (.bool false)], args := [d1, d2, d3, d4, d5, d6, d7] }
  | _ => none }
def ReportFormatWrongFalsely : Prop := reportFormatRow.holds Tryz.pinned (OpenSpec.ofChange reportFormatWrong)

/-- 'lockorderlaw30.ReportRejected': WHATEVER THE INPUT: true; the input reads as it did. -/
def reportRejectedSpec : ChangeSpec := { name := "reportRejected", fn := fun _ => fun
  | [d1, d2, d3, d4, d5] => { results := [.lit (.bool true)], args := [d1, d2, d3, d4, d5] }
  | _ => none }
def reportRejectedRow : OpenClaim := { program := "ytkfdfhcdmmlfmaagreatdoor", sum := "a85d1816a36637773cfaa1fea4fdf9de3f2561bbae5bb3cd399acf136c12c4f6", func := "lockorder/lockorderlaw30.ReportRejected", spec := "reportRejected", inPlace := ["internal/abi.NoEscape", "internal/bytealg.IndexByteString", "internal/bytealg.IndexString", "internal/bytealg.MakeNoZero"], unfollowed := true, recurses := true, named := ["internal/strconv.uint64pow10", "math/bits.deBruijn32tab", "math/bits.deBruijn64tab", "lockorder/token.words", "internal/bytealg.MaxLen", "lockorder/expr.signs"], apart := false, laid := [("math/bits.deBruijn32tab", laid_math_bits_deBruijn32tab), ("math/bits.deBruijn64tab", laid_math_bits_deBruijn64tab), ("internal/strconv.uint64pow10", laid_internal_strconv_uint64pow10), ("lockorder/token.words", laid_lockorder_token_words), ("lockorder/expr.signs", laid_lockorder_expr_signs)] }
def ReportRejectedSaid : Prop := reportRejectedRow.holds Tryz.pinned (OpenSpec.ofChange reportRejectedSpec)

/-- ITS FALSE NEIGHBOUR: 'it returns false'. Refute it at one input. -/
def reportRejectedWrong : ChangeSpec := { name := "reportRejected", fn := fun _ => fun
  | [d1, d2, d3, d4, d5] => { results := [.lit (.bool false)], args := [d1, d2, d3, d4, d5] }
  | _ => none }
def ReportRejectedWrongFalsely : Prop := reportRejectedRow.holds Tryz.pinned (OpenSpec.ofChange reportRejectedWrong)

/-- 'lockorderlaw30.ReportLines': WHATEVER THE INPUT: true; the input reads as it did. -/
def reportLinesSpec : ChangeSpec := { name := "reportLines", fn := fun _ => fun
  | [d1, d2, d3] => { results := [.lit (.bool true)], args := [d1, d2, d3] }
  | _ => none }
def reportLinesRow : OpenClaim := { program := "ytkfdfhcdmmlfmaagreatdoor", sum := "a85d1816a36637773cfaa1fea4fdf9de3f2561bbae5bb3cd399acf136c12c4f6", func := "lockorder/lockorderlaw30.ReportLines", spec := "reportLines", inPlace := ["internal/abi.NoEscape", "internal/bytealg.IndexByteString", "internal/bytealg.IndexString", "internal/bytealg.MakeNoZero"], unfollowed := true, recurses := true, named := ["internal/strconv.uint64pow10", "math/bits.deBruijn32tab", "math/bits.deBruijn64tab", "lockorder/token.words", "internal/bytealg.MaxLen", "lockorder/expr.signs"], apart := false, laid := [("math/bits.deBruijn32tab", laid_math_bits_deBruijn32tab), ("math/bits.deBruijn64tab", laid_math_bits_deBruijn64tab), ("internal/strconv.uint64pow10", laid_internal_strconv_uint64pow10), ("lockorder/token.words", laid_lockorder_token_words), ("lockorder/expr.signs", laid_lockorder_expr_signs)] }
def ReportLinesSaid : Prop := reportLinesRow.holds Tryz.pinned (OpenSpec.ofChange reportLinesSpec)

/-- ITS FALSE NEIGHBOUR: 'it returns false'. Refute it at one input. -/
def reportLinesWrong : ChangeSpec := { name := "reportLines", fn := fun _ => fun
  | [d1, d2, d3] => { results := [.lit (.bool false)], args := [d1, d2, d3] }
  | _ => none }
def ReportLinesWrongFalsely : Prop := reportLinesRow.holds Tryz.pinned (OpenSpec.ofChange reportLinesWrong)

/- THE SECOND FORM. 'bulk': how many values and letters a reading holds, each counted each time it is reached (what is shared counts as often as it is met; a slice's spare places count too). A statement '..UptoSaid' is the law's where the arguments, and the package variables that the reading takes, are together of bulk at most 1048576: NARROWER than '..Said'. Prove '..Said' where nothing that the law and all that it calls make is longer than what came in: it says more and counts as full. Else prove '..UptoSaid'. A law counts once. -/
mutual
def uptoBulk {H : Type} : DataW H → Nat
  | .lit (.string bytes) => bytes.length + 1
  | .lit _ => 1
  | .nil => 1
  | .ptr d => uptoBulk d + 1
  | .slice elems spare => uptoBulkAll elems + uptoBulkAll spare + 1
  | .agg parts => uptoBulkAll parts + 1
  | .iface _ d => uptoBulk d + 1
  | .map entries => uptoBulkEntries entries + 1
  | .held _ => 1
def uptoBulkAll {H : Type} : List (DataW H) → Nat
  | [] => 0
  | d :: r => uptoBulk d + uptoBulkAll r
def uptoBulkEntries {H : Type} : List (Lit × DataW H) → Nat
  | [] => 0
  | x :: r => uptoBulkEntry x + uptoBulkEntries r
def uptoBulkEntry {H : Type} : Lit × DataW H → Nat
  | (.string bytes, d) => bytes.length + uptoBulk d + 1
  | (_, d) => uptoBulk d + 1
 end
def uptoSmall : (H : Type) → List (DataW H) → Bool := fun _ ds => decide (uptoBulkAll ds ≤ 1048576)
def OpenSpec.upto (s : _root_.Go.ChangeSpec) : _root_.Go.OpenSpec := { _root_.Go.OpenSpec.ofChange s with cond := some uptoSmall }

/-- 'lockorderlaw05.ResolveRename', WHERE WHAT IT READS IS OF BULK AT MOST 1048576: true; the input reads as it did. -/
def resolveRenameUptoRow : OpenClaim := { program := "ytkfdfhcdmmlfmaagreatdoor", sum := "a85d1816a36637773cfaa1fea4fdf9de3f2561bbae5bb3cd399acf136c12c4f6", func := "lockorder/lockorderlaw05.ResolveRename", spec := "resolveRename", inPlace := ["internal/bytealg.IndexByteString", "internal/bytealg.IndexString", "internal/abi.NoEscape", "internal/bytealg.MakeNoZero"], unfollowed := true, recurses := true, named := ["lockorder/token.words", "internal/bytealg.MaxLen", "lockorder/expr.signs", "internal/strconv.uint64pow10", "math/bits.deBruijn32tab", "math/bits.deBruijn64tab"], apart := false, laid := [("math/bits.deBruijn32tab", laid_math_bits_deBruijn32tab), ("math/bits.deBruijn64tab", laid_math_bits_deBruijn64tab), ("internal/strconv.uint64pow10", laid_internal_strconv_uint64pow10), ("lockorder/token.words", laid_lockorder_token_words), ("lockorder/expr.signs", laid_lockorder_expr_signs)], narrowed := true }
def ResolveRenameUptoSaid : Prop := resolveRenameUptoRow.holds Tryz.pinned (OpenSpec.upto resolveRenameSpec)

/-- 'lockorderlaw06.LowerCode', WHERE WHAT IT READS IS OF BULK AT MOST 1048576: true; the input reads as it did. -/
def lowerCodeUptoRow : OpenClaim := { program := "ytkfdfhcdmmlfmaagreatdoor", sum := "a85d1816a36637773cfaa1fea4fdf9de3f2561bbae5bb3cd399acf136c12c4f6", func := "lockorder/lockorderlaw06.LowerCode", spec := "lowerCode", inPlace := ["internal/bytealg.IndexByteString", "internal/bytealg.IndexString", "internal/abi.NoEscape", "internal/bytealg.MakeNoZero"], unfollowed := true, recurses := true, named := ["lockorder/token.words", "internal/bytealg.MaxLen", "lockorder/expr.signs", "internal/strconv.uint64pow10", "math/bits.deBruijn32tab", "math/bits.deBruijn64tab"], apart := false, laid := [("math/bits.deBruijn32tab", laid_math_bits_deBruijn32tab), ("math/bits.deBruijn64tab", laid_math_bits_deBruijn64tab), ("internal/strconv.uint64pow10", laid_internal_strconv_uint64pow10), ("lockorder/token.words", laid_lockorder_token_words), ("lockorder/expr.signs", laid_lockorder_expr_signs)], narrowed := true }
def LowerCodeUptoSaid : Prop := lowerCodeUptoRow.holds Tryz.pinned (OpenSpec.upto lowerCodeSpec)

/-- 'lockorderlaw06.LowerChanged', WHERE WHAT IT READS IS OF BULK AT MOST 1048576: true; the input reads as it did. -/
def lowerChangedUptoRow : OpenClaim := { program := "ytkfdfhcdmmlfmaagreatdoor", sum := "a85d1816a36637773cfaa1fea4fdf9de3f2561bbae5bb3cd399acf136c12c4f6", func := "lockorder/lockorderlaw06.LowerChanged", spec := "lowerChanged", inPlace := ["internal/bytealg.IndexByteString", "internal/bytealg.IndexString", "internal/abi.NoEscape", "internal/bytealg.MakeNoZero"], unfollowed := true, recurses := true, named := ["lockorder/token.words", "internal/bytealg.MaxLen", "lockorder/expr.signs", "internal/strconv.uint64pow10", "math/bits.deBruijn32tab", "math/bits.deBruijn64tab"], loops := true, apart := false, laid := [("math/bits.deBruijn32tab", laid_math_bits_deBruijn32tab), ("math/bits.deBruijn64tab", laid_math_bits_deBruijn64tab), ("internal/strconv.uint64pow10", laid_internal_strconv_uint64pow10), ("lockorder/token.words", laid_lockorder_token_words), ("lockorder/expr.signs", laid_lockorder_expr_signs)], narrowed := true }
def LowerChangedUptoSaid : Prop := lowerChangedUptoRow.holds Tryz.pinned (OpenSpec.upto lowerChangedSpec)

/-- 'lockorderlaw06.LowerSites', WHERE WHAT IT READS IS OF BULK AT MOST 1048576: true; the input reads as it did. -/
def lowerSitesUptoRow : OpenClaim := { program := "ytkfdfhcdmmlfmaagreatdoor", sum := "a85d1816a36637773cfaa1fea4fdf9de3f2561bbae5bb3cd399acf136c12c4f6", func := "lockorder/lockorderlaw06.LowerSites", spec := "lowerSites", inPlace := ["internal/bytealg.IndexByteString", "internal/bytealg.IndexString", "internal/abi.NoEscape", "internal/bytealg.MakeNoZero"], unfollowed := true, recurses := true, named := ["lockorder/token.words", "internal/bytealg.MaxLen", "lockorder/expr.signs", "internal/strconv.uint64pow10", "math/bits.deBruijn32tab", "math/bits.deBruijn64tab"], apart := false, laid := [("math/bits.deBruijn32tab", laid_math_bits_deBruijn32tab), ("math/bits.deBruijn64tab", laid_math_bits_deBruijn64tab), ("internal/strconv.uint64pow10", laid_internal_strconv_uint64pow10), ("lockorder/token.words", laid_lockorder_token_words), ("lockorder/expr.signs", laid_lockorder_expr_signs)], narrowed := true }
def LowerSitesUptoSaid : Prop := lowerSitesUptoRow.holds Tryz.pinned (OpenSpec.upto lowerSitesSpec)

/-- 'lockorderlaw06.LowerTargets', WHERE WHAT IT READS IS OF BULK AT MOST 1048576: true; the input reads as it did. -/
def lowerTargetsUptoRow : OpenClaim := { program := "ytkfdfhcdmmlfmaagreatdoor", sum := "a85d1816a36637773cfaa1fea4fdf9de3f2561bbae5bb3cd399acf136c12c4f6", func := "lockorder/lockorderlaw06.LowerTargets", spec := "lowerTargets", inPlace := ["internal/bytealg.IndexByteString", "internal/bytealg.IndexString", "internal/abi.NoEscape", "internal/bytealg.MakeNoZero"], unfollowed := true, recurses := true, named := ["lockorder/token.words", "internal/bytealg.MaxLen", "lockorder/expr.signs", "internal/strconv.uint64pow10", "math/bits.deBruijn32tab", "math/bits.deBruijn64tab"], apart := false, laid := [("math/bits.deBruijn32tab", laid_math_bits_deBruijn32tab), ("math/bits.deBruijn64tab", laid_math_bits_deBruijn64tab), ("internal/strconv.uint64pow10", laid_internal_strconv_uint64pow10), ("lockorder/token.words", laid_lockorder_token_words), ("lockorder/expr.signs", laid_lockorder_expr_signs)], narrowed := true }
def LowerTargetsUptoSaid : Prop := lowerTargetsUptoRow.holds Tryz.pinned (OpenSpec.upto lowerTargetsSpec)

/-- 'lockorderlaw06.LowerRename', WHERE WHAT IT READS IS OF BULK AT MOST 1048576: true; the input reads as it did. -/
def lowerRenameUptoRow : OpenClaim := { program := "ytkfdfhcdmmlfmaagreatdoor", sum := "a85d1816a36637773cfaa1fea4fdf9de3f2561bbae5bb3cd399acf136c12c4f6", func := "lockorder/lockorderlaw06.LowerRename", spec := "lowerRename", inPlace := ["internal/bytealg.IndexByteString", "internal/bytealg.IndexString", "internal/abi.NoEscape", "internal/bytealg.MakeNoZero"], unfollowed := true, recurses := true, named := ["lockorder/token.words", "internal/bytealg.MaxLen", "lockorder/expr.signs", "internal/strconv.uint64pow10", "math/bits.deBruijn32tab", "math/bits.deBruijn64tab"], apart := false, laid := [("math/bits.deBruijn32tab", laid_math_bits_deBruijn32tab), ("math/bits.deBruijn64tab", laid_math_bits_deBruijn64tab), ("internal/strconv.uint64pow10", laid_internal_strconv_uint64pow10), ("lockorder/token.words", laid_lockorder_token_words), ("lockorder/expr.signs", laid_lockorder_expr_signs)], narrowed := true }
def LowerRenameUptoSaid : Prop := lowerRenameUptoRow.holds Tryz.pinned (OpenSpec.upto lowerRenameSpec)

/-- 'lockorderlaw06.LowerSize', WHERE WHAT IT READS IS OF BULK AT MOST 1048576: true; the input reads as it did. -/
def lowerSizeUptoRow : OpenClaim := { program := "ytkfdfhcdmmlfmaagreatdoor", sum := "a85d1816a36637773cfaa1fea4fdf9de3f2561bbae5bb3cd399acf136c12c4f6", func := "lockorder/lockorderlaw06.LowerSize", spec := "lowerSize", inPlace := ["internal/bytealg.IndexByteString", "internal/bytealg.IndexString", "internal/abi.NoEscape", "internal/bytealg.MakeNoZero"], unfollowed := true, recurses := true, named := ["lockorder/token.words", "internal/bytealg.MaxLen", "lockorder/expr.signs", "internal/strconv.uint64pow10", "math/bits.deBruijn32tab", "math/bits.deBruijn64tab"], apart := false, laid := [("math/bits.deBruijn32tab", laid_math_bits_deBruijn32tab), ("math/bits.deBruijn64tab", laid_math_bits_deBruijn64tab), ("internal/strconv.uint64pow10", laid_internal_strconv_uint64pow10), ("lockorder/token.words", laid_lockorder_token_words), ("lockorder/expr.signs", laid_lockorder_expr_signs)], narrowed := true }
def LowerSizeUptoSaid : Prop := lowerSizeUptoRow.holds Tryz.pinned (OpenSpec.upto lowerSizeSpec)

/-- 'lockorderlaw30.ReportPlace', WHERE WHAT IT READS IS OF BULK AT MOST 1048576: true; the input reads as it did. -/
def reportPlaceUptoRow : OpenClaim := { program := "ytkfdfhcdmmlfmaagreatdoor", sum := "a85d1816a36637773cfaa1fea4fdf9de3f2561bbae5bb3cd399acf136c12c4f6", func := "lockorder/lockorderlaw30.ReportPlace", spec := "reportPlace", inPlace := ["internal/abi.NoEscape", "internal/bytealg.IndexByteString", "internal/bytealg.IndexString", "internal/bytealg.MakeNoZero"], unfollowed := true, recurses := true, named := ["lockorder/token.words", "internal/bytealg.MaxLen", "lockorder/expr.signs", "internal/strconv.uint64pow10", "math/bits.deBruijn32tab", "math/bits.deBruijn64tab"], apart := false, laid := [("math/bits.deBruijn32tab", laid_math_bits_deBruijn32tab), ("math/bits.deBruijn64tab", laid_math_bits_deBruijn64tab), ("internal/strconv.uint64pow10", laid_internal_strconv_uint64pow10), ("lockorder/token.words", laid_lockorder_token_words), ("lockorder/expr.signs", laid_lockorder_expr_signs)], narrowed := true }
def ReportPlaceUptoSaid : Prop := reportPlaceUptoRow.holds Tryz.pinned (OpenSpec.upto reportPlaceSpec)

/-- 'lockorderlaw30.ReportLine', WHERE WHAT IT READS IS OF BULK AT MOST 1048576: true; the input reads as it did. -/
def reportLineUptoRow : OpenClaim := { program := "ytkfdfhcdmmlfmaagreatdoor", sum := "a85d1816a36637773cfaa1fea4fdf9de3f2561bbae5bb3cd399acf136c12c4f6", func := "lockorder/lockorderlaw30.ReportLine", spec := "reportLine", inPlace := ["internal/abi.NoEscape", "internal/bytealg.IndexByteString", "internal/bytealg.IndexString", "internal/bytealg.MakeNoZero"], unfollowed := true, recurses := true, named := ["lockorder/token.words", "internal/bytealg.MaxLen", "lockorder/expr.signs", "internal/strconv.uint64pow10", "math/bits.deBruijn32tab", "math/bits.deBruijn64tab"], apart := false, laid := [("math/bits.deBruijn32tab", laid_math_bits_deBruijn32tab), ("math/bits.deBruijn64tab", laid_math_bits_deBruijn64tab), ("internal/strconv.uint64pow10", laid_internal_strconv_uint64pow10), ("lockorder/token.words", laid_lockorder_token_words), ("lockorder/expr.signs", laid_lockorder_expr_signs)], narrowed := true }
def ReportLineUptoSaid : Prop := reportLineUptoRow.holds Tryz.pinned (OpenSpec.upto reportLineSpec)

/-- 'lockorderlaw30.ReportFormat', WHERE WHAT IT READS IS OF BULK AT MOST 1048576: true; the input reads as it did. -/
def reportFormatUptoRow : OpenClaim := { program := "ytkfdfhcdmmlfmaagreatdoor", sum := "a85d1816a36637773cfaa1fea4fdf9de3f2561bbae5bb3cd399acf136c12c4f6", func := "lockorder/lockorderlaw30.ReportFormat", spec := "reportFormat", inPlace := ["internal/abi.NoEscape", "internal/bytealg.IndexByteString", "internal/bytealg.IndexString", "internal/bytealg.MakeNoZero"], unfollowed := true, recurses := true, named := ["internal/strconv.uint64pow10", "math/bits.deBruijn32tab", "math/bits.deBruijn64tab", "lockorder/token.words", "internal/bytealg.MaxLen", "lockorder/expr.signs"], apart := false, laid := [("math/bits.deBruijn32tab", laid_math_bits_deBruijn32tab), ("math/bits.deBruijn64tab", laid_math_bits_deBruijn64tab), ("internal/strconv.uint64pow10", laid_internal_strconv_uint64pow10), ("lockorder/token.words", laid_lockorder_token_words), ("lockorder/expr.signs", laid_lockorder_expr_signs)], narrowed := true }
def ReportFormatUptoSaid : Prop := reportFormatUptoRow.holds Tryz.pinned (OpenSpec.upto reportFormatSpec)

/-- 'lockorderlaw30.ReportRejected', WHERE WHAT IT READS IS OF BULK AT MOST 1048576: true; the input reads as it did. -/
def reportRejectedUptoRow : OpenClaim := { program := "ytkfdfhcdmmlfmaagreatdoor", sum := "a85d1816a36637773cfaa1fea4fdf9de3f2561bbae5bb3cd399acf136c12c4f6", func := "lockorder/lockorderlaw30.ReportRejected", spec := "reportRejected", inPlace := ["internal/abi.NoEscape", "internal/bytealg.IndexByteString", "internal/bytealg.IndexString", "internal/bytealg.MakeNoZero"], unfollowed := true, recurses := true, named := ["internal/strconv.uint64pow10", "math/bits.deBruijn32tab", "math/bits.deBruijn64tab", "lockorder/token.words", "internal/bytealg.MaxLen", "lockorder/expr.signs"], apart := false, laid := [("math/bits.deBruijn32tab", laid_math_bits_deBruijn32tab), ("math/bits.deBruijn64tab", laid_math_bits_deBruijn64tab), ("internal/strconv.uint64pow10", laid_internal_strconv_uint64pow10), ("lockorder/token.words", laid_lockorder_token_words), ("lockorder/expr.signs", laid_lockorder_expr_signs)], narrowed := true }
def ReportRejectedUptoSaid : Prop := reportRejectedUptoRow.holds Tryz.pinned (OpenSpec.upto reportRejectedSpec)

/-- 'lockorderlaw30.ReportLines', WHERE WHAT IT READS IS OF BULK AT MOST 1048576: true; the input reads as it did. -/
def reportLinesUptoRow : OpenClaim := { program := "ytkfdfhcdmmlfmaagreatdoor", sum := "a85d1816a36637773cfaa1fea4fdf9de3f2561bbae5bb3cd399acf136c12c4f6", func := "lockorder/lockorderlaw30.ReportLines", spec := "reportLines", inPlace := ["internal/abi.NoEscape", "internal/bytealg.IndexByteString", "internal/bytealg.IndexString", "internal/bytealg.MakeNoZero"], unfollowed := true, recurses := true, named := ["internal/strconv.uint64pow10", "math/bits.deBruijn32tab", "math/bits.deBruijn64tab", "lockorder/token.words", "internal/bytealg.MaxLen", "lockorder/expr.signs"], apart := false, laid := [("math/bits.deBruijn32tab", laid_math_bits_deBruijn32tab), ("math/bits.deBruijn64tab", laid_math_bits_deBruijn64tab), ("internal/strconv.uint64pow10", laid_internal_strconv_uint64pow10), ("lockorder/token.words", laid_lockorder_token_words), ("lockorder/expr.signs", laid_lockorder_expr_signs)], narrowed := true }
def ReportLinesUptoSaid : Prop := reportLinesUptoRow.holds Tryz.pinned (OpenSpec.upto reportLinesSpec)

end Rows
end Go.Proofs.YtkfdfhcdmmlfmaaGreatDoor
