/-
  NARROWER THAN 'FOR EVERY INPUT', by the rows' own cells (each row's printed sentence says how): RulevmRuns: laid · RulevmNums: laid · RulevmEvals: loops, laid · RulevmKeeps: loops, laid · RulevmDenies: loops, laid · RulevmBounds: loops, laid · RulevmAgrees: loops, laid.
  DERIVED. THE GIVEN ROWS OF THIS SEAT. 7 by the template 'for every input the law returns true; each argument reads behind the call as it read before'; 0 by the template 'total and deterministic' (their statements: YtmpdebfckeahmaaGreatDoorTotals.lean).
  GIVEN WITH THE SEED: the statements are not yours to turn. If you find one false, say at which input.
  Laid BY PROGRAM, IN A SANDBOX (cutbox-rows.mjs): the forced cells as the released guide's own fill.sh prints them over the translation 43d82e9dfd34cc54… (all of the seat's roots in one cut). By AI agents, Wed Nov 11 2026. No macro, syntax, notation, axiom, sorry.
-/
import Derived.Test.YtmpdebfckeahmaaGreatDoorChecked
import GoSem.PinnedTables
import GoSem.Claim
import GoSem.ClaimJoined
import GoSem.ClaimMapViews
import Derived.JoinedTies
import Derived.KernelRfl
namespace Go.Proofs.YtmpdebfckeahmaaGreatDoor
/- THE CELL 'sum', in the pinned program and in every row, IS THE sha256 OF THE DUMP (.gsa) THAT YtmpdebfckeahmaaGreatDoorProg.lean LOADS. Nothing in Lean hashes anything: it is a label: what it is worth is what the hold of that sum in a sandbox is worth. -/
noncomputable def Tryz.pinned : Pinned := { name := "ytmpdebfckeahmaagreatdoor", sum := "43d82e9dfd34cc5440569357b0be5ff7716f25266caccd68f083870d02aea211", checked := Tryz.checked }
namespace Rows
def none {H : Type} : Left H := { results := [], args := [] }

/- WHAT THE LISTED PACKAGE-LEVEL VARIABLES READ AS WHEN THE CALL BEGINS. Each datum BY PROGRAM (the guide's laid-datum.mjs) off the statement by which the dump's own 'gosem.cut.vars' lays the variable. In a bare row this is a premise. The card (YtmpdebfckeahmaaGreatDoorCards.lean) ties it to the program's text. -/
def laid_math_bits_deBruijn32tab {H : Type} : DataW H := .agg [.lit (.int .u8 0), .lit (.int .u8 1), .lit (.int .u8 28), .lit (.int .u8 2), .lit (.int .u8 29), .lit (.int .u8 14), .lit (.int .u8 24), .lit (.int .u8 3), .lit (.int .u8 30), .lit (.int .u8 22), .lit (.int .u8 20), .lit (.int .u8 15), .lit (.int .u8 25), .lit (.int .u8 17), .lit (.int .u8 4), .lit (.int .u8 8), .lit (.int .u8 31), .lit (.int .u8 27), .lit (.int .u8 13), .lit (.int .u8 23), .lit (.int .u8 21), .lit (.int .u8 19), .lit (.int .u8 16), .lit (.int .u8 7), .lit (.int .u8 26), .lit (.int .u8 12), .lit (.int .u8 18), .lit (.int .u8 6), .lit (.int .u8 11), .lit (.int .u8 5), .lit (.int .u8 10), .lit (.int .u8 9)]
def laid_math_bits_deBruijn64tab {H : Type} : DataW H := .agg [.lit (.int .u8 0), .lit (.int .u8 1), .lit (.int .u8 56), .lit (.int .u8 2), .lit (.int .u8 57), .lit (.int .u8 49), .lit (.int .u8 28), .lit (.int .u8 3), .lit (.int .u8 61), .lit (.int .u8 58), .lit (.int .u8 42), .lit (.int .u8 50), .lit (.int .u8 38), .lit (.int .u8 29), .lit (.int .u8 17), .lit (.int .u8 4), .lit (.int .u8 62), .lit (.int .u8 47), .lit (.int .u8 59), .lit (.int .u8 36), .lit (.int .u8 45), .lit (.int .u8 43), .lit (.int .u8 51), .lit (.int .u8 22), .lit (.int .u8 53), .lit (.int .u8 39), .lit (.int .u8 33), .lit (.int .u8 30), .lit (.int .u8 24), .lit (.int .u8 18), .lit (.int .u8 12), .lit (.int .u8 5), .lit (.int .u8 63), .lit (.int .u8 55), .lit (.int .u8 48), .lit (.int .u8 27), .lit (.int .u8 60), .lit (.int .u8 41), .lit (.int .u8 37), .lit (.int .u8 16), .lit (.int .u8 46), .lit (.int .u8 35), .lit (.int .u8 44), .lit (.int .u8 21), .lit (.int .u8 52), .lit (.int .u8 32), .lit (.int .u8 23), .lit (.int .u8 11), .lit (.int .u8 54), .lit (.int .u8 26), .lit (.int .u8 40), .lit (.int .u8 15), .lit (.int .u8 34), .lit (.int .u8 20), .lit (.int .u8 31), .lit (.int .u8 10), .lit (.int .u8 25), .lit (.int .u8 14), .lit (.int .u8 19), .lit (.int .u8 9), .lit (.int .u8 13), .lit (.int .u8 8), .lit (.int .u8 7), .lit (.int .u8 6)]
def laid_internal_strconv_uint64pow10 {H : Type} : DataW H := .agg [.lit (.int .u64 1), .lit (.int .u64 10), .lit (.int .u64 100), .lit (.int .u64 1000), .lit (.int .u64 10000), .lit (.int .u64 100000), .lit (.int .u64 1000000), .lit (.int .u64 10000000), .lit (.int .u64 100000000), .lit (.int .u64 1000000000), .lit (.int .u64 10000000000), .lit (.int .u64 100000000000), .lit (.int .u64 1000000000000), .lit (.int .u64 10000000000000), .lit (.int .u64 100000000000000), .lit (.int .u64 1000000000000000), .lit (.int .u64 10000000000000000), .lit (.int .u64 100000000000000000), .lit (.int .u64 1000000000000000000), .lit (.int .u64 10000000000000000000)]
def laid_unicode_utf8_acceptRanges {H : Type} : DataW H := .agg [.agg [.lit (.int .u8 128), .lit (.int .u8 191)], .agg [.lit (.int .u8 160), .lit (.int .u8 191)], .agg [.lit (.int .u8 128), .lit (.int .u8 159)], .agg [.lit (.int .u8 144), .lit (.int .u8 191)], .agg [.lit (.int .u8 128), .lit (.int .u8 143)], .agg [.lit (.int .u8 0), .lit (.int .u8 0)], .agg [.lit (.int .u8 0), .lit (.int .u8 0)], .agg [.lit (.int .u8 0), .lit (.int .u8 0)], .agg [.lit (.int .u8 0), .lit (.int .u8 0)], .agg [.lit (.int .u8 0), .lit (.int .u8 0)], .agg [.lit (.int .u8 0), .lit (.int .u8 0)], .agg [.lit (.int .u8 0), .lit (.int .u8 0)], .agg [.lit (.int .u8 0), .lit (.int .u8 0)], .agg [.lit (.int .u8 0), .lit (.int .u8 0)], .agg [.lit (.int .u8 0), .lit (.int .u8 0)], .agg [.lit (.int .u8 0), .lit (.int .u8 0)]]
def laid_quayside_rulecode_predeclared {H : Type} : DataW H := .slice [.lit (.string [109, 101, 116, 104, 111, 100]), .lit (.string [104, 111, 115, 116]), .lit (.string [112, 97, 116, 104]), .lit (.string [113, 117, 101, 114, 121])] []
def laid_quayside_rulecode_functions {H : Type} : DataW H := .slice [.lit (.string [104, 101, 97, 100, 101, 114]), .lit (.string [104, 97, 115]), .lit (.string [97, 114, 103]), .lit (.string [108, 101, 110]), .lit (.string [108, 111, 119, 101, 114]), .lit (.string [112, 97, 114, 116]), .lit (.string [116, 101, 120, 116]), .lit (.string [110, 117, 109, 98, 101, 114])] []
def laid_quayside_rulecode_operators {H : Type} : DataW H := .slice [.lit (.string [43]), .lit (.string [45]), .lit (.string [42]), .lit (.string [61, 61]), .lit (.string [33, 61]), .lit (.string [60]), .lit (.string [60, 61]), .lit (.string [115, 116, 97, 114, 116, 115]), .lit (.string [101, 110, 100, 115]), .lit (.string [99, 111, 110, 116, 97, 105, 110, 115])] []
/-- One of Go's own tables, pinned by name: the form's constant. -/
def laid_unicode_utf8_first : DataW Unit := Go.Pinned.utf8First
def laid_quayside_rulelex_keywords {H : Type} : DataW H := .slice [.lit (.string [105, 102]), .lit (.string [101, 108, 115, 101]), .lit (.string [108, 101, 116]), .lit (.string [118, 97, 114, 121]), .lit (.string [116, 97, 103]), .lit (.string [116, 116, 108]), .lit (.string [100, 101, 110, 121]), .lit (.string [112, 97, 115, 115]), .lit (.string [116, 111, 107, 101, 110]), .lit (.string [111, 114]), .lit (.string [97, 110, 100]), .lit (.string [110, 111, 116]), .lit (.string [115, 116, 97, 114, 116, 115]), .lit (.string [101, 110, 100, 115]), .lit (.string [99, 111, 110, 116, 97, 105, 110, 115]), .lit (.string [116, 114, 117, 101]), .lit (.string [102, 97, 108, 115, 101])] []
def laid_strconv_ErrRange {H : Type} : DataW H := .iface "*errors.errorString" (.ptr (.agg [.lit (.string [118, 97, 108, 117, 101, 32, 111, 117, 116, 32, 111, 102, 32, 114, 97, 110, 103, 101])]))
def laid_strconv_ErrSyntax {H : Type} : DataW H := .iface "*errors.errorString" (.ptr (.agg [.lit (.string [105, 110, 118, 97, 108, 105, 100, 32, 115, 121, 110, 116, 97, 120])]))

/-- 'quaysidelaw46.RulevmRuns': WHATEVER THE INPUT: true; the input reads as it did. -/
def rulevmRunsSpec : ChangeSpec := { name := "rulevmRuns", fn := fun _ => fun
  | [d1, d2, d3] => { results := [.lit (.bool true)], args := [d1, d2, d3] }
  | _ => none }
def rulevmRunsRow : OpenClaim := { program := "ytmpdebfckeahmaagreatdoor", sum := "43d82e9dfd34cc5440569357b0be5ff7716f25266caccd68f083870d02aea211", func := "quayside/quaysidelaw46.RulevmRuns", spec := "rulevmRuns", inPlace := ["internal/bytealg.IndexByteString", "internal/bytealg.IndexString", "internal/bytealg.CountString", "internal/abi.NoEscape", "internal/bytealg.MakeNoZero"], recurses := true, named := ["quayside/rulecode.predeclared", "quayside/rulecode.functions", "quayside/rulecode.operators", "internal/strconv.uint64pow10", "math/bits.deBruijn32tab", "math/bits.deBruijn64tab", "internal/bytealg.MaxLen", "unicode/utf8.first", "unicode/utf8.acceptRanges"], apart := false, laid := [("math/bits.deBruijn32tab", laid_math_bits_deBruijn32tab), ("math/bits.deBruijn64tab", laid_math_bits_deBruijn64tab), ("internal/strconv.uint64pow10", laid_internal_strconv_uint64pow10), ("unicode/utf8.acceptRanges", laid_unicode_utf8_acceptRanges), ("quayside/rulecode.predeclared", laid_quayside_rulecode_predeclared), ("quayside/rulecode.functions", laid_quayside_rulecode_functions), ("quayside/rulecode.operators", laid_quayside_rulecode_operators), ("unicode/utf8.first", laid_unicode_utf8_first)] }
def RulevmRunsSaid : Prop := rulevmRunsRow.holds Tryz.pinned (OpenSpec.ofChange rulevmRunsSpec)

/-- ITS FALSE NEIGHBOUR: 'it returns false'. Refute it at one input. -/
def rulevmRunsWrong : ChangeSpec := { name := "rulevmRuns", fn := fun _ => fun
  | [d1, d2, d3] => { results := [.lit (.bool false)], args := [d1, d2, d3] }
  | _ => none }
def RulevmRunsWrongFalsely : Prop := rulevmRunsRow.holds Tryz.pinned (OpenSpec.ofChange rulevmRunsWrong)

/-- 'quaysidelaw46.RulevmNums': WHATEVER THE INPUT: true; the input reads as it did. -/
def rulevmNumsSpec : ChangeSpec := { name := "rulevmNums", fn := fun _ => fun
  | [d1, d2, d3] => { results := [.lit (.bool true)], args := [d1, d2, d3] }
  | _ => none }
def rulevmNumsRow : OpenClaim := { program := "ytmpdebfckeahmaagreatdoor", sum := "43d82e9dfd34cc5440569357b0be5ff7716f25266caccd68f083870d02aea211", func := "quayside/quaysidelaw46.RulevmNums", spec := "rulevmNums", inPlace := ["internal/bytealg.IndexByteString", "internal/bytealg.IndexString", "internal/bytealg.CountString", "internal/abi.NoEscape", "internal/bytealg.MakeNoZero"], recurses := true, named := ["quayside/rulecode.predeclared", "quayside/rulecode.functions", "quayside/rulecode.operators", "internal/strconv.uint64pow10", "math/bits.deBruijn32tab", "math/bits.deBruijn64tab", "internal/bytealg.MaxLen", "unicode/utf8.first", "unicode/utf8.acceptRanges"], apart := false, laid := [("math/bits.deBruijn32tab", laid_math_bits_deBruijn32tab), ("math/bits.deBruijn64tab", laid_math_bits_deBruijn64tab), ("internal/strconv.uint64pow10", laid_internal_strconv_uint64pow10), ("unicode/utf8.acceptRanges", laid_unicode_utf8_acceptRanges), ("quayside/rulecode.predeclared", laid_quayside_rulecode_predeclared), ("quayside/rulecode.functions", laid_quayside_rulecode_functions), ("quayside/rulecode.operators", laid_quayside_rulecode_operators), ("unicode/utf8.first", laid_unicode_utf8_first)] }
def RulevmNumsSaid : Prop := rulevmNumsRow.holds Tryz.pinned (OpenSpec.ofChange rulevmNumsSpec)

/-- ITS FALSE NEIGHBOUR: 'it returns false'. Refute it at one input. -/
def rulevmNumsWrong : ChangeSpec := { name := "rulevmNums", fn := fun _ => fun
  | [d1, d2, d3] => { results := [.lit (.bool false)], args := [d1, d2, d3] }
  | _ => none }
def RulevmNumsWrongFalsely : Prop := rulevmNumsRow.holds Tryz.pinned (OpenSpec.ofChange rulevmNumsWrong)

/-- 'quaysidelaw46.RulevmEvals': WHATEVER THE INPUT: true; the input reads as it did. -/
def rulevmEvalsSpec : ChangeSpec := { name := "rulevmEvals", fn := fun _ => fun
  | [d1, d2] => { results := [.lit (.bool true)], args := [d1, d2] }
  | _ => none }
def rulevmEvalsRow : OpenClaim := { program := "ytmpdebfckeahmaagreatdoor", sum := "43d82e9dfd34cc5440569357b0be5ff7716f25266caccd68f083870d02aea211", func := "quayside/quaysidelaw46.RulevmEvals", spec := "rulevmEvals", inPlace := ["internal/bytealg.IndexByteString", "internal/bytealg.IndexString", "internal/bytealg.CountString", "internal/abi.NoEscape", "internal/bytealg.MakeNoZero"], unfollowed := true, recurses := true, named := ["quayside/rulecode.predeclared", "quayside/rulecode.functions", "quayside/rulecode.operators", "internal/strconv.uint64pow10", "math/bits.deBruijn32tab", "math/bits.deBruijn64tab", "internal/bytealg.MaxLen", "unicode/utf8.first", "unicode/utf8.acceptRanges", "quayside/rulelex.keywords"], loops := true, apart := false, laid := [("math/bits.deBruijn32tab", laid_math_bits_deBruijn32tab), ("math/bits.deBruijn64tab", laid_math_bits_deBruijn64tab), ("internal/strconv.uint64pow10", laid_internal_strconv_uint64pow10), ("unicode/utf8.acceptRanges", laid_unicode_utf8_acceptRanges), ("quayside/rulelex.keywords", laid_quayside_rulelex_keywords), ("quayside/rulecode.predeclared", laid_quayside_rulecode_predeclared), ("quayside/rulecode.functions", laid_quayside_rulecode_functions), ("quayside/rulecode.operators", laid_quayside_rulecode_operators), ("unicode/utf8.first", laid_unicode_utf8_first)] }
def RulevmEvalsSaid : Prop := rulevmEvalsRow.holds Tryz.pinned (OpenSpec.ofChange rulevmEvalsSpec)

/-- ITS FALSE NEIGHBOUR: 'it returns false'. Refute it at one input. -/
def rulevmEvalsWrong : ChangeSpec := { name := "rulevmEvals", fn := fun _ => fun
  | [d1, d2] => { results := [.lit (.bool false)], args := [d1, d2] }
  | _ => none }
def RulevmEvalsWrongFalsely : Prop := rulevmEvalsRow.holds Tryz.pinned (OpenSpec.ofChange rulevmEvalsWrong)

/-- 'quaysidelaw46.RulevmKeeps': WHATEVER THE INPUT: true; the input reads as it did. -/
def rulevmKeepsSpec : ChangeSpec := { name := "rulevmKeeps", fn := fun _ => fun
  | [d1, d2] => { results := [.lit (.bool true)], args := [d1, d2] }
  | _ => none }
def rulevmKeepsRow : OpenClaim := { program := "ytmpdebfckeahmaagreatdoor", sum := "43d82e9dfd34cc5440569357b0be5ff7716f25266caccd68f083870d02aea211", func := "quayside/quaysidelaw46.RulevmKeeps", spec := "rulevmKeeps", inPlace := ["internal/bytealg.IndexByteString", "internal/bytealg.IndexString", "internal/bytealg.CountString", "internal/abi.NoEscape", "internal/bytealg.MakeNoZero"], unfollowed := true, recurses := true, named := ["quayside/rulecode.predeclared", "quayside/rulecode.functions", "quayside/rulecode.operators", "internal/strconv.uint64pow10", "math/bits.deBruijn32tab", "math/bits.deBruijn64tab", "internal/bytealg.MaxLen", "unicode/utf8.first", "unicode/utf8.acceptRanges", "quayside/rulelex.keywords"], loops := true, apart := false, laid := [("math/bits.deBruijn32tab", laid_math_bits_deBruijn32tab), ("math/bits.deBruijn64tab", laid_math_bits_deBruijn64tab), ("internal/strconv.uint64pow10", laid_internal_strconv_uint64pow10), ("unicode/utf8.acceptRanges", laid_unicode_utf8_acceptRanges), ("quayside/rulelex.keywords", laid_quayside_rulelex_keywords), ("quayside/rulecode.predeclared", laid_quayside_rulecode_predeclared), ("quayside/rulecode.functions", laid_quayside_rulecode_functions), ("quayside/rulecode.operators", laid_quayside_rulecode_operators), ("unicode/utf8.first", laid_unicode_utf8_first)] }
def RulevmKeepsSaid : Prop := rulevmKeepsRow.holds Tryz.pinned (OpenSpec.ofChange rulevmKeepsSpec)

/-- ITS FALSE NEIGHBOUR: 'it returns false'. Refute it at one input. -/
def rulevmKeepsWrong : ChangeSpec := { name := "rulevmKeeps", fn := fun _ => fun
  | [d1, d2] => { results := [.lit (.bool false)], args := [d1, d2] }
  | _ => none }
def RulevmKeepsWrongFalsely : Prop := rulevmKeepsRow.holds Tryz.pinned (OpenSpec.ofChange rulevmKeepsWrong)

/-- 'quaysidelaw46.RulevmDenies': WHATEVER THE INPUT: true; the input reads as it did. -/
def rulevmDeniesSpec : ChangeSpec := { name := "rulevmDenies", fn := fun _ => fun
  | [d1, d2, d3] => { results := [.lit (.bool true)], args := [d1, d2, d3] }
  | _ => none }
def rulevmDeniesRow : OpenClaim := { program := "ytmpdebfckeahmaagreatdoor", sum := "43d82e9dfd34cc5440569357b0be5ff7716f25266caccd68f083870d02aea211", func := "quayside/quaysidelaw46.RulevmDenies", spec := "rulevmDenies", inPlace := ["internal/bytealg.IndexByteString", "internal/bytealg.IndexString", "internal/bytealg.CountString", "internal/abi.NoEscape", "internal/bytealg.MakeNoZero"], unfollowed := true, recurses := true, named := ["quayside/rulecode.predeclared", "quayside/rulecode.functions", "quayside/rulecode.operators", "internal/strconv.uint64pow10", "math/bits.deBruijn32tab", "math/bits.deBruijn64tab", "internal/bytealg.MaxLen", "unicode/utf8.first", "unicode/utf8.acceptRanges", "quayside/rulelex.keywords"], loops := true, apart := false, laid := [("math/bits.deBruijn32tab", laid_math_bits_deBruijn32tab), ("math/bits.deBruijn64tab", laid_math_bits_deBruijn64tab), ("internal/strconv.uint64pow10", laid_internal_strconv_uint64pow10), ("unicode/utf8.acceptRanges", laid_unicode_utf8_acceptRanges), ("quayside/rulelex.keywords", laid_quayside_rulelex_keywords), ("quayside/rulecode.predeclared", laid_quayside_rulecode_predeclared), ("quayside/rulecode.functions", laid_quayside_rulecode_functions), ("quayside/rulecode.operators", laid_quayside_rulecode_operators), ("unicode/utf8.first", laid_unicode_utf8_first)] }
def RulevmDeniesSaid : Prop := rulevmDeniesRow.holds Tryz.pinned (OpenSpec.ofChange rulevmDeniesSpec)

/-- ITS FALSE NEIGHBOUR: 'it returns false'. Refute it at one input. -/
def rulevmDeniesWrong : ChangeSpec := { name := "rulevmDenies", fn := fun _ => fun
  | [d1, d2, d3] => { results := [.lit (.bool false)], args := [d1, d2, d3] }
  | _ => none }
def RulevmDeniesWrongFalsely : Prop := rulevmDeniesRow.holds Tryz.pinned (OpenSpec.ofChange rulevmDeniesWrong)

/-- 'quaysidelaw46.RulevmBounds': WHATEVER THE INPUT: true; the input reads as it did. -/
def rulevmBoundsSpec : ChangeSpec := { name := "rulevmBounds", fn := fun _ => fun
  | [d1, d2, d3] => { results := [.lit (.bool true)], args := [d1, d2, d3] }
  | _ => none }
def rulevmBoundsRow : OpenClaim := { program := "ytmpdebfckeahmaagreatdoor", sum := "43d82e9dfd34cc5440569357b0be5ff7716f25266caccd68f083870d02aea211", func := "quayside/quaysidelaw46.RulevmBounds", spec := "rulevmBounds", inPlace := ["internal/bytealg.IndexByteString", "internal/bytealg.IndexString", "internal/bytealg.CountString", "internal/abi.NoEscape", "internal/bytealg.MakeNoZero"], unfollowed := true, recurses := true, named := ["quayside/rulecode.predeclared", "quayside/rulecode.functions", "quayside/rulecode.operators", "internal/strconv.uint64pow10", "math/bits.deBruijn32tab", "math/bits.deBruijn64tab", "internal/bytealg.MaxLen", "unicode/utf8.first", "unicode/utf8.acceptRanges", "quayside/rulelex.keywords", "strconv.ErrSyntax", "strconv.ErrRange"], loops := true, apart := false, laid := [("math/bits.deBruijn32tab", laid_math_bits_deBruijn32tab), ("math/bits.deBruijn64tab", laid_math_bits_deBruijn64tab), ("internal/strconv.uint64pow10", laid_internal_strconv_uint64pow10), ("unicode/utf8.acceptRanges", laid_unicode_utf8_acceptRanges), ("strconv.ErrRange", laid_strconv_ErrRange), ("strconv.ErrSyntax", laid_strconv_ErrSyntax), ("quayside/rulelex.keywords", laid_quayside_rulelex_keywords), ("quayside/rulecode.predeclared", laid_quayside_rulecode_predeclared), ("quayside/rulecode.functions", laid_quayside_rulecode_functions), ("quayside/rulecode.operators", laid_quayside_rulecode_operators), ("unicode/utf8.first", laid_unicode_utf8_first)] }
def RulevmBoundsSaid : Prop := rulevmBoundsRow.holds Tryz.pinned (OpenSpec.ofChange rulevmBoundsSpec)

/-- ITS FALSE NEIGHBOUR: 'it returns false'. Refute it at one input. -/
def rulevmBoundsWrong : ChangeSpec := { name := "rulevmBounds", fn := fun _ => fun
  | [d1, d2, d3] => { results := [.lit (.bool false)], args := [d1, d2, d3] }
  | _ => none }
def RulevmBoundsWrongFalsely : Prop := rulevmBoundsRow.holds Tryz.pinned (OpenSpec.ofChange rulevmBoundsWrong)

/-- 'quaysidelaw46.RulevmAgrees': WHATEVER THE INPUT: true; the input reads as it did. -/
def rulevmAgreesSpec : ChangeSpec := { name := "rulevmAgrees", fn := fun _ => fun
  | [d1, d2] => { results := [.lit (.bool true)], args := [d1, d2] }
  | _ => none }
def rulevmAgreesRow : OpenClaim := { program := "ytmpdebfckeahmaagreatdoor", sum := "43d82e9dfd34cc5440569357b0be5ff7716f25266caccd68f083870d02aea211", func := "quayside/quaysidelaw46.RulevmAgrees", spec := "rulevmAgrees", inPlace := ["internal/bytealg.IndexByteString", "internal/bytealg.IndexString", "internal/bytealg.CountString", "internal/abi.NoEscape", "internal/bytealg.MakeNoZero"], unfollowed := true, recurses := true, named := ["quayside/rulecode.predeclared", "quayside/rulecode.functions", "quayside/rulecode.operators", "internal/strconv.uint64pow10", "math/bits.deBruijn32tab", "math/bits.deBruijn64tab", "internal/bytealg.MaxLen", "unicode/utf8.first", "unicode/utf8.acceptRanges", "quayside/rulelex.keywords", "strconv.ErrSyntax", "strconv.ErrRange"], loops := true, apart := false, laid := [("math/bits.deBruijn32tab", laid_math_bits_deBruijn32tab), ("math/bits.deBruijn64tab", laid_math_bits_deBruijn64tab), ("internal/strconv.uint64pow10", laid_internal_strconv_uint64pow10), ("unicode/utf8.acceptRanges", laid_unicode_utf8_acceptRanges), ("strconv.ErrRange", laid_strconv_ErrRange), ("strconv.ErrSyntax", laid_strconv_ErrSyntax), ("quayside/rulelex.keywords", laid_quayside_rulelex_keywords), ("quayside/rulecode.predeclared", laid_quayside_rulecode_predeclared), ("quayside/rulecode.functions", laid_quayside_rulecode_functions), ("quayside/rulecode.operators", laid_quayside_rulecode_operators), ("unicode/utf8.first", laid_unicode_utf8_first)] }
def RulevmAgreesSaid : Prop := rulevmAgreesRow.holds Tryz.pinned (OpenSpec.ofChange rulevmAgreesSpec)

/-- ITS FALSE NEIGHBOUR: 'it returns false'. Refute it at one input. -/
def rulevmAgreesWrong : ChangeSpec := { name := "rulevmAgrees", fn := fun _ => fun
  | [d1, d2] => { results := [.lit (.bool false)], args := [d1, d2] }
  | _ => none }
def RulevmAgreesWrongFalsely : Prop := rulevmAgreesRow.holds Tryz.pinned (OpenSpec.ofChange rulevmAgreesWrong)

/- THE SECOND FORM. 'bulk': how many values and letters a reading holds, each counted each time it is reached (what is shared counts as often as it is met; a slice's spare places count too). A statement '..UptoSaid' is the law's where the arguments, and the package variables that the reading takes, are together of bulk at most 1048576: NARROWER than '..Said'. Prove '..Said' where nothing that the law and all that it calls make is longer than what came in: it says more and counts as full. Else prove '..UptoSaid'. A law counts once. -/
mutual
def uptoBulk {H : Type} : DataW H → Nat
  | .lit (.string bytes) => bytes.length + 1
  | .lit _ => 1
  | .nil => 1
  | .ptr d => uptoBulk d + 1
  | .slice elems spare => uptoBulkAll elems + uptoBulkAll spare + 1
  | .agg parts => uptoBulkAll parts + 1
  | .iface _ d => uptoBulk d + 1
  | .map entries => uptoBulkEntries entries + 1
  | .held _ => 1
def uptoBulkAll {H : Type} : List (DataW H) → Nat
  | [] => 0
  | d :: r => uptoBulk d + uptoBulkAll r
def uptoBulkEntries {H : Type} : List (Lit × DataW H) → Nat
  | [] => 0
  | x :: r => uptoBulkEntry x + uptoBulkEntries r
def uptoBulkEntry {H : Type} : Lit × DataW H → Nat
  | (.string bytes, d) => bytes.length + uptoBulk d + 1
  | (_, d) => uptoBulk d + 1
 end
def uptoSmall : (H : Type) → List (DataW H) → Bool := fun _ ds => decide (uptoBulkAll ds ≤ 1048576)
def OpenSpec.upto (s : _root_.Go.ChangeSpec) : _root_.Go.OpenSpec := { _root_.Go.OpenSpec.ofChange s with cond := some uptoSmall }

/-- 'quaysidelaw46.RulevmRuns', WHERE WHAT IT READS IS OF BULK AT MOST 1048576: true; the input reads as it did. -/
def rulevmRunsUptoRow : OpenClaim := { program := "ytmpdebfckeahmaagreatdoor", sum := "43d82e9dfd34cc5440569357b0be5ff7716f25266caccd68f083870d02aea211", func := "quayside/quaysidelaw46.RulevmRuns", spec := "rulevmRuns", inPlace := ["internal/bytealg.IndexByteString", "internal/bytealg.IndexString", "internal/bytealg.CountString", "internal/abi.NoEscape", "internal/bytealg.MakeNoZero"], recurses := true, named := ["quayside/rulecode.predeclared", "quayside/rulecode.functions", "quayside/rulecode.operators", "internal/strconv.uint64pow10", "math/bits.deBruijn32tab", "math/bits.deBruijn64tab", "internal/bytealg.MaxLen", "unicode/utf8.first", "unicode/utf8.acceptRanges"], apart := false, laid := [("math/bits.deBruijn32tab", laid_math_bits_deBruijn32tab), ("math/bits.deBruijn64tab", laid_math_bits_deBruijn64tab), ("internal/strconv.uint64pow10", laid_internal_strconv_uint64pow10), ("unicode/utf8.acceptRanges", laid_unicode_utf8_acceptRanges), ("quayside/rulecode.predeclared", laid_quayside_rulecode_predeclared), ("quayside/rulecode.functions", laid_quayside_rulecode_functions), ("quayside/rulecode.operators", laid_quayside_rulecode_operators), ("unicode/utf8.first", laid_unicode_utf8_first)], narrowed := true }
def RulevmRunsUptoSaid : Prop := rulevmRunsUptoRow.holds Tryz.pinned (OpenSpec.upto rulevmRunsSpec)

/-- 'quaysidelaw46.RulevmNums', WHERE WHAT IT READS IS OF BULK AT MOST 1048576: true; the input reads as it did. -/
def rulevmNumsUptoRow : OpenClaim := { program := "ytmpdebfckeahmaagreatdoor", sum := "43d82e9dfd34cc5440569357b0be5ff7716f25266caccd68f083870d02aea211", func := "quayside/quaysidelaw46.RulevmNums", spec := "rulevmNums", inPlace := ["internal/bytealg.IndexByteString", "internal/bytealg.IndexString", "internal/bytealg.CountString", "internal/abi.NoEscape", "internal/bytealg.MakeNoZero"], recurses := true, named := ["quayside/rulecode.predeclared", "quayside/rulecode.functions", "quayside/rulecode.operators", "internal/strconv.uint64pow10", "math/bits.deBruijn32tab", "math/bits.deBruijn64tab", "internal/bytealg.MaxLen", "unicode/utf8.first", "unicode/utf8.acceptRanges"], apart := false, laid := [("math/bits.deBruijn32tab", laid_math_bits_deBruijn32tab), ("math/bits.deBruijn64tab", laid_math_bits_deBruijn64tab), ("internal/strconv.uint64pow10", laid_internal_strconv_uint64pow10), ("unicode/utf8.acceptRanges", laid_unicode_utf8_acceptRanges), ("quayside/rulecode.predeclared", laid_quayside_rulecode_predeclared), ("quayside/rulecode.functions", laid_quayside_rulecode_functions), ("quayside/rulecode.operators", laid_quayside_rulecode_operators), ("unicode/utf8.first", laid_unicode_utf8_first)], narrowed := true }
def RulevmNumsUptoSaid : Prop := rulevmNumsUptoRow.holds Tryz.pinned (OpenSpec.upto rulevmNumsSpec)

/-- 'quaysidelaw46.RulevmEvals', WHERE WHAT IT READS IS OF BULK AT MOST 1048576: true; the input reads as it did. -/
def rulevmEvalsUptoRow : OpenClaim := { program := "ytmpdebfckeahmaagreatdoor", sum := "43d82e9dfd34cc5440569357b0be5ff7716f25266caccd68f083870d02aea211", func := "quayside/quaysidelaw46.RulevmEvals", spec := "rulevmEvals", inPlace := ["internal/bytealg.IndexByteString", "internal/bytealg.IndexString", "internal/bytealg.CountString", "internal/abi.NoEscape", "internal/bytealg.MakeNoZero"], unfollowed := true, recurses := true, named := ["quayside/rulecode.predeclared", "quayside/rulecode.functions", "quayside/rulecode.operators", "internal/strconv.uint64pow10", "math/bits.deBruijn32tab", "math/bits.deBruijn64tab", "internal/bytealg.MaxLen", "unicode/utf8.first", "unicode/utf8.acceptRanges", "quayside/rulelex.keywords"], loops := true, apart := false, laid := [("math/bits.deBruijn32tab", laid_math_bits_deBruijn32tab), ("math/bits.deBruijn64tab", laid_math_bits_deBruijn64tab), ("internal/strconv.uint64pow10", laid_internal_strconv_uint64pow10), ("unicode/utf8.acceptRanges", laid_unicode_utf8_acceptRanges), ("quayside/rulelex.keywords", laid_quayside_rulelex_keywords), ("quayside/rulecode.predeclared", laid_quayside_rulecode_predeclared), ("quayside/rulecode.functions", laid_quayside_rulecode_functions), ("quayside/rulecode.operators", laid_quayside_rulecode_operators), ("unicode/utf8.first", laid_unicode_utf8_first)], narrowed := true }
def RulevmEvalsUptoSaid : Prop := rulevmEvalsUptoRow.holds Tryz.pinned (OpenSpec.upto rulevmEvalsSpec)

/-- 'quaysidelaw46.RulevmKeeps', WHERE WHAT IT READS IS OF BULK AT MOST 1048576: true; the input reads as it did. -/
def rulevmKeepsUptoRow : OpenClaim := { program := "ytmpdebfckeahmaagreatdoor", sum := "43d82e9dfd34cc5440569357b0be5ff7716f25266caccd68f083870d02aea211", func := "quayside/quaysidelaw46.RulevmKeeps", spec := "rulevmKeeps", inPlace := ["internal/bytealg.IndexByteString", "internal/bytealg.IndexString", "internal/bytealg.CountString", "internal/abi.NoEscape", "internal/bytealg.MakeNoZero"], unfollowed := true, recurses := true, named := ["quayside/rulecode.predeclared", "quayside/rulecode.functions", "quayside/rulecode.operators", "internal/strconv.uint64pow10", "math/bits.deBruijn32tab", "math/bits.deBruijn64tab", "internal/bytealg.MaxLen", "unicode/utf8.first", "unicode/utf8.acceptRanges", "quayside/rulelex.keywords"], loops := true, apart := false, laid := [("math/bits.deBruijn32tab", laid_math_bits_deBruijn32tab), ("math/bits.deBruijn64tab", laid_math_bits_deBruijn64tab), ("internal/strconv.uint64pow10", laid_internal_strconv_uint64pow10), ("unicode/utf8.acceptRanges", laid_unicode_utf8_acceptRanges), ("quayside/rulelex.keywords", laid_quayside_rulelex_keywords), ("quayside/rulecode.predeclared", laid_quayside_rulecode_predeclared), ("quayside/rulecode.functions", laid_quayside_rulecode_functions), ("quayside/rulecode.operators", laid_quayside_rulecode_operators), ("unicode/utf8.first", laid_unicode_utf8_first)], narrowed := true }
def RulevmKeepsUptoSaid : Prop := rulevmKeepsUptoRow.holds Tryz.pinned (OpenSpec.upto rulevmKeepsSpec)

/-- 'quaysidelaw46.RulevmDenies', WHERE WHAT IT READS IS OF BULK AT MOST 1048576: true; the input reads as it did. -/
def rulevmDeniesUptoRow : OpenClaim := { program := "ytmpdebfckeahmaagreatdoor", sum := "43d82e9dfd34cc5440569357b0be5ff7716f25266caccd68f083870d02aea211", func := "quayside/quaysidelaw46.RulevmDenies", spec := "rulevmDenies", inPlace := ["internal/bytealg.IndexByteString", "internal/bytealg.IndexString", "internal/bytealg.CountString", "internal/abi.NoEscape", "internal/bytealg.MakeNoZero"], unfollowed := true, recurses := true, named := ["quayside/rulecode.predeclared", "quayside/rulecode.functions", "quayside/rulecode.operators", "internal/strconv.uint64pow10", "math/bits.deBruijn32tab", "math/bits.deBruijn64tab", "internal/bytealg.MaxLen", "unicode/utf8.first", "unicode/utf8.acceptRanges", "quayside/rulelex.keywords"], loops := true, apart := false, laid := [("math/bits.deBruijn32tab", laid_math_bits_deBruijn32tab), ("math/bits.deBruijn64tab", laid_math_bits_deBruijn64tab), ("internal/strconv.uint64pow10", laid_internal_strconv_uint64pow10), ("unicode/utf8.acceptRanges", laid_unicode_utf8_acceptRanges), ("quayside/rulelex.keywords", laid_quayside_rulelex_keywords), ("quayside/rulecode.predeclared", laid_quayside_rulecode_predeclared), ("quayside/rulecode.functions", laid_quayside_rulecode_functions), ("quayside/rulecode.operators", laid_quayside_rulecode_operators), ("unicode/utf8.first", laid_unicode_utf8_first)], narrowed := true }
def RulevmDeniesUptoSaid : Prop := rulevmDeniesUptoRow.holds Tryz.pinned (OpenSpec.upto rulevmDeniesSpec)

/-- 'quaysidelaw46.RulevmBounds', WHERE WHAT IT READS IS OF BULK AT MOST 1048576: true; the input reads as it did. -/
def rulevmBoundsUptoRow : OpenClaim := { program := "ytmpdebfckeahmaagreatdoor", sum := "43d82e9dfd34cc5440569357b0be5ff7716f25266caccd68f083870d02aea211", func := "quayside/quaysidelaw46.RulevmBounds", spec := "rulevmBounds", inPlace := ["internal/bytealg.IndexByteString", "internal/bytealg.IndexString", "internal/bytealg.CountString", "internal/abi.NoEscape", "internal/bytealg.MakeNoZero"], unfollowed := true, recurses := true, named := ["quayside/rulecode.predeclared", "quayside/rulecode.functions", "quayside/rulecode.operators", "internal/strconv.uint64pow10", "math/bits.deBruijn32tab", "math/bits.deBruijn64tab", "internal/bytealg.MaxLen", "unicode/utf8.first", "unicode/utf8.acceptRanges", "quayside/rulelex.keywords", "strconv.ErrSyntax", "strconv.ErrRange"], loops := true, apart := false, laid := [("math/bits.deBruijn32tab", laid_math_bits_deBruijn32tab), ("math/bits.deBruijn64tab", laid_math_bits_deBruijn64tab), ("internal/strconv.uint64pow10", laid_internal_strconv_uint64pow10), ("unicode/utf8.acceptRanges", laid_unicode_utf8_acceptRanges), ("strconv.ErrRange", laid_strconv_ErrRange), ("strconv.ErrSyntax", laid_strconv_ErrSyntax), ("quayside/rulelex.keywords", laid_quayside_rulelex_keywords), ("quayside/rulecode.predeclared", laid_quayside_rulecode_predeclared), ("quayside/rulecode.functions", laid_quayside_rulecode_functions), ("quayside/rulecode.operators", laid_quayside_rulecode_operators), ("unicode/utf8.first", laid_unicode_utf8_first)], narrowed := true }
def RulevmBoundsUptoSaid : Prop := rulevmBoundsUptoRow.holds Tryz.pinned (OpenSpec.upto rulevmBoundsSpec)

/-- 'quaysidelaw46.RulevmAgrees', WHERE WHAT IT READS IS OF BULK AT MOST 1048576: true; the input reads as it did. -/
def rulevmAgreesUptoRow : OpenClaim := { program := "ytmpdebfckeahmaagreatdoor", sum := "43d82e9dfd34cc5440569357b0be5ff7716f25266caccd68f083870d02aea211", func := "quayside/quaysidelaw46.RulevmAgrees", spec := "rulevmAgrees", inPlace := ["internal/bytealg.IndexByteString", "internal/bytealg.IndexString", "internal/bytealg.CountString", "internal/abi.NoEscape", "internal/bytealg.MakeNoZero"], unfollowed := true, recurses := true, named := ["quayside/rulecode.predeclared", "quayside/rulecode.functions", "quayside/rulecode.operators", "internal/strconv.uint64pow10", "math/bits.deBruijn32tab", "math/bits.deBruijn64tab", "internal/bytealg.MaxLen", "unicode/utf8.first", "unicode/utf8.acceptRanges", "quayside/rulelex.keywords", "strconv.ErrSyntax", "strconv.ErrRange"], loops := true, apart := false, laid := [("math/bits.deBruijn32tab", laid_math_bits_deBruijn32tab), ("math/bits.deBruijn64tab", laid_math_bits_deBruijn64tab), ("internal/strconv.uint64pow10", laid_internal_strconv_uint64pow10), ("unicode/utf8.acceptRanges", laid_unicode_utf8_acceptRanges), ("strconv.ErrRange", laid_strconv_ErrRange), ("strconv.ErrSyntax", laid_strconv_ErrSyntax), ("quayside/rulelex.keywords", laid_quayside_rulelex_keywords), ("quayside/rulecode.predeclared", laid_quayside_rulecode_predeclared), ("quayside/rulecode.functions", laid_quayside_rulecode_functions), ("quayside/rulecode.operators", laid_quayside_rulecode_operators), ("unicode/utf8.first", laid_unicode_utf8_first)], narrowed := true }
def RulevmAgreesUptoSaid : Prop := rulevmAgreesUptoRow.holds Tryz.pinned (OpenSpec.upto rulevmAgreesSpec)

end Rows
end Go.Proofs.YtmpdebfckeahmaaGreatDoor
