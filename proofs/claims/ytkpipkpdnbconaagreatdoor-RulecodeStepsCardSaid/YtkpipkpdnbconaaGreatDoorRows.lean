/-
  NARROWER THAN 'FOR EVERY INPUT', by the rows' own cells (each row's printed sentence says how): RulecodeCompiles: loops, laid · RulecodeWell: loops, laid · RulecodeChecks: laid · RulecodeFormats: laid · RulecodeSteps: loops, laid.
  DERIVED. THE GIVEN ROWS OF THIS SEAT. 5 by the template 'for every input the law returns true; each argument reads behind the call as it read before'; 0 by the template 'total and deterministic' (their statements: YtkpipkpdnbconaaGreatDoorTotals.lean).
  GIVEN WITH THE SEED: the statements are not yours to turn. If you find one false, say at which input.
  Laid BY PROGRAM, IN A SANDBOX (cutbox-rows.mjs): the forced cells as the released guide's own fill.sh prints them over the translation f93059812e6c6a9a… (all of the seat's roots in one cut). By AI agents, Wed Nov 11 2026. No macro, syntax, notation, axiom, sorry.
-/
import Derived.Test.YtkpipkpdnbconaaGreatDoorChecked
import GoSem.Claim
import GoSem.ClaimJoined
import GoSem.ClaimMapViews
import Derived.JoinedTies
import Derived.KernelRfl
namespace Go.Proofs.YtkpipkpdnbconaaGreatDoor
/- THE CELL 'sum', in the pinned program and in every row, IS THE sha256 OF THE DUMP (.gsa) THAT YtkpipkpdnbconaaGreatDoorProg.lean LOADS. Nothing in Lean hashes anything: it is a label: what it is worth is what the hold of that sum in a sandbox is worth. -/
noncomputable def Tryz.pinned : Pinned := { name := "ytkpipkpdnbconaagreatdoor", sum := "f93059812e6c6a9a2ab8161e8095f164cabcf62d1617f36488eab55dea7efd26", checked := Tryz.checked }
namespace Rows
def none {H : Type} : Left H := { results := [], args := [] }

/- WHAT THE LISTED PACKAGE-LEVEL VARIABLES READ AS WHEN THE CALL BEGINS. Each datum BY PROGRAM (the guide's laid-datum.mjs) off the statement by which the dump's own 'gosem.cut.vars' lays the variable. In a bare row this is a premise. The card (YtkpipkpdnbconaaGreatDoorCards.lean) ties it to the program's text. -/
def laid_math_bits_deBruijn32tab {H : Type} : DataW H := .agg [.lit (.int .u8 0), .lit (.int .u8 1), .lit (.int .u8 28), .lit (.int .u8 2), .lit (.int .u8 29), .lit (.int .u8 14), .lit (.int .u8 24), .lit (.int .u8 3), .lit (.int .u8 30), .lit (.int .u8 22), .lit (.int .u8 20), .lit (.int .u8 15), .lit (.int .u8 25), .lit (.int .u8 17), .lit (.int .u8 4), .lit (.int .u8 8), .lit (.int .u8 31), .lit (.int .u8 27), .lit (.int .u8 13), .lit (.int .u8 23), .lit (.int .u8 21), .lit (.int .u8 19), .lit (.int .u8 16), .lit (.int .u8 7), .lit (.int .u8 26), .lit (.int .u8 12), .lit (.int .u8 18), .lit (.int .u8 6), .lit (.int .u8 11), .lit (.int .u8 5), .lit (.int .u8 10), .lit (.int .u8 9)]
def laid_math_bits_deBruijn64tab {H : Type} : DataW H := .agg [.lit (.int .u8 0), .lit (.int .u8 1), .lit (.int .u8 56), .lit (.int .u8 2), .lit (.int .u8 57), .lit (.int .u8 49), .lit (.int .u8 28), .lit (.int .u8 3), .lit (.int .u8 61), .lit (.int .u8 58), .lit (.int .u8 42), .lit (.int .u8 50), .lit (.int .u8 38), .lit (.int .u8 29), .lit (.int .u8 17), .lit (.int .u8 4), .lit (.int .u8 62), .lit (.int .u8 47), .lit (.int .u8 59), .lit (.int .u8 36), .lit (.int .u8 45), .lit (.int .u8 43), .lit (.int .u8 51), .lit (.int .u8 22), .lit (.int .u8 53), .lit (.int .u8 39), .lit (.int .u8 33), .lit (.int .u8 30), .lit (.int .u8 24), .lit (.int .u8 18), .lit (.int .u8 12), .lit (.int .u8 5), .lit (.int .u8 63), .lit (.int .u8 55), .lit (.int .u8 48), .lit (.int .u8 27), .lit (.int .u8 60), .lit (.int .u8 41), .lit (.int .u8 37), .lit (.int .u8 16), .lit (.int .u8 46), .lit (.int .u8 35), .lit (.int .u8 44), .lit (.int .u8 21), .lit (.int .u8 52), .lit (.int .u8 32), .lit (.int .u8 23), .lit (.int .u8 11), .lit (.int .u8 54), .lit (.int .u8 26), .lit (.int .u8 40), .lit (.int .u8 15), .lit (.int .u8 34), .lit (.int .u8 20), .lit (.int .u8 31), .lit (.int .u8 10), .lit (.int .u8 25), .lit (.int .u8 14), .lit (.int .u8 19), .lit (.int .u8 9), .lit (.int .u8 13), .lit (.int .u8 8), .lit (.int .u8 7), .lit (.int .u8 6)]
def laid_internal_strconv_uint64pow10 {H : Type} : DataW H := .agg [.lit (.int .u64 1), .lit (.int .u64 10), .lit (.int .u64 100), .lit (.int .u64 1000), .lit (.int .u64 10000), .lit (.int .u64 100000), .lit (.int .u64 1000000), .lit (.int .u64 10000000), .lit (.int .u64 100000000), .lit (.int .u64 1000000000), .lit (.int .u64 10000000000), .lit (.int .u64 100000000000), .lit (.int .u64 1000000000000), .lit (.int .u64 10000000000000), .lit (.int .u64 100000000000000), .lit (.int .u64 1000000000000000), .lit (.int .u64 10000000000000000), .lit (.int .u64 100000000000000000), .lit (.int .u64 1000000000000000000), .lit (.int .u64 10000000000000000000)]
def laid_strconv_ErrRange {H : Type} : DataW H := .iface "*errors.errorString" (.ptr (.agg [.lit (.string [118, 97, 108, 117, 101, 32, 111, 117, 116, 32, 111, 102, 32, 114, 97, 110, 103, 101])]))
def laid_strconv_ErrSyntax {H : Type} : DataW H := .iface "*errors.errorString" (.ptr (.agg [.lit (.string [105, 110, 118, 97, 108, 105, 100, 32, 115, 121, 110, 116, 97, 120])]))
def laid_quayside_rulelex_keywords {H : Type} : DataW H := .slice [.lit (.string [105, 102]), .lit (.string [101, 108, 115, 101]), .lit (.string [108, 101, 116]), .lit (.string [118, 97, 114, 121]), .lit (.string [116, 97, 103]), .lit (.string [116, 116, 108]), .lit (.string [100, 101, 110, 121]), .lit (.string [112, 97, 115, 115]), .lit (.string [116, 111, 107, 101, 110]), .lit (.string [111, 114]), .lit (.string [97, 110, 100]), .lit (.string [110, 111, 116]), .lit (.string [115, 116, 97, 114, 116, 115]), .lit (.string [101, 110, 100, 115]), .lit (.string [99, 111, 110, 116, 97, 105, 110, 115]), .lit (.string [116, 114, 117, 101]), .lit (.string [102, 97, 108, 115, 101])] []
def laid_quayside_rulecode_predeclared {H : Type} : DataW H := .slice [.lit (.string [109, 101, 116, 104, 111, 100]), .lit (.string [104, 111, 115, 116]), .lit (.string [112, 97, 116, 104]), .lit (.string [113, 117, 101, 114, 121])] []
def laid_quayside_rulecode_functions {H : Type} : DataW H := .slice [.lit (.string [104, 101, 97, 100, 101, 114]), .lit (.string [104, 97, 115]), .lit (.string [97, 114, 103]), .lit (.string [108, 101, 110]), .lit (.string [108, 111, 119, 101, 114]), .lit (.string [112, 97, 114, 116]), .lit (.string [116, 101, 120, 116]), .lit (.string [110, 117, 109, 98, 101, 114])] []
def laid_quayside_rulecode_operators {H : Type} : DataW H := .slice [.lit (.string [43]), .lit (.string [45]), .lit (.string [42]), .lit (.string [61, 61]), .lit (.string [33, 61]), .lit (.string [60]), .lit (.string [60, 61]), .lit (.string [115, 116, 97, 114, 116, 115]), .lit (.string [101, 110, 100, 115]), .lit (.string [99, 111, 110, 116, 97, 105, 110, 115])] []
def laid_quayside_rulecode_words {H : Type} : DataW H := .agg [.lit (.string []), .lit (.string [112, 117, 115, 104]), .lit (.string [116, 101, 120, 116]), .lit (.string [108, 111, 97, 100]), .lit (.string [115, 116, 111, 114, 101]), .lit (.string [103, 101, 116]), .lit (.string [99, 97, 108, 108]), .lit (.string [111, 112]), .lit (.string [110, 111, 116]), .lit (.string [106, 117, 109, 112]), .lit (.string [98, 114, 97, 110, 99, 104]), .lit (.string [97, 99, 116]), .lit (.string [104, 97, 108, 116])]

/-- 'quaysidelaw45.RulecodeCompiles': WHATEVER THE INPUT: true; the input reads as it did. -/
def rulecodeCompilesSpec : ChangeSpec := { name := "rulecodeCompiles", fn := fun _ => fun
  | [d] => { results := [.lit (.bool true)], args := [d] }
  | _ => none }
def rulecodeCompilesRow : OpenClaim := { program := "ytkpipkpdnbconaagreatdoor", sum := "f93059812e6c6a9a2ab8161e8095f164cabcf62d1617f36488eab55dea7efd26", func := "quayside/quaysidelaw45.RulecodeCompiles", spec := "rulecodeCompiles", unfollowed := true, recurses := true, named := ["quayside/rulelex.keywords", "strconv.ErrSyntax", "strconv.ErrRange", "internal/strconv.uint64pow10", "math/bits.deBruijn32tab", "math/bits.deBruijn64tab", "quayside/rulecode.predeclared", "quayside/rulecode.functions", "quayside/rulecode.operators"], loops := true, apart := false, laid := [("math/bits.deBruijn32tab", laid_math_bits_deBruijn32tab), ("math/bits.deBruijn64tab", laid_math_bits_deBruijn64tab), ("internal/strconv.uint64pow10", laid_internal_strconv_uint64pow10), ("strconv.ErrRange", laid_strconv_ErrRange), ("strconv.ErrSyntax", laid_strconv_ErrSyntax), ("quayside/rulelex.keywords", laid_quayside_rulelex_keywords), ("quayside/rulecode.predeclared", laid_quayside_rulecode_predeclared), ("quayside/rulecode.functions", laid_quayside_rulecode_functions), ("quayside/rulecode.operators", laid_quayside_rulecode_operators)] }
def RulecodeCompilesSaid : Prop := rulecodeCompilesRow.holds Tryz.pinned (OpenSpec.ofChange rulecodeCompilesSpec)

/-- ITS FALSE NEIGHBOUR: 'it returns false'. Refute it at one input. -/
def rulecodeCompilesWrong : ChangeSpec := { name := "rulecodeCompiles", fn := fun _ => fun
  | [d] => { results := [.lit (.bool false)], args := [d] }
  | _ => none }
def RulecodeCompilesWrongFalsely : Prop := rulecodeCompilesRow.holds Tryz.pinned (OpenSpec.ofChange rulecodeCompilesWrong)

/-- 'quaysidelaw45.RulecodeWell': WHATEVER THE INPUT: true; the input reads as it did. -/
def rulecodeWellSpec : ChangeSpec := { name := "rulecodeWell", fn := fun _ => fun
  | [d] => { results := [.lit (.bool true)], args := [d] }
  | _ => none }
def rulecodeWellRow : OpenClaim := { program := "ytkpipkpdnbconaagreatdoor", sum := "f93059812e6c6a9a2ab8161e8095f164cabcf62d1617f36488eab55dea7efd26", func := "quayside/quaysidelaw45.RulecodeWell", spec := "rulecodeWell", unfollowed := true, recurses := true, named := ["quayside/rulelex.keywords", "strconv.ErrSyntax", "strconv.ErrRange", "internal/strconv.uint64pow10", "math/bits.deBruijn32tab", "math/bits.deBruijn64tab", "quayside/rulecode.predeclared", "quayside/rulecode.functions", "quayside/rulecode.operators"], loops := true, apart := false, laid := [("math/bits.deBruijn32tab", laid_math_bits_deBruijn32tab), ("math/bits.deBruijn64tab", laid_math_bits_deBruijn64tab), ("internal/strconv.uint64pow10", laid_internal_strconv_uint64pow10), ("strconv.ErrRange", laid_strconv_ErrRange), ("strconv.ErrSyntax", laid_strconv_ErrSyntax), ("quayside/rulelex.keywords", laid_quayside_rulelex_keywords), ("quayside/rulecode.predeclared", laid_quayside_rulecode_predeclared), ("quayside/rulecode.functions", laid_quayside_rulecode_functions), ("quayside/rulecode.operators", laid_quayside_rulecode_operators)] }
def RulecodeWellSaid : Prop := rulecodeWellRow.holds Tryz.pinned (OpenSpec.ofChange rulecodeWellSpec)

/-- ITS FALSE NEIGHBOUR: 'it returns false'. Refute it at one input. -/
def rulecodeWellWrong : ChangeSpec := { name := "rulecodeWell", fn := fun _ => fun
  | [d] => { results := [.lit (.bool false)], args := [d] }
  | _ => none }
def RulecodeWellWrongFalsely : Prop := rulecodeWellRow.holds Tryz.pinned (OpenSpec.ofChange rulecodeWellWrong)

/-- 'quaysidelaw45.RulecodeChecks': WHATEVER THE INPUT: true; the input reads as it did. -/
def rulecodeChecksSpec : ChangeSpec := { name := "rulecodeChecks", fn := fun _ => fun
  | [d] => { results := [.lit (.bool true)], args := [d] }
  | _ => none }
def rulecodeChecksRow : OpenClaim := { program := "ytkpipkpdnbconaagreatdoor", sum := "f93059812e6c6a9a2ab8161e8095f164cabcf62d1617f36488eab55dea7efd26", func := "quayside/quaysidelaw45.RulecodeChecks", spec := "rulecodeChecks", unfollowed := true, recurses := true, named := ["quayside/rulelex.keywords", "strconv.ErrSyntax", "strconv.ErrRange", "internal/strconv.uint64pow10", "math/bits.deBruijn32tab", "math/bits.deBruijn64tab", "quayside/rulecode.predeclared", "quayside/rulecode.functions", "quayside/rulecode.operators"], apart := false, laid := [("math/bits.deBruijn32tab", laid_math_bits_deBruijn32tab), ("math/bits.deBruijn64tab", laid_math_bits_deBruijn64tab), ("internal/strconv.uint64pow10", laid_internal_strconv_uint64pow10), ("strconv.ErrRange", laid_strconv_ErrRange), ("strconv.ErrSyntax", laid_strconv_ErrSyntax), ("quayside/rulelex.keywords", laid_quayside_rulelex_keywords), ("quayside/rulecode.predeclared", laid_quayside_rulecode_predeclared), ("quayside/rulecode.functions", laid_quayside_rulecode_functions), ("quayside/rulecode.operators", laid_quayside_rulecode_operators)] }
def RulecodeChecksSaid : Prop := rulecodeChecksRow.holds Tryz.pinned (OpenSpec.ofChange rulecodeChecksSpec)

/-- ITS FALSE NEIGHBOUR: 'it returns false'. Refute it at one input. -/
def rulecodeChecksWrong : ChangeSpec := { name := "rulecodeChecks", fn := fun _ => fun
  | [d] => { results := [.lit (.bool false)], args := [d] }
  | _ => none }
def RulecodeChecksWrongFalsely : Prop := rulecodeChecksRow.holds Tryz.pinned (OpenSpec.ofChange rulecodeChecksWrong)

/-- 'quaysidelaw45.RulecodeFormats': WHATEVER THE INPUT: true; the input reads as it did. -/
def rulecodeFormatsSpec : ChangeSpec := { name := "rulecodeFormats", fn := fun _ => fun
  | [d] => { results := [.lit (.bool true)], args := [d] }
  | _ => none }
def rulecodeFormatsRow : OpenClaim := { program := "ytkpipkpdnbconaagreatdoor", sum := "f93059812e6c6a9a2ab8161e8095f164cabcf62d1617f36488eab55dea7efd26", func := "quayside/quaysidelaw45.RulecodeFormats", spec := "rulecodeFormats", inPlace := ["internal/abi.NoEscape"], unfollowed := true, recurses := true, named := ["quayside/rulelex.keywords", "strconv.ErrSyntax", "strconv.ErrRange", "internal/strconv.uint64pow10", "math/bits.deBruijn32tab", "math/bits.deBruijn64tab", "quayside/rulecode.predeclared", "quayside/rulecode.functions", "quayside/rulecode.operators", "quayside/rulecode.words"], apart := false, laid := [("math/bits.deBruijn32tab", laid_math_bits_deBruijn32tab), ("math/bits.deBruijn64tab", laid_math_bits_deBruijn64tab), ("internal/strconv.uint64pow10", laid_internal_strconv_uint64pow10), ("strconv.ErrRange", laid_strconv_ErrRange), ("strconv.ErrSyntax", laid_strconv_ErrSyntax), ("quayside/rulelex.keywords", laid_quayside_rulelex_keywords), ("quayside/rulecode.predeclared", laid_quayside_rulecode_predeclared), ("quayside/rulecode.functions", laid_quayside_rulecode_functions), ("quayside/rulecode.operators", laid_quayside_rulecode_operators), ("quayside/rulecode.words", laid_quayside_rulecode_words)] }
def RulecodeFormatsSaid : Prop := rulecodeFormatsRow.holds Tryz.pinned (OpenSpec.ofChange rulecodeFormatsSpec)

/-- ITS FALSE NEIGHBOUR: 'it returns false'. Refute it at one input. -/
def rulecodeFormatsWrong : ChangeSpec := { name := "rulecodeFormats", fn := fun _ => fun
  | [d] => { results := [.lit (.bool false)], args := [d] }
  | _ => none }
def RulecodeFormatsWrongFalsely : Prop := rulecodeFormatsRow.holds Tryz.pinned (OpenSpec.ofChange rulecodeFormatsWrong)

/-- 'quaysidelaw45.RulecodeSteps': WHATEVER THE INPUT: true; the input reads as it did. -/
def rulecodeStepsSpec : ChangeSpec := { name := "rulecodeSteps", fn := fun _ => fun
  | [d] => { results := [.lit (.bool true)], args := [d] }
  | _ => none }
def rulecodeStepsRow : OpenClaim := { program := "ytkpipkpdnbconaagreatdoor", sum := "f93059812e6c6a9a2ab8161e8095f164cabcf62d1617f36488eab55dea7efd26", func := "quayside/quaysidelaw45.RulecodeSteps", spec := "rulecodeSteps", unfollowed := true, recurses := true, named := ["quayside/rulelex.keywords", "strconv.ErrSyntax", "strconv.ErrRange", "internal/strconv.uint64pow10", "math/bits.deBruijn32tab", "math/bits.deBruijn64tab", "quayside/rulecode.predeclared", "quayside/rulecode.functions", "quayside/rulecode.operators"], loops := true, apart := false, laid := [("math/bits.deBruijn32tab", laid_math_bits_deBruijn32tab), ("math/bits.deBruijn64tab", laid_math_bits_deBruijn64tab), ("internal/strconv.uint64pow10", laid_internal_strconv_uint64pow10), ("strconv.ErrRange", laid_strconv_ErrRange), ("strconv.ErrSyntax", laid_strconv_ErrSyntax), ("quayside/rulelex.keywords", laid_quayside_rulelex_keywords), ("quayside/rulecode.predeclared", laid_quayside_rulecode_predeclared), ("quayside/rulecode.functions", laid_quayside_rulecode_functions), ("quayside/rulecode.operators", laid_quayside_rulecode_operators)] }
def RulecodeStepsSaid : Prop := rulecodeStepsRow.holds Tryz.pinned (OpenSpec.ofChange rulecodeStepsSpec)

/-- ITS FALSE NEIGHBOUR: 'it returns false'. Refute it at one input. -/
def rulecodeStepsWrong : ChangeSpec := { name := "rulecodeSteps", fn := fun _ => fun
  | [d] => { results := [.lit (.bool false)], args := [d] }
  | _ => none }
def RulecodeStepsWrongFalsely : Prop := rulecodeStepsRow.holds Tryz.pinned (OpenSpec.ofChange rulecodeStepsWrong)

/- THE SECOND FORM. 'bulk': how many values and letters a reading holds, each counted each time it is reached (what is shared counts as often as it is met; a slice's spare places count too). A statement '..UptoSaid' is the law's where the arguments, and the package variables that the reading takes, are together of bulk at most 1048576: NARROWER than '..Said'. Prove '..Said' where nothing that the law and all that it calls make is longer than what came in: it says more and counts as full. Else prove '..UptoSaid'. A law counts once. -/
mutual
def uptoBulk {H : Type} : DataW H → Nat
  | .lit (.string bytes) => bytes.length + 1
  | .lit _ => 1
  | .nil => 1
  | .ptr d => uptoBulk d + 1
  | .slice elems spare => uptoBulkAll elems + uptoBulkAll spare + 1
  | .agg parts => uptoBulkAll parts + 1
  | .iface _ d => uptoBulk d + 1
  | .map entries => uptoBulkEntries entries + 1
  | .held _ => 1
def uptoBulkAll {H : Type} : List (DataW H) → Nat
  | [] => 0
  | d :: r => uptoBulk d + uptoBulkAll r
def uptoBulkEntries {H : Type} : List (Lit × DataW H) → Nat
  | [] => 0
  | x :: r => uptoBulkEntry x + uptoBulkEntries r
def uptoBulkEntry {H : Type} : Lit × DataW H → Nat
  | (.string bytes, d) => bytes.length + uptoBulk d + 1
  | (_, d) => uptoBulk d + 1
 end
def uptoSmall : (H : Type) → List (DataW H) → Bool := fun _ ds => decide (uptoBulkAll ds ≤ 1048576)
def OpenSpec.upto (s : _root_.Go.ChangeSpec) : _root_.Go.OpenSpec := { _root_.Go.OpenSpec.ofChange s with cond := some uptoSmall }

/-- 'quaysidelaw45.RulecodeCompiles', WHERE WHAT IT READS IS OF BULK AT MOST 1048576: true; the input reads as it did. -/
def rulecodeCompilesUptoRow : OpenClaim := { program := "ytkpipkpdnbconaagreatdoor", sum := "f93059812e6c6a9a2ab8161e8095f164cabcf62d1617f36488eab55dea7efd26", func := "quayside/quaysidelaw45.RulecodeCompiles", spec := "rulecodeCompiles", unfollowed := true, recurses := true, named := ["quayside/rulelex.keywords", "strconv.ErrSyntax", "strconv.ErrRange", "internal/strconv.uint64pow10", "math/bits.deBruijn32tab", "math/bits.deBruijn64tab", "quayside/rulecode.predeclared", "quayside/rulecode.functions", "quayside/rulecode.operators"], loops := true, apart := false, laid := [("math/bits.deBruijn32tab", laid_math_bits_deBruijn32tab), ("math/bits.deBruijn64tab", laid_math_bits_deBruijn64tab), ("internal/strconv.uint64pow10", laid_internal_strconv_uint64pow10), ("strconv.ErrRange", laid_strconv_ErrRange), ("strconv.ErrSyntax", laid_strconv_ErrSyntax), ("quayside/rulelex.keywords", laid_quayside_rulelex_keywords), ("quayside/rulecode.predeclared", laid_quayside_rulecode_predeclared), ("quayside/rulecode.functions", laid_quayside_rulecode_functions), ("quayside/rulecode.operators", laid_quayside_rulecode_operators)], narrowed := true }
def RulecodeCompilesUptoSaid : Prop := rulecodeCompilesUptoRow.holds Tryz.pinned (OpenSpec.upto rulecodeCompilesSpec)

/-- 'quaysidelaw45.RulecodeWell', WHERE WHAT IT READS IS OF BULK AT MOST 1048576: true; the input reads as it did. -/
def rulecodeWellUptoRow : OpenClaim := { program := "ytkpipkpdnbconaagreatdoor", sum := "f93059812e6c6a9a2ab8161e8095f164cabcf62d1617f36488eab55dea7efd26", func := "quayside/quaysidelaw45.RulecodeWell", spec := "rulecodeWell", unfollowed := true, recurses := true, named := ["quayside/rulelex.keywords", "strconv.ErrSyntax", "strconv.ErrRange", "internal/strconv.uint64pow10", "math/bits.deBruijn32tab", "math/bits.deBruijn64tab", "quayside/rulecode.predeclared", "quayside/rulecode.functions", "quayside/rulecode.operators"], loops := true, apart := false, laid := [("math/bits.deBruijn32tab", laid_math_bits_deBruijn32tab), ("math/bits.deBruijn64tab", laid_math_bits_deBruijn64tab), ("internal/strconv.uint64pow10", laid_internal_strconv_uint64pow10), ("strconv.ErrRange", laid_strconv_ErrRange), ("strconv.ErrSyntax", laid_strconv_ErrSyntax), ("quayside/rulelex.keywords", laid_quayside_rulelex_keywords), ("quayside/rulecode.predeclared", laid_quayside_rulecode_predeclared), ("quayside/rulecode.functions", laid_quayside_rulecode_functions), ("quayside/rulecode.operators", laid_quayside_rulecode_operators)], narrowed := true }
def RulecodeWellUptoSaid : Prop := rulecodeWellUptoRow.holds Tryz.pinned (OpenSpec.upto rulecodeWellSpec)

/-- 'quaysidelaw45.RulecodeChecks', WHERE WHAT IT READS IS OF BULK AT MOST 1048576: true; the input reads as it did. -/
def rulecodeChecksUptoRow : OpenClaim := { program := "ytkpipkpdnbconaagreatdoor", sum := "f93059812e6c6a9a2ab8161e8095f164cabcf62d1617f36488eab55dea7efd26", func := "quayside/quaysidelaw45.RulecodeChecks", spec := "rulecodeChecks", unfollowed := true, recurses := true, named := ["quayside/rulelex.keywords", "strconv.ErrSyntax", "strconv.ErrRange", "internal/strconv.uint64pow10", "math/bits.deBruijn32tab", "math/bits.deBruijn64tab", "quayside/rulecode.predeclared", "quayside/rulecode.functions", "quayside/rulecode.operators"], apart := false, laid := [("math/bits.deBruijn32tab", laid_math_bits_deBruijn32tab), ("math/bits.deBruijn64tab", laid_math_bits_deBruijn64tab), ("internal/strconv.uint64pow10", laid_internal_strconv_uint64pow10), ("strconv.ErrRange", laid_strconv_ErrRange), ("strconv.ErrSyntax", laid_strconv_ErrSyntax), ("quayside/rulelex.keywords", laid_quayside_rulelex_keywords), ("quayside/rulecode.predeclared", laid_quayside_rulecode_predeclared), ("quayside/rulecode.functions", laid_quayside_rulecode_functions), ("quayside/rulecode.operators", laid_quayside_rulecode_operators)], narrowed := true }
def RulecodeChecksUptoSaid : Prop := rulecodeChecksUptoRow.holds Tryz.pinned (OpenSpec.upto rulecodeChecksSpec)

/-- 'quaysidelaw45.RulecodeFormats', WHERE WHAT IT READS IS OF BULK AT MOST 1048576: true; the input reads as it did. -/
def rulecodeFormatsUptoRow : OpenClaim := { program := "ytkpipkpdnbconaagreatdoor", sum := "f93059812e6c6a9a2ab8161e8095f164cabcf62d1617f36488eab55dea7efd26", func := "quayside/quaysidelaw45.RulecodeFormats", spec := "rulecodeFormats", inPlace := ["internal/abi.NoEscape"], unfollowed := true, recurses := true, named := ["quayside/rulelex.keywords", "strconv.ErrSyntax", "strconv.ErrRange", "internal/strconv.uint64pow10", "math/bits.deBruijn32tab", "math/bits.deBruijn64tab", "quayside/rulecode.predeclared", "quayside/rulecode.functions", "quayside/rulecode.operators", "quayside/rulecode.words"], apart := false, laid := [("math/bits.deBruijn32tab", laid_math_bits_deBruijn32tab), ("math/bits.deBruijn64tab", laid_math_bits_deBruijn64tab), ("internal/strconv.uint64pow10", laid_internal_strconv_uint64pow10), ("strconv.ErrRange", laid_strconv_ErrRange), ("strconv.ErrSyntax", laid_strconv_ErrSyntax), ("quayside/rulelex.keywords", laid_quayside_rulelex_keywords), ("quayside/rulecode.predeclared", laid_quayside_rulecode_predeclared), ("quayside/rulecode.functions", laid_quayside_rulecode_functions), ("quayside/rulecode.operators", laid_quayside_rulecode_operators), ("quayside/rulecode.words", laid_quayside_rulecode_words)], narrowed := true }
def RulecodeFormatsUptoSaid : Prop := rulecodeFormatsUptoRow.holds Tryz.pinned (OpenSpec.upto rulecodeFormatsSpec)

/-- 'quaysidelaw45.RulecodeSteps', WHERE WHAT IT READS IS OF BULK AT MOST 1048576: true; the input reads as it did. -/
def rulecodeStepsUptoRow : OpenClaim := { program := "ytkpipkpdnbconaagreatdoor", sum := "f93059812e6c6a9a2ab8161e8095f164cabcf62d1617f36488eab55dea7efd26", func := "quayside/quaysidelaw45.RulecodeSteps", spec := "rulecodeSteps", unfollowed := true, recurses := true, named := ["quayside/rulelex.keywords", "strconv.ErrSyntax", "strconv.ErrRange", "internal/strconv.uint64pow10", "math/bits.deBruijn32tab", "math/bits.deBruijn64tab", "quayside/rulecode.predeclared", "quayside/rulecode.functions", "quayside/rulecode.operators"], loops := true, apart := false, laid := [("math/bits.deBruijn32tab", laid_math_bits_deBruijn32tab), ("math/bits.deBruijn64tab", laid_math_bits_deBruijn64tab), ("internal/strconv.uint64pow10", laid_internal_strconv_uint64pow10), ("strconv.ErrRange", laid_strconv_ErrRange), ("strconv.ErrSyntax", laid_strconv_ErrSyntax), ("quayside/rulelex.keywords", laid_quayside_rulelex_keywords), ("quayside/rulecode.predeclared", laid_quayside_rulecode_predeclared), ("quayside/rulecode.functions", laid_quayside_rulecode_functions), ("quayside/rulecode.operators", laid_quayside_rulecode_operators)], narrowed := true }
def RulecodeStepsUptoSaid : Prop := rulecodeStepsUptoRow.holds Tryz.pinned (OpenSpec.upto rulecodeStepsSpec)

end Rows
end Go.Proofs.YtkpipkpdnbconaaGreatDoor
