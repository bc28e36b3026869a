/-
  NARROWER THAN 'FOR EVERY INPUT', by the rows' own cells (each row's printed sentence says how): RuletypeChecks: loops, laid · RuletypePrefixes: loops, laid · RuletypeLines: loops, laid · RuletypeScopes: loops, laid · RuletypeOf: loops, laid · RuletypeNames: loops, laid · RuletypeWorst: loops, laid · RuletypeSums: loops, laid.
  DERIVED. THE GIVEN ROWS OF THIS SEAT. 8 by the template 'for every input the law returns true; each argument reads behind the call as it read before'; 0 by the template 'total and deterministic' (their statements: YtdnelkmckpapgaaDoorTotals.lean).
  GIVEN WITH THE SEED: the statements are not yours to turn. If you find one false, say at which input.
  Laid BY PROGRAM, IN A SANDBOX (cutbox-rows.mjs): the forced cells as the released guide's own fill.sh prints them over the translation 6a3ed52f4ea0707c… (all of the seat's roots in one cut). By AI agents, Wed Nov 11 2026. No macro, syntax, notation, axiom, sorry.
-/
import Derived.Test.YtdnelkmckpapgaaDoorChecked
import GoSem.Claim
import GoSem.ClaimJoined
import GoSem.ClaimMapViews
import Derived.JoinedTies
import Derived.KernelRfl
namespace Go.Proofs.YtdnelkmckpapgaaDoor
/- THE CELL 'sum', in the pinned program and in every row, IS THE sha256 OF THE DUMP (.gsa) THAT YtdnelkmckpapgaaDoorProg.lean LOADS. Nothing in Lean hashes anything: it is a label: what it is worth is what the hold of that sum in a sandbox is worth. -/
noncomputable def Tryd.pinned : Pinned := { name := "ytdnelkmckpapgaadoor", sum := "6a3ed52f4ea0707cf5dfa5b2631f7d33833115d1ce791c6f161c4bb88484108c", checked := Tryd.checked }
namespace Rows
def none {H : Type} : Left H := { results := [], args := [] }

/- WHAT THE LISTED PACKAGE-LEVEL VARIABLES READ AS WHEN THE CALL BEGINS. Each datum BY PROGRAM (the guide's laid-datum.mjs) off the statement by which the dump's own 'gosem.cut.vars' lays the variable. In a bare row this is a premise. The card (YtdnelkmckpapgaaDoorCards.lean) ties it to the program's text. -/
def laid_quayside_rulelex_keywords {H : Type} : DataW H := .slice [.lit (.string [105, 102]), .lit (.string [101, 108, 115, 101]), .lit (.string [108, 101, 116]), .lit (.string [118, 97, 114, 121]), .lit (.string [116, 97, 103]), .lit (.string [116, 116, 108]), .lit (.string [100, 101, 110, 121]), .lit (.string [112, 97, 115, 115]), .lit (.string [116, 111, 107, 101, 110]), .lit (.string [111, 114]), .lit (.string [97, 110, 100]), .lit (.string [110, 111, 116]), .lit (.string [115, 116, 97, 114, 116, 115]), .lit (.string [101, 110, 100, 115]), .lit (.string [99, 111, 110, 116, 97, 105, 110, 115]), .lit (.string [116, 114, 117, 101]), .lit (.string [102, 97, 108, 115, 101])] []

/-- 'quaysidelaw44.RuletypeChecks': WHATEVER THE INPUT: true; the input reads as it did. -/
def ruletypeChecksSpec : ChangeSpec := { name := "ruletypeChecks", fn := fun _ => fun
  | [d] => { results := [.lit (.bool true)], args := [d] }
  | _ => none }
def ruletypeChecksRow : OpenClaim := { program := "ytdnelkmckpapgaadoor", sum := "6a3ed52f4ea0707cf5dfa5b2631f7d33833115d1ce791c6f161c4bb88484108c", func := "quayside/quaysidelaw44.RuletypeChecks", spec := "ruletypeChecks", unfollowed := true, recurses := true, named := ["quayside/rulelex.keywords"], loops := true, apart := false, laid := [("quayside/rulelex.keywords", laid_quayside_rulelex_keywords)] }
def RuletypeChecksSaid : Prop := ruletypeChecksRow.holds Tryd.pinned (OpenSpec.ofChange ruletypeChecksSpec)

/-- ITS FALSE NEIGHBOUR: 'it returns false'. Refute it at one input. -/
def ruletypeChecksWrong : ChangeSpec := { name := "ruletypeChecks", fn := fun _ => fun
  | [d] => { results := [.lit (.bool false)], args := [d] }
  | _ => none }
def RuletypeChecksWrongFalsely : Prop := ruletypeChecksRow.holds Tryd.pinned (OpenSpec.ofChange ruletypeChecksWrong)

/-- 'quaysidelaw44.RuletypePrefixes': WHATEVER THE INPUT: true; the input reads as it did. -/
def ruletypePrefixesSpec : ChangeSpec := { name := "ruletypePrefixes", fn := fun _ => fun
  | [d1, d2] => { results := [.lit (.bool true)], args := [d1, d2] }
  | _ => none }
def ruletypePrefixesRow : OpenClaim := { program := "ytdnelkmckpapgaadoor", sum := "6a3ed52f4ea0707cf5dfa5b2631f7d33833115d1ce791c6f161c4bb88484108c", func := "quayside/quaysidelaw44.RuletypePrefixes", spec := "ruletypePrefixes", unfollowed := true, recurses := true, named := ["quayside/rulelex.keywords"], loops := true, apart := false, laid := [("quayside/rulelex.keywords", laid_quayside_rulelex_keywords)] }
def RuletypePrefixesSaid : Prop := ruletypePrefixesRow.holds Tryd.pinned (OpenSpec.ofChange ruletypePrefixesSpec)

/-- ITS FALSE NEIGHBOUR: 'it returns false'. Refute it at one input. -/
def ruletypePrefixesWrong : ChangeSpec := { name := "ruletypePrefixes", fn := fun _ => fun
  | [d1, d2] => { results := [.lit (.bool false)], args := [d1, d2] }
  | _ => none }
def RuletypePrefixesWrongFalsely : Prop := ruletypePrefixesRow.holds Tryd.pinned (OpenSpec.ofChange ruletypePrefixesWrong)

/-- 'quaysidelaw44.RuletypeLines': WHATEVER THE INPUT: true; the input reads as it did. -/
def ruletypeLinesSpec : ChangeSpec := { name := "ruletypeLines", fn := fun _ => fun
  | [d1, d2] => { results := [.lit (.bool true)], args := [d1, d2] }
  | _ => none }
def ruletypeLinesRow : OpenClaim := { program := "ytdnelkmckpapgaadoor", sum := "6a3ed52f4ea0707cf5dfa5b2631f7d33833115d1ce791c6f161c4bb88484108c", func := "quayside/quaysidelaw44.RuletypeLines", spec := "ruletypeLines", unfollowed := true, recurses := true, named := ["quayside/rulelex.keywords"], loops := true, apart := false, laid := [("quayside/rulelex.keywords", laid_quayside_rulelex_keywords)] }
def RuletypeLinesSaid : Prop := ruletypeLinesRow.holds Tryd.pinned (OpenSpec.ofChange ruletypeLinesSpec)

/-- ITS FALSE NEIGHBOUR: 'it returns false'. Refute it at one input. -/
def ruletypeLinesWrong : ChangeSpec := { name := "ruletypeLines", fn := fun _ => fun
  | [d1, d2] => { results := [.lit (.bool false)], args := [d1, d2] }
  | _ => none }
def RuletypeLinesWrongFalsely : Prop := ruletypeLinesRow.holds Tryd.pinned (OpenSpec.ofChange ruletypeLinesWrong)

/-- 'quaysidelaw44.RuletypeScopes': WHATEVER THE INPUT: true; the input reads as it did. -/
def ruletypeScopesSpec : ChangeSpec := { name := "ruletypeScopes", fn := fun _ => fun
  | [d] => { results := [.lit (.bool true)], args := [d] }
  | _ => none }
def ruletypeScopesRow : OpenClaim := { program := "ytdnelkmckpapgaadoor", sum := "6a3ed52f4ea0707cf5dfa5b2631f7d33833115d1ce791c6f161c4bb88484108c", func := "quayside/quaysidelaw44.RuletypeScopes", spec := "ruletypeScopes", unfollowed := true, recurses := true, named := ["quayside/rulelex.keywords"], loops := true, apart := false, laid := [("quayside/rulelex.keywords", laid_quayside_rulelex_keywords)] }
def RuletypeScopesSaid : Prop := ruletypeScopesRow.holds Tryd.pinned (OpenSpec.ofChange ruletypeScopesSpec)

/-- ITS FALSE NEIGHBOUR: 'it returns false'. Refute it at one input. -/
def ruletypeScopesWrong : ChangeSpec := { name := "ruletypeScopes", fn := fun _ => fun
  | [d] => { results := [.lit (.bool false)], args := [d] }
  | _ => none }
def RuletypeScopesWrongFalsely : Prop := ruletypeScopesRow.holds Tryd.pinned (OpenSpec.ofChange ruletypeScopesWrong)

/-- 'quaysidelaw44.RuletypeOf': WHATEVER THE INPUT: true; the input reads as it did. -/
def ruletypeOfSpec : ChangeSpec := { name := "ruletypeOf", fn := fun _ => fun
  | [d1, d2] => { results := [.lit (.bool true)], args := [d1, d2] }
  | _ => none }
def ruletypeOfRow : OpenClaim := { program := "ytdnelkmckpapgaadoor", sum := "6a3ed52f4ea0707cf5dfa5b2631f7d33833115d1ce791c6f161c4bb88484108c", func := "quayside/quaysidelaw44.RuletypeOf", spec := "ruletypeOf", unfollowed := true, recurses := true, named := ["quayside/rulelex.keywords"], loops := true, apart := false, laid := [("quayside/rulelex.keywords", laid_quayside_rulelex_keywords)] }
def RuletypeOfSaid : Prop := ruletypeOfRow.holds Tryd.pinned (OpenSpec.ofChange ruletypeOfSpec)

/-- ITS FALSE NEIGHBOUR: 'it returns false'. Refute it at one input. -/
def ruletypeOfWrong : ChangeSpec := { name := "ruletypeOf", fn := fun _ => fun
  | [d1, d2] => { results := [.lit (.bool false)], args := [d1, d2] }
  | _ => none }
def RuletypeOfWrongFalsely : Prop := ruletypeOfRow.holds Tryd.pinned (OpenSpec.ofChange ruletypeOfWrong)

/-- 'quaysidelaw44.RuletypeNames': WHATEVER THE INPUT: true; the input reads as it did. -/
def ruletypeNamesSpec : ChangeSpec := { name := "ruletypeNames", fn := fun _ => fun
  | [d1, d2] => { results := [.lit (.bool true)], args := [d1, d2] }
  | _ => none }
def ruletypeNamesRow : OpenClaim := { program := "ytdnelkmckpapgaadoor", sum := "6a3ed52f4ea0707cf5dfa5b2631f7d33833115d1ce791c6f161c4bb88484108c", func := "quayside/quaysidelaw44.RuletypeNames", spec := "ruletypeNames", unfollowed := true, recurses := true, named := ["quayside/rulelex.keywords"], loops := true, apart := false, laid := [("quayside/rulelex.keywords", laid_quayside_rulelex_keywords)] }
def RuletypeNamesSaid : Prop := ruletypeNamesRow.holds Tryd.pinned (OpenSpec.ofChange ruletypeNamesSpec)

/-- ITS FALSE NEIGHBOUR: 'it returns false'. Refute it at one input. -/
def ruletypeNamesWrong : ChangeSpec := { name := "ruletypeNames", fn := fun _ => fun
  | [d1, d2] => { results := [.lit (.bool false)], args := [d1, d2] }
  | _ => none }
def RuletypeNamesWrongFalsely : Prop := ruletypeNamesRow.holds Tryd.pinned (OpenSpec.ofChange ruletypeNamesWrong)

/-- 'quaysidelaw44.RuletypeWorst': WHATEVER THE INPUT: true; the input reads as it did. -/
def ruletypeWorstSpec : ChangeSpec := { name := "ruletypeWorst", fn := fun _ => fun
  | [d] => { results := [.lit (.bool true)], args := [d] }
  | _ => none }
def ruletypeWorstRow : OpenClaim := { program := "ytdnelkmckpapgaadoor", sum := "6a3ed52f4ea0707cf5dfa5b2631f7d33833115d1ce791c6f161c4bb88484108c", func := "quayside/quaysidelaw44.RuletypeWorst", spec := "ruletypeWorst", unfollowed := true, recurses := true, named := ["quayside/rulelex.keywords"], loops := true, apart := false, laid := [("quayside/rulelex.keywords", laid_quayside_rulelex_keywords)] }
def RuletypeWorstSaid : Prop := ruletypeWorstRow.holds Tryd.pinned (OpenSpec.ofChange ruletypeWorstSpec)

/-- ITS FALSE NEIGHBOUR: 'it returns false'. Refute it at one input. -/
def ruletypeWorstWrong : ChangeSpec := { name := "ruletypeWorst", fn := fun _ => fun
  | [d] => { results := [.lit (.bool false)], args := [d] }
  | _ => none }
def RuletypeWorstWrongFalsely : Prop := ruletypeWorstRow.holds Tryd.pinned (OpenSpec.ofChange ruletypeWorstWrong)

/-- 'quaysidelaw44.RuletypeSums': WHATEVER THE INPUT: true; the input reads as it did. -/
def ruletypeSumsSpec : ChangeSpec := { name := "ruletypeSums", fn := fun _ => fun
  | [d1, d2] => { results := [.lit (.bool true)], args := [d1, d2] }
  | _ => none }
def ruletypeSumsRow : OpenClaim := { program := "ytdnelkmckpapgaadoor", sum := "6a3ed52f4ea0707cf5dfa5b2631f7d33833115d1ce791c6f161c4bb88484108c", func := "quayside/quaysidelaw44.RuletypeSums", spec := "ruletypeSums", unfollowed := true, recurses := true, named := ["quayside/rulelex.keywords"], loops := true, apart := false, laid := [("quayside/rulelex.keywords", laid_quayside_rulelex_keywords)] }
def RuletypeSumsSaid : Prop := ruletypeSumsRow.holds Tryd.pinned (OpenSpec.ofChange ruletypeSumsSpec)

/-- ITS FALSE NEIGHBOUR: 'it returns false'. Refute it at one input. -/
def ruletypeSumsWrong : ChangeSpec := { name := "ruletypeSums", fn := fun _ => fun
  | [d1, d2] => { results := [.lit (.bool false)], args := [d1, d2] }
  | _ => none }
def RuletypeSumsWrongFalsely : Prop := ruletypeSumsRow.holds Tryd.pinned (OpenSpec.ofChange ruletypeSumsWrong)

/- THE SECOND FORM. 'bulk': how many values and letters a reading holds, each counted each time it is reached (what is shared counts as often as it is met; a slice's spare places count too). A statement '..UptoSaid' is the law's where the arguments, and the package variables that the reading takes, are together of bulk at most 1048576: NARROWER than '..Said'. Prove '..Said' where nothing that the law and all that it calls make is longer than what came in: it says more and counts as full. Else prove '..UptoSaid'. A law counts once. -/
mutual
def uptoBulk {H : Type} : DataW H → Nat
  | .lit (.string bytes) => bytes.length + 1
  | .lit _ => 1
  | .nil => 1
  | .ptr d => uptoBulk d + 1
  | .slice elems spare => uptoBulkAll elems + uptoBulkAll spare + 1
  | .agg parts => uptoBulkAll parts + 1
  | .iface _ d => uptoBulk d + 1
  | .map entries => uptoBulkEntries entries + 1
  | .held _ => 1
def uptoBulkAll {H : Type} : List (DataW H) → Nat
  | [] => 0
  | d :: r => uptoBulk d + uptoBulkAll r
def uptoBulkEntries {H : Type} : List (Lit × DataW H) → Nat
  | [] => 0
  | x :: r => uptoBulkEntry x + uptoBulkEntries r
def uptoBulkEntry {H : Type} : Lit × DataW H → Nat
  | (.string bytes, d) => bytes.length + uptoBulk d + 1
  | (_, d) => uptoBulk d + 1
 end
def uptoSmall : (H : Type) → List (DataW H) → Bool := fun _ ds => decide (uptoBulkAll ds ≤ 1048576)
def OpenSpec.upto (s : _root_.Go.ChangeSpec) : _root_.Go.OpenSpec := { _root_.Go.OpenSpec.ofChange s with cond := some uptoSmall }

/-- 'quaysidelaw44.RuletypeChecks', WHERE WHAT IT READS IS OF BULK AT MOST 1048576: true; the input reads as it did. -/
def ruletypeChecksUptoRow : OpenClaim := { program := "ytdnelkmckpapgaadoor", sum := "6a3ed52f4ea0707cf5dfa5b2631f7d33833115d1ce791c6f161c4bb88484108c", func := "quayside/quaysidelaw44.RuletypeChecks", spec := "ruletypeChecks", unfollowed := true, recurses := true, named := ["quayside/rulelex.keywords"], loops := true, apart := false, laid := [("quayside/rulelex.keywords", laid_quayside_rulelex_keywords)], narrowed := true }
def RuletypeChecksUptoSaid : Prop := ruletypeChecksUptoRow.holds Tryd.pinned (OpenSpec.upto ruletypeChecksSpec)

/-- 'quaysidelaw44.RuletypePrefixes', WHERE WHAT IT READS IS OF BULK AT MOST 1048576: true; the input reads as it did. -/
def ruletypePrefixesUptoRow : OpenClaim := { program := "ytdnelkmckpapgaadoor", sum := "6a3ed52f4ea0707cf5dfa5b2631f7d33833115d1ce791c6f161c4bb88484108c", func := "quayside/quaysidelaw44.RuletypePrefixes", spec := "ruletypePrefixes", unfollowed := true, recurses := true, named := ["quayside/rulelex.keywords"], loops := true, apart := false, laid := [("quayside/rulelex.keywords", laid_quayside_rulelex_keywords)], narrowed := true }
def RuletypePrefixesUptoSaid : Prop := ruletypePrefixesUptoRow.holds Tryd.pinned (OpenSpec.upto ruletypePrefixesSpec)

/-- 'quaysidelaw44.RuletypeLines', WHERE WHAT IT READS IS OF BULK AT MOST 1048576: true; the input reads as it did. -/
def ruletypeLinesUptoRow : OpenClaim := { program := "ytdnelkmckpapgaadoor", sum := "6a3ed52f4ea0707cf5dfa5b2631f7d33833115d1ce791c6f161c4bb88484108c", func := "quayside/quaysidelaw44.RuletypeLines", spec := "ruletypeLines", unfollowed := true, recurses := true, named := ["quayside/rulelex.keywords"], loops := true, apart := false, laid := [("quayside/rulelex.keywords", laid_quayside_rulelex_keywords)], narrowed := true }
def RuletypeLinesUptoSaid : Prop := ruletypeLinesUptoRow.holds Tryd.pinned (OpenSpec.upto ruletypeLinesSpec)

/-- 'quaysidelaw44.RuletypeScopes', WHERE WHAT IT READS IS OF BULK AT MOST 1048576: true; the input reads as it did. -/
def ruletypeScopesUptoRow : OpenClaim := { program := "ytdnelkmckpapgaadoor", sum := "6a3ed52f4ea0707cf5dfa5b2631f7d33833115d1ce791c6f161c4bb88484108c", func := "quayside/quaysidelaw44.RuletypeScopes", spec := "ruletypeScopes", unfollowed := true, recurses := true, named := ["quayside/rulelex.keywords"], loops := true, apart := false, laid := [("quayside/rulelex.keywords", laid_quayside_rulelex_keywords)], narrowed := true }
def RuletypeScopesUptoSaid : Prop := ruletypeScopesUptoRow.holds Tryd.pinned (OpenSpec.upto ruletypeScopesSpec)

/-- 'quaysidelaw44.RuletypeOf', WHERE WHAT IT READS IS OF BULK AT MOST 1048576: true; the input reads as it did. -/
def ruletypeOfUptoRow : OpenClaim := { program := "ytdnelkmckpapgaadoor", sum := "6a3ed52f4ea0707cf5dfa5b2631f7d33833115d1ce791c6f161c4bb88484108c", func := "quayside/quaysidelaw44.RuletypeOf", spec := "ruletypeOf", unfollowed := true, recurses := true, named := ["quayside/rulelex.keywords"], loops := true, apart := false, laid := [("quayside/rulelex.keywords", laid_quayside_rulelex_keywords)], narrowed := true }
def RuletypeOfUptoSaid : Prop := ruletypeOfUptoRow.holds Tryd.pinned (OpenSpec.upto ruletypeOfSpec)

/-- 'quaysidelaw44.RuletypeNames', WHERE WHAT IT READS IS OF BULK AT MOST 1048576: true; the input reads as it did. -/
def ruletypeNamesUptoRow : OpenClaim := { program := "ytdnelkmckpapgaadoor", sum := "6a3ed52f4ea0707cf5dfa5b2631f7d33833115d1ce791c6f161c4bb88484108c", func := "quayside/quaysidelaw44.RuletypeNames", spec := "ruletypeNames", unfollowed := true, recurses := true, named := ["quayside/rulelex.keywords"], loops := true, apart := false, laid := [("quayside/rulelex.keywords", laid_quayside_rulelex_keywords)], narrowed := true }
def RuletypeNamesUptoSaid : Prop := ruletypeNamesUptoRow.holds Tryd.pinned (OpenSpec.upto ruletypeNamesSpec)

/-- 'quaysidelaw44.RuletypeWorst', WHERE WHAT IT READS IS OF BULK AT MOST 1048576: true; the input reads as it did. -/
def ruletypeWorstUptoRow : OpenClaim := { program := "ytdnelkmckpapgaadoor", sum := "6a3ed52f4ea0707cf5dfa5b2631f7d33833115d1ce791c6f161c4bb88484108c", func := "quayside/quaysidelaw44.RuletypeWorst", spec := "ruletypeWorst", unfollowed := true, recurses := true, named := ["quayside/rulelex.keywords"], loops := true, apart := false, laid := [("quayside/rulelex.keywords", laid_quayside_rulelex_keywords)], narrowed := true }
def RuletypeWorstUptoSaid : Prop := ruletypeWorstUptoRow.holds Tryd.pinned (OpenSpec.upto ruletypeWorstSpec)

/-- 'quaysidelaw44.RuletypeSums', WHERE WHAT IT READS IS OF BULK AT MOST 1048576: true; the input reads as it did. -/
def ruletypeSumsUptoRow : OpenClaim := { program := "ytdnelkmckpapgaadoor", sum := "6a3ed52f4ea0707cf5dfa5b2631f7d33833115d1ce791c6f161c4bb88484108c", func := "quayside/quaysidelaw44.RuletypeSums", spec := "ruletypeSums", unfollowed := true, recurses := true, named := ["quayside/rulelex.keywords"], loops := true, apart := false, laid := [("quayside/rulelex.keywords", laid_quayside_rulelex_keywords)], narrowed := true }
def RuletypeSumsUptoSaid : Prop := ruletypeSumsUptoRow.holds Tryd.pinned (OpenSpec.upto ruletypeSumsSpec)

end Rows
end Go.Proofs.YtdnelkmckpapgaaDoor
