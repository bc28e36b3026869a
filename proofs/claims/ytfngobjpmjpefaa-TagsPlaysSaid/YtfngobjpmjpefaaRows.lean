/-
  No cell of these rows narrows 'for every input' (looked for: loops, veiled, ifaces, maps, wideKeys, modest, calm, conditions, laid).
  DERIVED. THE GIVEN ROWS OF THIS SEAT. 6 by the template 'for every input the law returns true; each argument reads behind the call as it read before'; 0 by the template 'total and deterministic' (their statements: YtfngobjpmjpefaaTotals.lean).
  GIVEN WITH THE SEED: the statements are not yours to turn. If you find one false, say at which input.
  Laid BY PROGRAM, IN A SANDBOX (cutbox-rows.mjs): the forced cells as the released guide's own fill.sh prints them over the translation 5af26535a2932f16… (all of the seat's roots in one cut). By AI agents, Wed Nov 11 2026. No macro, syntax, notation, axiom, sorry.
-/
import Derived.Test.YtfngobjpmjpefaaChecked
import GoSem.Claim
import GoSem.ClaimJoined
import GoSem.ClaimMapViews
import Derived.JoinedTies
import Derived.KernelRfl
namespace Go.Proofs.Ytfngobjpmjpefaa
/- THE CELL 'sum', in the pinned program and in every row, IS THE sha256 OF THE DUMP (.gsa) THAT YtfngobjpmjpefaaProg.lean LOADS. Nothing in Lean hashes anything: it is a label: what it is worth is what the hold of that sum in a sandbox is worth. -/
noncomputable def Try.pinned : Pinned := { name := "ytfngobjpmjpefaa", sum := "5af26535a2932f16884af7ba41bb689dbeca3db6d8fa509d0e116788c07013f8", checked := Try.checked }
namespace Rows
def none {H : Type} : Left H := { results := [], args := [] }

/-- 'quaysidelaw35.TagsPlays': WHATEVER THE INPUT: true; the input reads as it did. -/
def tagsPlaysSpec : ChangeSpec := { name := "tagsPlays", fn := fun _ => fun
  | [d1, d2] => { results := [.lit (.bool true)], args := [d1, d2] }
  | _ => none }
def tagsPlaysRow : OpenClaim := { program := "ytfngobjpmjpefaa", sum := "5af26535a2932f16884af7ba41bb689dbeca3db6d8fa509d0e116788c07013f8", func := "quayside/quaysidelaw35.TagsPlays", spec := "tagsPlays", recurses := true, apart := false }
def TagsPlaysSaid : Prop := tagsPlaysRow.holds Try.pinned (OpenSpec.ofChange tagsPlaysSpec)

/-- ITS FALSE NEIGHBOUR: 'it returns false'. Refute it at one input. -/
def tagsPlaysWrong : ChangeSpec := { name := "tagsPlays", fn := fun _ => fun
  | [d1, d2] => { results := [.lit (.bool false)], args := [d1, d2] }
  | _ => none }
def TagsPlaysWrongFalsely : Prop := tagsPlaysRow.holds Try.pinned (OpenSpec.ofChange tagsPlaysWrong)

/-- 'quaysidelaw35.TagsFinds': WHATEVER THE INPUT: true; the input reads as it did. -/
def tagsFindsSpec : ChangeSpec := { name := "tagsFinds", fn := fun _ => fun
  | [d1, d2] => { results := [.lit (.bool true)], args := [d1, d2] }
  | _ => none }
def tagsFindsRow : OpenClaim := { program := "ytfngobjpmjpefaa", sum := "5af26535a2932f16884af7ba41bb689dbeca3db6d8fa509d0e116788c07013f8", func := "quayside/quaysidelaw35.TagsFinds", spec := "tagsFinds", recurses := true, apart := false }
def TagsFindsSaid : Prop := tagsFindsRow.holds Try.pinned (OpenSpec.ofChange tagsFindsSpec)

/-- ITS FALSE NEIGHBOUR: 'it returns false'. Refute it at one input. -/
def tagsFindsWrong : ChangeSpec := { name := "tagsFinds", fn := fun _ => fun
  | [d1, d2] => { results := [.lit (.bool false)], args := [d1, d2] }
  | _ => none }
def TagsFindsWrongFalsely : Prop := tagsFindsRow.holds Try.pinned (OpenSpec.ofChange tagsFindsWrong)

/-- 'quaysidelaw35.TagsPuts': WHATEVER THE INPUT: true; the input reads as it did. -/
def tagsPutsSpec : ChangeSpec := { name := "tagsPuts", fn := fun _ => fun
  | [d1, d2] => { results := [.lit (.bool true)], args := [d1, d2] }
  | _ => none }
def tagsPutsRow : OpenClaim := { program := "ytfngobjpmjpefaa", sum := "5af26535a2932f16884af7ba41bb689dbeca3db6d8fa509d0e116788c07013f8", func := "quayside/quaysidelaw35.TagsPuts", spec := "tagsPuts", recurses := true, apart := false }
def TagsPutsSaid : Prop := tagsPutsRow.holds Try.pinned (OpenSpec.ofChange tagsPutsSpec)

/-- ITS FALSE NEIGHBOUR: 'it returns false'. Refute it at one input. -/
def tagsPutsWrong : ChangeSpec := { name := "tagsPuts", fn := fun _ => fun
  | [d1, d2] => { results := [.lit (.bool false)], args := [d1, d2] }
  | _ => none }
def TagsPutsWrongFalsely : Prop := tagsPutsRow.holds Try.pinned (OpenSpec.ofChange tagsPutsWrong)

/-- 'quaysidelaw35.TagsNone': WHATEVER THE INPUT: true; the input reads as it did. -/
def tagsNoneSpec : ChangeSpec := { name := "tagsNone", fn := fun _ => fun
  | [d] => { results := [.lit (.bool true)], args := [d] }
  | _ => none }
def tagsNoneRow : OpenClaim := { program := "ytfngobjpmjpefaa", sum := "5af26535a2932f16884af7ba41bb689dbeca3db6d8fa509d0e116788c07013f8", func := "quayside/quaysidelaw35.TagsNone", spec := "tagsNone", recurses := true, apart := false }
def TagsNoneSaid : Prop := tagsNoneRow.holds Try.pinned (OpenSpec.ofChange tagsNoneSpec)

/-- ITS FALSE NEIGHBOUR: 'it returns false'. Refute it at one input. -/
def tagsNoneWrong : ChangeSpec := { name := "tagsNone", fn := fun _ => fun
  | [d] => { results := [.lit (.bool false)], args := [d] }
  | _ => none }
def TagsNoneWrongFalsely : Prop := tagsNoneRow.holds Try.pinned (OpenSpec.ofChange tagsNoneWrong)

/-- 'quaysidelaw35.TagsCleans': WHATEVER THE INPUT: true; the input reads as it did. -/
def tagsCleansSpec : ChangeSpec := { name := "tagsCleans", fn := fun _ => fun
  | [d] => { results := [.lit (.bool true)], args := [d] }
  | _ => none }
def tagsCleansRow : OpenClaim := { program := "ytfngobjpmjpefaa", sum := "5af26535a2932f16884af7ba41bb689dbeca3db6d8fa509d0e116788c07013f8", func := "quayside/quaysidelaw35.TagsCleans", spec := "tagsCleans", recurses := true, apart := false }
def TagsCleansSaid : Prop := tagsCleansRow.holds Try.pinned (OpenSpec.ofChange tagsCleansSpec)

/-- ITS FALSE NEIGHBOUR: 'it returns false'. Refute it at one input. -/
def tagsCleansWrong : ChangeSpec := { name := "tagsCleans", fn := fun _ => fun
  | [d] => { results := [.lit (.bool false)], args := [d] }
  | _ => none }
def TagsCleansWrongFalsely : Prop := tagsCleansRow.holds Try.pinned (OpenSpec.ofChange tagsCleansWrong)

/-- 'quaysidelaw35.TagsAgain': WHATEVER THE INPUT: true; the input reads as it did. -/
def tagsAgainSpec : ChangeSpec := { name := "tagsAgain", fn := fun _ => fun
  | [d] => { results := [.lit (.bool true)], args := [d] }
  | _ => none }
def tagsAgainRow : OpenClaim := { program := "ytfngobjpmjpefaa", sum := "5af26535a2932f16884af7ba41bb689dbeca3db6d8fa509d0e116788c07013f8", func := "quayside/quaysidelaw35.TagsAgain", spec := "tagsAgain", recurses := true, apart := false }
def TagsAgainSaid : Prop := tagsAgainRow.holds Try.pinned (OpenSpec.ofChange tagsAgainSpec)

/-- ITS FALSE NEIGHBOUR: 'it returns false'. Refute it at one input. -/
def tagsAgainWrong : ChangeSpec := { name := "tagsAgain", fn := fun _ => fun
  | [d] => { results := [.lit (.bool false)], args := [d] }
  | _ => none }
def TagsAgainWrongFalsely : Prop := tagsAgainRow.holds Try.pinned (OpenSpec.ofChange tagsAgainWrong)

/- THE SECOND FORM. 'bulk': how many values and letters a reading holds, each counted each time it is reached (what is shared counts as often as it is met; a slice's spare places count too). A statement '..UptoSaid' is the law's where the arguments, and the package variables that the reading takes, are together of bulk at most 1048576: NARROWER than '..Said'. Prove '..Said' where nothing that the law and all that it calls make is longer than what came in: it says more and counts as full. Else prove '..UptoSaid'. A law counts once. -/
mutual
def uptoBulk {H : Type} : DataW H → Nat
  | .lit (.string bytes) => bytes.length + 1
  | .lit _ => 1
  | .nil => 1
  | .ptr d => uptoBulk d + 1
  | .slice elems spare => uptoBulkAll elems + uptoBulkAll spare + 1
  | .agg parts => uptoBulkAll parts + 1
  | .iface _ d => uptoBulk d + 1
  | .map entries => uptoBulkEntries entries + 1
  | .held _ => 1
def uptoBulkAll {H : Type} : List (DataW H) → Nat
  | [] => 0
  | d :: r => uptoBulk d + uptoBulkAll r
def uptoBulkEntries {H : Type} : List (Lit × DataW H) → Nat
  | [] => 0
  | x :: r => uptoBulkEntry x + uptoBulkEntries r
def uptoBulkEntry {H : Type} : Lit × DataW H → Nat
  | (.string bytes, d) => bytes.length + uptoBulk d + 1
  | (_, d) => uptoBulk d + 1
 end
def uptoSmall : (H : Type) → List (DataW H) → Bool := fun _ ds => decide (uptoBulkAll ds ≤ 1048576)
def OpenSpec.upto (s : _root_.Go.ChangeSpec) : _root_.Go.OpenSpec := { _root_.Go.OpenSpec.ofChange s with cond := some uptoSmall }

/-- 'quaysidelaw35.TagsPlays', WHERE WHAT IT READS IS OF BULK AT MOST 1048576: true; the input reads as it did. -/
def tagsPlaysUptoRow : OpenClaim := { program := "ytfngobjpmjpefaa", sum := "5af26535a2932f16884af7ba41bb689dbeca3db6d8fa509d0e116788c07013f8", func := "quayside/quaysidelaw35.TagsPlays", spec := "tagsPlays", recurses := true, apart := false, narrowed := true }
def TagsPlaysUptoSaid : Prop := tagsPlaysUptoRow.holds Try.pinned (OpenSpec.upto tagsPlaysSpec)

/-- 'quaysidelaw35.TagsFinds', WHERE WHAT IT READS IS OF BULK AT MOST 1048576: true; the input reads as it did. -/
def tagsFindsUptoRow : OpenClaim := { program := "ytfngobjpmjpefaa", sum := "5af26535a2932f16884af7ba41bb689dbeca3db6d8fa509d0e116788c07013f8", func := "quayside/quaysidelaw35.TagsFinds", spec := "tagsFinds", recurses := true, apart := false, narrowed := true }
def TagsFindsUptoSaid : Prop := tagsFindsUptoRow.holds Try.pinned (OpenSpec.upto tagsFindsSpec)

/-- 'quaysidelaw35.TagsPuts', WHERE WHAT IT READS IS OF BULK AT MOST 1048576: true; the input reads as it did. -/
def tagsPutsUptoRow : OpenClaim := { program := "ytfngobjpmjpefaa", sum := "5af26535a2932f16884af7ba41bb689dbeca3db6d8fa509d0e116788c07013f8", func := "quayside/quaysidelaw35.TagsPuts", spec := "tagsPuts", recurses := true, apart := false, narrowed := true }
def TagsPutsUptoSaid : Prop := tagsPutsUptoRow.holds Try.pinned (OpenSpec.upto tagsPutsSpec)

/-- 'quaysidelaw35.TagsNone', WHERE WHAT IT READS IS OF BULK AT MOST 1048576: true; the input reads as it did. -/
def tagsNoneUptoRow : OpenClaim := { program := "ytfngobjpmjpefaa", sum := "5af26535a2932f16884af7ba41bb689dbeca3db6d8fa509d0e116788c07013f8", func := "quayside/quaysidelaw35.TagsNone", spec := "tagsNone", recurses := true, apart := false, narrowed := true }
def TagsNoneUptoSaid : Prop := tagsNoneUptoRow.holds Try.pinned (OpenSpec.upto tagsNoneSpec)

/-- 'quaysidelaw35.TagsCleans', WHERE WHAT IT READS IS OF BULK AT MOST 1048576: true; the input reads as it did. -/
def tagsCleansUptoRow : OpenClaim := { program := "ytfngobjpmjpefaa", sum := "5af26535a2932f16884af7ba41bb689dbeca3db6d8fa509d0e116788c07013f8", func := "quayside/quaysidelaw35.TagsCleans", spec := "tagsCleans", recurses := true, apart := false, narrowed := true }
def TagsCleansUptoSaid : Prop := tagsCleansUptoRow.holds Try.pinned (OpenSpec.upto tagsCleansSpec)

/-- 'quaysidelaw35.TagsAgain', WHERE WHAT IT READS IS OF BULK AT MOST 1048576: true; the input reads as it did. -/
def tagsAgainUptoRow : OpenClaim := { program := "ytfngobjpmjpefaa", sum := "5af26535a2932f16884af7ba41bb689dbeca3db6d8fa509d0e116788c07013f8", func := "quayside/quaysidelaw35.TagsAgain", spec := "tagsAgain", recurses := true, apart := false, narrowed := true }
def TagsAgainUptoSaid : Prop := tagsAgainUptoRow.holds Try.pinned (OpenSpec.upto tagsAgainSpec)

end Rows
end Go.Proofs.Ytfngobjpmjpefaa
