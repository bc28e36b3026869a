/-
  No cell of these rows narrows 'for every input' (looked for: loops, veiled, ifaces, maps, wideKeys, modest, calm, conditions, laid).
  DERIVED. THE GIVEN ROWS OF THIS SEAT. 7 by the template 'for every input the law returns true; each argument reads behind the call as it read before'; 0 by the template 'total and deterministic' (their statements: YtpmdpondlmkojaaTotals.lean).
  GIVEN WITH THE SEED: the statements are not yours to turn. If you find one false, say at which input.
  Laid BY PROGRAM, IN A SANDBOX (cutbox-rows.mjs): the forced cells as the released guide's own fill.sh prints them over the translation 84f5337be5eae9da… (all of the seat's roots in one cut). By AI agents, Wed Nov 11 2026. No macro, syntax, notation, axiom, sorry.
-/
import Derived.Test.YtpmdpondlmkojaaChecked
import GoSem.Claim
import GoSem.ClaimJoined
import GoSem.ClaimMapViews
import Derived.JoinedTies
import Derived.KernelRfl
namespace Go.Proofs.Ytpmdpondlmkojaa
/- THE CELL 'sum', in the pinned program and in every row, IS THE sha256 OF THE DUMP (.gsa) THAT YtpmdpondlmkojaaProg.lean LOADS. Nothing in Lean hashes anything: it is a label: what it is worth is what the hold of that sum in a sandbox is worth. -/
noncomputable def Try.pinned : Pinned := { name := "ytpmdpondlmkojaa", sum := "84f5337be5eae9daa75981f8f3a7d0f239cc825a67bf89a8888552e5d30c40f3", checked := Try.checked }
namespace Rows
def none {H : Type} : Left H := { results := [], args := [] }

/-- 'quaysidelaw28.FanoutCopies': WHATEVER THE INPUT: true; the input reads as it did. -/
def fanoutCopiesSpec : ChangeSpec := { name := "fanoutCopies", fn := fun _ => fun
  | [d1, d2] => { results := [.lit (.bool true)], args := [d1, d2] }
  | _ => none }
def fanoutCopiesRow : OpenClaim := { program := "ytpmdpondlmkojaa", sum := "84f5337be5eae9daa75981f8f3a7d0f239cc825a67bf89a8888552e5d30c40f3", func := "quayside/quaysidelaw28.FanoutCopies", spec := "fanoutCopies", apart := false }
def FanoutCopiesSaid : Prop := fanoutCopiesRow.holds Try.pinned (OpenSpec.ofChange fanoutCopiesSpec)

/-- ITS FALSE NEIGHBOUR: 'it returns false'. Refute it at one input. -/
def fanoutCopiesWrong : ChangeSpec := { name := "fanoutCopies", fn := fun _ => fun
  | [d1, d2] => { results := [.lit (.bool false)], args := [d1, d2] }
  | _ => none }
def FanoutCopiesWrongFalsely : Prop := fanoutCopiesRow.holds Try.pinned (OpenSpec.ofChange fanoutCopiesWrong)

/-- 'quaysidelaw28.FanoutWhole': WHATEVER THE INPUT: true; the input reads as it did. -/
def fanoutWholeSpec : ChangeSpec := { name := "fanoutWhole", fn := fun _ => fun
  | [d1, d2, d3] => { results := [.lit (.bool true)], args := [d1, d2, d3] }
  | _ => none }
def fanoutWholeRow : OpenClaim := { program := "ytpmdpondlmkojaa", sum := "84f5337be5eae9daa75981f8f3a7d0f239cc825a67bf89a8888552e5d30c40f3", func := "quayside/quaysidelaw28.FanoutWhole", spec := "fanoutWhole", apart := false }
def FanoutWholeSaid : Prop := fanoutWholeRow.holds Try.pinned (OpenSpec.ofChange fanoutWholeSpec)

/-- ITS FALSE NEIGHBOUR: 'it returns false'. Refute it at one input. -/
def fanoutWholeWrong : ChangeSpec := { name := "fanoutWhole", fn := fun _ => fun
  | [d1, d2, d3] => { results := [.lit (.bool false)], args := [d1, d2, d3] }
  | _ => none }
def FanoutWholeWrongFalsely : Prop := fanoutWholeRow.holds Try.pinned (OpenSpec.ofChange fanoutWholeWrong)

/-- 'quaysidelaw28.FanoutLimits': WHATEVER THE INPUT: true; the input reads as it did. -/
def fanoutLimitsSpec : ChangeSpec := { name := "fanoutLimits", fn := fun _ => fun
  | [d1, d2] => { results := [.lit (.bool true)], args := [d1, d2] }
  | _ => none }
def fanoutLimitsRow : OpenClaim := { program := "ytpmdpondlmkojaa", sum := "84f5337be5eae9daa75981f8f3a7d0f239cc825a67bf89a8888552e5d30c40f3", func := "quayside/quaysidelaw28.FanoutLimits", spec := "fanoutLimits", apart := false }
def FanoutLimitsSaid : Prop := fanoutLimitsRow.holds Try.pinned (OpenSpec.ofChange fanoutLimitsSpec)

/-- ITS FALSE NEIGHBOUR: 'it returns false'. Refute it at one input. -/
def fanoutLimitsWrong : ChangeSpec := { name := "fanoutLimits", fn := fun _ => fun
  | [d1, d2] => { results := [.lit (.bool false)], args := [d1, d2] }
  | _ => none }
def FanoutLimitsWrongFalsely : Prop := fanoutLimitsRow.holds Try.pinned (OpenSpec.ofChange fanoutLimitsWrong)

/-- 'quaysidelaw28.FanoutAlone': WHATEVER THE INPUT: true; the input reads as it did. -/
def fanoutAloneSpec : ChangeSpec := { name := "fanoutAlone", fn := fun _ => fun
  | [d1, d2] => { results := [.lit (.bool true)], args := [d1, d2] }
  | _ => none }
def fanoutAloneRow : OpenClaim := { program := "ytpmdpondlmkojaa", sum := "84f5337be5eae9daa75981f8f3a7d0f239cc825a67bf89a8888552e5d30c40f3", func := "quayside/quaysidelaw28.FanoutAlone", spec := "fanoutAlone", apart := false }
def FanoutAloneSaid : Prop := fanoutAloneRow.holds Try.pinned (OpenSpec.ofChange fanoutAloneSpec)

/-- ITS FALSE NEIGHBOUR: 'it returns false'. Refute it at one input. -/
def fanoutAloneWrong : ChangeSpec := { name := "fanoutAlone", fn := fun _ => fun
  | [d1, d2] => { results := [.lit (.bool false)], args := [d1, d2] }
  | _ => none }
def FanoutAloneWrongFalsely : Prop := fanoutAloneRow.holds Try.pinned (OpenSpec.ofChange fanoutAloneWrong)

/-- 'quaysidelaw28.FanoutAborts': WHATEVER THE INPUT: true; the input reads as it did. -/
def fanoutAbortsSpec : ChangeSpec := { name := "fanoutAborts", fn := fun _ => fun
  | [d1, d2] => { results := [.lit (.bool true)], args := [d1, d2] }
  | _ => none }
def fanoutAbortsRow : OpenClaim := { program := "ytpmdpondlmkojaa", sum := "84f5337be5eae9daa75981f8f3a7d0f239cc825a67bf89a8888552e5d30c40f3", func := "quayside/quaysidelaw28.FanoutAborts", spec := "fanoutAborts", recurses := true, apart := false }
def FanoutAbortsSaid : Prop := fanoutAbortsRow.holds Try.pinned (OpenSpec.ofChange fanoutAbortsSpec)

/-- ITS FALSE NEIGHBOUR: 'it returns false'. Refute it at one input. -/
def fanoutAbortsWrong : ChangeSpec := { name := "fanoutAborts", fn := fun _ => fun
  | [d1, d2] => { results := [.lit (.bool false)], args := [d1, d2] }
  | _ => none }
def FanoutAbortsWrongFalsely : Prop := fanoutAbortsRow.holds Try.pinned (OpenSpec.ofChange fanoutAbortsWrong)

/-- 'quaysidelaw28.FanoutPlays': WHATEVER THE INPUT: true; the input reads as it did. -/
def fanoutPlaysSpec : ChangeSpec := { name := "fanoutPlays", fn := fun _ => fun
  | [d1, d2] => { results := [.lit (.bool true)], args := [d1, d2] }
  | _ => none }
def fanoutPlaysRow : OpenClaim := { program := "ytpmdpondlmkojaa", sum := "84f5337be5eae9daa75981f8f3a7d0f239cc825a67bf89a8888552e5d30c40f3", func := "quayside/quaysidelaw28.FanoutPlays", spec := "fanoutPlays", recurses := true, apart := false }
def FanoutPlaysSaid : Prop := fanoutPlaysRow.holds Try.pinned (OpenSpec.ofChange fanoutPlaysSpec)

/-- ITS FALSE NEIGHBOUR: 'it returns false'. Refute it at one input. -/
def fanoutPlaysWrong : ChangeSpec := { name := "fanoutPlays", fn := fun _ => fun
  | [d1, d2] => { results := [.lit (.bool false)], args := [d1, d2] }
  | _ => none }
def FanoutPlaysWrongFalsely : Prop := fanoutPlaysRow.holds Try.pinned (OpenSpec.ofChange fanoutPlaysWrong)

/-- 'quaysidelaw28.FanoutNil': WHATEVER THE INPUT: true; the input reads as it did. -/
def fanoutNilSpec : ChangeSpec := { name := "fanoutNil", fn := fun _ => fun
  | [d] => { results := [.lit (.bool true)], args := [d] }
  | _ => none }
def fanoutNilRow : OpenClaim := { program := "ytpmdpondlmkojaa", sum := "84f5337be5eae9daa75981f8f3a7d0f239cc825a67bf89a8888552e5d30c40f3", func := "quayside/quaysidelaw28.FanoutNil", spec := "fanoutNil", recurses := true, apart := false }
def FanoutNilSaid : Prop := fanoutNilRow.holds Try.pinned (OpenSpec.ofChange fanoutNilSpec)

/-- ITS FALSE NEIGHBOUR: 'it returns false'. Refute it at one input. -/
def fanoutNilWrong : ChangeSpec := { name := "fanoutNil", fn := fun _ => fun
  | [d] => { results := [.lit (.bool false)], args := [d] }
  | _ => none }
def FanoutNilWrongFalsely : Prop := fanoutNilRow.holds Try.pinned (OpenSpec.ofChange fanoutNilWrong)

/- THE SECOND FORM. 'bulk': how many values and letters a reading holds, each counted each time it is reached (what is shared counts as often as it is met; a slice's spare places count too). A statement '..UptoSaid' is the law's where the arguments, and the package variables that the reading takes, are together of bulk at most 1048576: NARROWER than '..Said'. Prove '..Said' where nothing that the law and all that it calls make is longer than what came in: it says more and counts as full. Else prove '..UptoSaid'. A law counts once. -/
mutual
def uptoBulk {H : Type} : DataW H → Nat
  | .lit (.string bytes) => bytes.length + 1
  | .lit _ => 1
  | .nil => 1
  | .ptr d => uptoBulk d + 1
  | .slice elems spare => uptoBulkAll elems + uptoBulkAll spare + 1
  | .agg parts => uptoBulkAll parts + 1
  | .iface _ d => uptoBulk d + 1
  | .map entries => uptoBulkEntries entries + 1
  | .held _ => 1
def uptoBulkAll {H : Type} : List (DataW H) → Nat
  | [] => 0
  | d :: r => uptoBulk d + uptoBulkAll r
def uptoBulkEntries {H : Type} : List (Lit × DataW H) → Nat
  | [] => 0
  | x :: r => uptoBulkEntry x + uptoBulkEntries r
def uptoBulkEntry {H : Type} : Lit × DataW H → Nat
  | (.string bytes, d) => bytes.length + uptoBulk d + 1
  | (_, d) => uptoBulk d + 1
 end
def uptoSmall : (H : Type) → List (DataW H) → Bool := fun _ ds => decide (uptoBulkAll ds ≤ 1048576)
def OpenSpec.upto (s : _root_.Go.ChangeSpec) : _root_.Go.OpenSpec := { _root_.Go.OpenSpec.ofChange s with cond := some uptoSmall }

/-- 'quaysidelaw28.FanoutCopies', WHERE WHAT IT READS IS OF BULK AT MOST 1048576: true; the input reads as it did. -/
def fanoutCopiesUptoRow : OpenClaim := { program := "ytpmdpondlmkojaa", sum := "84f5337be5eae9daa75981f8f3a7d0f239cc825a67bf89a8888552e5d30c40f3", func := "quayside/quaysidelaw28.FanoutCopies", spec := "fanoutCopies", apart := false, narrowed := true }
def FanoutCopiesUptoSaid : Prop := fanoutCopiesUptoRow.holds Try.pinned (OpenSpec.upto fanoutCopiesSpec)

/-- 'quaysidelaw28.FanoutWhole', WHERE WHAT IT READS IS OF BULK AT MOST 1048576: true; the input reads as it did. -/
def fanoutWholeUptoRow : OpenClaim := { program := "ytpmdpondlmkojaa", sum := "84f5337be5eae9daa75981f8f3a7d0f239cc825a67bf89a8888552e5d30c40f3", func := "quayside/quaysidelaw28.FanoutWhole", spec := "fanoutWhole", apart := false, narrowed := true }
def FanoutWholeUptoSaid : Prop := fanoutWholeUptoRow.holds Try.pinned (OpenSpec.upto fanoutWholeSpec)

/-- 'quaysidelaw28.FanoutLimits', WHERE WHAT IT READS IS OF BULK AT MOST 1048576: true; the input reads as it did. -/
def fanoutLimitsUptoRow : OpenClaim := { program := "ytpmdpondlmkojaa", sum := "84f5337be5eae9daa75981f8f3a7d0f239cc825a67bf89a8888552e5d30c40f3", func := "quayside/quaysidelaw28.FanoutLimits", spec := "fanoutLimits", apart := false, narrowed := true }
def FanoutLimitsUptoSaid : Prop := fanoutLimitsUptoRow.holds Try.pinned (OpenSpec.upto fanoutLimitsSpec)

/-- 'quaysidelaw28.FanoutAlone', WHERE WHAT IT READS IS OF BULK AT MOST 1048576: true; the input reads as it did. -/
def fanoutAloneUptoRow : OpenClaim := { program := "ytpmdpondlmkojaa", sum := "84f5337be5eae9daa75981f8f3a7d0f239cc825a67bf89a8888552e5d30c40f3", func := "quayside/quaysidelaw28.FanoutAlone", spec := "fanoutAlone", apart := false, narrowed := true }
def FanoutAloneUptoSaid : Prop := fanoutAloneUptoRow.holds Try.pinned (OpenSpec.upto fanoutAloneSpec)

/-- 'quaysidelaw28.FanoutAborts', WHERE WHAT IT READS IS OF BULK AT MOST 1048576: true; the input reads as it did. -/
def fanoutAbortsUptoRow : OpenClaim := { program := "ytpmdpondlmkojaa", sum := "84f5337be5eae9daa75981f8f3a7d0f239cc825a67bf89a8888552e5d30c40f3", func := "quayside/quaysidelaw28.FanoutAborts", spec := "fanoutAborts", recurses := true, apart := false, narrowed := true }
def FanoutAbortsUptoSaid : Prop := fanoutAbortsUptoRow.holds Try.pinned (OpenSpec.upto fanoutAbortsSpec)

/-- 'quaysidelaw28.FanoutPlays', WHERE WHAT IT READS IS OF BULK AT MOST 1048576: true; the input reads as it did. -/
def fanoutPlaysUptoRow : OpenClaim := { program := "ytpmdpondlmkojaa", sum := "84f5337be5eae9daa75981f8f3a7d0f239cc825a67bf89a8888552e5d30c40f3", func := "quayside/quaysidelaw28.FanoutPlays", spec := "fanoutPlays", recurses := true, apart := false, narrowed := true }
def FanoutPlaysUptoSaid : Prop := fanoutPlaysUptoRow.holds Try.pinned (OpenSpec.upto fanoutPlaysSpec)

/-- 'quaysidelaw28.FanoutNil', WHERE WHAT IT READS IS OF BULK AT MOST 1048576: true; the input reads as it did. -/
def fanoutNilUptoRow : OpenClaim := { program := "ytpmdpondlmkojaa", sum := "84f5337be5eae9daa75981f8f3a7d0f239cc825a67bf89a8888552e5d30c40f3", func := "quayside/quaysidelaw28.FanoutNil", spec := "fanoutNil", recurses := true, apart := false, narrowed := true }
def FanoutNilUptoSaid : Prop := fanoutNilUptoRow.holds Try.pinned (OpenSpec.upto fanoutNilSpec)

end Rows
end Go.Proofs.Ytpmdpondlmkojaa
