/-
  No cell of these rows narrows 'for every input' (looked for: loops, veiled, ifaces, maps, wideKeys, modest, calm, conditions, laid).
  DERIVED. THE GIVEN ROWS OF THIS SEAT. 6 by the template 'for every input the law returns true; each argument reads behind the call as it read before'; 0 by the template 'total and deterministic' (their statements: YtlpjmfojahofnaaTotals.lean).
  GIVEN WITH THE SEED: the statements are not yours to turn. If you find one false, say at which input.
  Laid BY PROGRAM, IN A SANDBOX (cutbox-rows.mjs): the forced cells as the released guide's own fill.sh prints them over the translation e39f898f3881e6b2… (all of the seat's roots in one cut). By AI agents, Wed Nov 11 2026. No macro, syntax, notation, axiom, sorry.
-/
import Derived.Test.YtlpjmfojahofnaaChecked
import GoSem.Claim
import GoSem.ClaimJoined
import GoSem.ClaimMapViews
import Derived.JoinedTies
import Derived.KernelRfl
namespace Go.Proofs.Ytlpjmfojahofnaa
/- THE CELL 'sum', in the pinned program and in every row, IS THE sha256 OF THE DUMP (.gsa) THAT YtlpjmfojahofnaaProg.lean LOADS. Nothing in Lean hashes anything: it is a label: what it is worth is what the hold of that sum in a sandbox is worth. -/
noncomputable def Try.pinned : Pinned := { name := "ytlpjmfojahofnaa", sum := "e39f898f3881e6b224a06a6881275c57b899bb04eb5e0982db6881c0fdb512d9", checked := Try.checked }
namespace Rows
def none {H : Type} : Left H := { results := [], args := [] }

/-- 'quaysidelaw16.VaryKeys': WHATEVER THE INPUT: true; the input reads as it did. -/
def varyKeysSpec : ChangeSpec := { name := "varyKeys", fn := fun _ => fun
  | [d1, d2] => { results := [.lit (.bool true)], args := [d1, d2] }
  | _ => none }
def varyKeysRow : OpenClaim := { program := "ytlpjmfojahofnaa", sum := "e39f898f3881e6b224a06a6881275c57b899bb04eb5e0982db6881c0fdb512d9", func := "quayside/quaysidelaw16.VaryKeys", spec := "varyKeys", inPlace := ["internal/abi.NoEscape", "internal/bytealg.MakeNoZero"], apart := false }
def VaryKeysSaid : Prop := varyKeysRow.holds Try.pinned (OpenSpec.ofChange varyKeysSpec)

/-- ITS FALSE NEIGHBOUR: 'it returns false'. Refute it at one input. -/
def varyKeysWrong : ChangeSpec := { name := "varyKeys", fn := fun _ => fun
  | [d1, d2] => { results := [.lit (.bool false)], args := [d1, d2] }
  | _ => none }
def VaryKeysWrongFalsely : Prop := varyKeysRow.holds Try.pinned (OpenSpec.ofChange varyKeysWrong)

/-- 'quaysidelaw16.VaryFinds': WHATEVER THE INPUT: true; the input reads as it did. -/
def varyFindsSpec : ChangeSpec := { name := "varyFinds", fn := fun _ => fun
  | [d1, d2, d3] => { results := [.lit (.bool true)], args := [d1, d2, d3] }
  | _ => none }
def varyFindsRow : OpenClaim := { program := "ytlpjmfojahofnaa", sum := "e39f898f3881e6b224a06a6881275c57b899bb04eb5e0982db6881c0fdb512d9", func := "quayside/quaysidelaw16.VaryFinds", spec := "varyFinds", inPlace := ["internal/abi.NoEscape", "internal/bytealg.MakeNoZero"], apart := false }
def VaryFindsSaid : Prop := varyFindsRow.holds Try.pinned (OpenSpec.ofChange varyFindsSpec)

/-- ITS FALSE NEIGHBOUR: 'it returns false'. Refute it at one input. -/
def varyFindsWrong : ChangeSpec := { name := "varyFinds", fn := fun _ => fun
  | [d1, d2, d3] => { results := [.lit (.bool false)], args := [d1, d2, d3] }
  | _ => none }
def VaryFindsWrongFalsely : Prop := varyFindsRow.holds Try.pinned (OpenSpec.ofChange varyFindsWrong)

/-- 'quaysidelaw16.VaryNormal': WHATEVER THE INPUT: true; the input reads as it did. -/
def varyNormalSpec : ChangeSpec := { name := "varyNormal", fn := fun _ => fun
  | [d1, d2, d3] => { results := [.lit (.bool true)], args := [d1, d2, d3] }
  | _ => none }
def varyNormalRow : OpenClaim := { program := "ytlpjmfojahofnaa", sum := "e39f898f3881e6b224a06a6881275c57b899bb04eb5e0982db6881c0fdb512d9", func := "quayside/quaysidelaw16.VaryNormal", spec := "varyNormal", inPlace := ["internal/abi.NoEscape", "internal/bytealg.MakeNoZero"], apart := false }
def VaryNormalSaid : Prop := varyNormalRow.holds Try.pinned (OpenSpec.ofChange varyNormalSpec)

/-- ITS FALSE NEIGHBOUR: 'it returns false'. Refute it at one input. -/
def varyNormalWrong : ChangeSpec := { name := "varyNormal", fn := fun _ => fun
  | [d1, d2, d3] => { results := [.lit (.bool false)], args := [d1, d2, d3] }
  | _ => none }
def VaryNormalWrongFalsely : Prop := varyNormalRow.holds Try.pinned (OpenSpec.ofChange varyNormalWrong)

/-- 'quaysidelaw16.VaryUnique': WHATEVER THE INPUT: true; the input reads as it did. -/
def varyUniqueSpec : ChangeSpec := { name := "varyUnique", fn := fun _ => fun
  | [d] => { results := [.lit (.bool true)], args := [d] }
  | _ => none }
def varyUniqueRow : OpenClaim := { program := "ytlpjmfojahofnaa", sum := "e39f898f3881e6b224a06a6881275c57b899bb04eb5e0982db6881c0fdb512d9", func := "quayside/quaysidelaw16.VaryUnique", spec := "varyUnique", inPlace := ["internal/abi.NoEscape", "internal/bytealg.MakeNoZero"], apart := false }
def VaryUniqueSaid : Prop := varyUniqueRow.holds Try.pinned (OpenSpec.ofChange varyUniqueSpec)

/-- ITS FALSE NEIGHBOUR: 'it returns false'. Refute it at one input. -/
def varyUniqueWrong : ChangeSpec := { name := "varyUnique", fn := fun _ => fun
  | [d] => { results := [.lit (.bool false)], args := [d] }
  | _ => none }
def VaryUniqueWrongFalsely : Prop := varyUniqueRow.holds Try.pinned (OpenSpec.ofChange varyUniqueWrong)

/-- 'quaysidelaw16.VarySets': WHATEVER THE INPUT: true; the input reads as it did. -/
def varySetsSpec : ChangeSpec := { name := "varySets", fn := fun _ => fun
  | [d] => { results := [.lit (.bool true)], args := [d] }
  | _ => none }
def varySetsRow : OpenClaim := { program := "ytlpjmfojahofnaa", sum := "e39f898f3881e6b224a06a6881275c57b899bb04eb5e0982db6881c0fdb512d9", func := "quayside/quaysidelaw16.VarySets", spec := "varySets", inPlace := ["internal/abi.NoEscape", "internal/bytealg.MakeNoZero"], unfollowed := true, recurses := true, apart := false }
def VarySetsSaid : Prop := varySetsRow.holds Try.pinned (OpenSpec.ofChange varySetsSpec)

/-- ITS FALSE NEIGHBOUR: 'it returns false'. Refute it at one input. -/
def varySetsWrong : ChangeSpec := { name := "varySets", fn := fun _ => fun
  | [d] => { results := [.lit (.bool false)], args := [d] }
  | _ => none }
def VarySetsWrongFalsely : Prop := varySetsRow.holds Try.pinned (OpenSpec.ofChange varySetsWrong)

/-- 'quaysidelaw16.VaryNil': WHATEVER THE INPUT: true; the input reads as it did. -/
def varyNilSpec : ChangeSpec := { name := "varyNil", fn := fun _ => fun
  | [d] => { results := [.lit (.bool true)], args := [d] }
  | _ => none }
def varyNilRow : OpenClaim := { program := "ytlpjmfojahofnaa", sum := "e39f898f3881e6b224a06a6881275c57b899bb04eb5e0982db6881c0fdb512d9", func := "quayside/quaysidelaw16.VaryNil", spec := "varyNil", inPlace := ["internal/abi.NoEscape", "internal/bytealg.MakeNoZero"], unfollowed := true, recurses := true, apart := false }
def VaryNilSaid : Prop := varyNilRow.holds Try.pinned (OpenSpec.ofChange varyNilSpec)

/-- ITS FALSE NEIGHBOUR: 'it returns false'. Refute it at one input. -/
def varyNilWrong : ChangeSpec := { name := "varyNil", fn := fun _ => fun
  | [d] => { results := [.lit (.bool false)], args := [d] }
  | _ => none }
def VaryNilWrongFalsely : Prop := varyNilRow.holds Try.pinned (OpenSpec.ofChange varyNilWrong)

/- THE SECOND FORM. 'bulk': how many values and letters a reading holds, each counted each time it is reached (what is shared counts as often as it is met; a slice's spare places count too). A statement '..UptoSaid' is the law's where the arguments, and the package variables that the reading takes, are together of bulk at most 1048576: NARROWER than '..Said'. Prove '..Said' where nothing that the law and all that it calls make is longer than what came in: it says more and counts as full. Else prove '..UptoSaid'. A law counts once. -/
mutual
def uptoBulk {H : Type} : DataW H → Nat
  | .lit (.string bytes) => bytes.length + 1
  | .lit _ => 1
  | .nil => 1
  | .ptr d => uptoBulk d + 1
  | .slice elems spare => uptoBulkAll elems + uptoBulkAll spare + 1
  | .agg parts => uptoBulkAll parts + 1
  | .iface _ d => uptoBulk d + 1
  | .map entries => uptoBulkEntries entries + 1
  | .held _ => 1
def uptoBulkAll {H : Type} : List (DataW H) → Nat
  | [] => 0
  | d :: r => uptoBulk d + uptoBulkAll r
def uptoBulkEntries {H : Type} : List (Lit × DataW H) → Nat
  | [] => 0
  | x :: r => uptoBulkEntry x + uptoBulkEntries r
def uptoBulkEntry {H : Type} : Lit × DataW H → Nat
  | (.string bytes, d) => bytes.length + uptoBulk d + 1
  | (_, d) => uptoBulk d + 1
 end
def uptoSmall : (H : Type) → List (DataW H) → Bool := fun _ ds => decide (uptoBulkAll ds ≤ 1048576)
def OpenSpec.upto (s : _root_.Go.ChangeSpec) : _root_.Go.OpenSpec := { _root_.Go.OpenSpec.ofChange s with cond := some uptoSmall }

/-- 'quaysidelaw16.VaryKeys', WHERE WHAT IT READS IS OF BULK AT MOST 1048576: true; the input reads as it did. -/
def varyKeysUptoRow : OpenClaim := { program := "ytlpjmfojahofnaa", sum := "e39f898f3881e6b224a06a6881275c57b899bb04eb5e0982db6881c0fdb512d9", func := "quayside/quaysidelaw16.VaryKeys", spec := "varyKeys", inPlace := ["internal/abi.NoEscape", "internal/bytealg.MakeNoZero"], apart := false, narrowed := true }
def VaryKeysUptoSaid : Prop := varyKeysUptoRow.holds Try.pinned (OpenSpec.upto varyKeysSpec)

/-- 'quaysidelaw16.VaryFinds', WHERE WHAT IT READS IS OF BULK AT MOST 1048576: true; the input reads as it did. -/
def varyFindsUptoRow : OpenClaim := { program := "ytlpjmfojahofnaa", sum := "e39f898f3881e6b224a06a6881275c57b899bb04eb5e0982db6881c0fdb512d9", func := "quayside/quaysidelaw16.VaryFinds", spec := "varyFinds", inPlace := ["internal/abi.NoEscape", "internal/bytealg.MakeNoZero"], apart := false, narrowed := true }
def VaryFindsUptoSaid : Prop := varyFindsUptoRow.holds Try.pinned (OpenSpec.upto varyFindsSpec)

/-- 'quaysidelaw16.VaryNormal', WHERE WHAT IT READS IS OF BULK AT MOST 1048576: true; the input reads as it did. -/
def varyNormalUptoRow : OpenClaim := { program := "ytlpjmfojahofnaa", sum := "e39f898f3881e6b224a06a6881275c57b899bb04eb5e0982db6881c0fdb512d9", func := "quayside/quaysidelaw16.VaryNormal", spec := "varyNormal", inPlace := ["internal/abi.NoEscape", "internal/bytealg.MakeNoZero"], apart := false, narrowed := true }
def VaryNormalUptoSaid : Prop := varyNormalUptoRow.holds Try.pinned (OpenSpec.upto varyNormalSpec)

/-- 'quaysidelaw16.VaryUnique', WHERE WHAT IT READS IS OF BULK AT MOST 1048576: true; the input reads as it did. -/
def varyUniqueUptoRow : OpenClaim := { program := "ytlpjmfojahofnaa", sum := "e39f898f3881e6b224a06a6881275c57b899bb04eb5e0982db6881c0fdb512d9", func := "quayside/quaysidelaw16.VaryUnique", spec := "varyUnique", inPlace := ["internal/abi.NoEscape", "internal/bytealg.MakeNoZero"], apart := false, narrowed := true }
def VaryUniqueUptoSaid : Prop := varyUniqueUptoRow.holds Try.pinned (OpenSpec.upto varyUniqueSpec)

/-- 'quaysidelaw16.VarySets', WHERE WHAT IT READS IS OF BULK AT MOST 1048576: true; the input reads as it did. -/
def varySetsUptoRow : OpenClaim := { program := "ytlpjmfojahofnaa", sum := "e39f898f3881e6b224a06a6881275c57b899bb04eb5e0982db6881c0fdb512d9", func := "quayside/quaysidelaw16.VarySets", spec := "varySets", inPlace := ["internal/abi.NoEscape", "internal/bytealg.MakeNoZero"], unfollowed := true, recurses := true, apart := false, narrowed := true }
def VarySetsUptoSaid : Prop := varySetsUptoRow.holds Try.pinned (OpenSpec.upto varySetsSpec)

/-- 'quaysidelaw16.VaryNil', WHERE WHAT IT READS IS OF BULK AT MOST 1048576: true; the input reads as it did. -/
def varyNilUptoRow : OpenClaim := { program := "ytlpjmfojahofnaa", sum := "e39f898f3881e6b224a06a6881275c57b899bb04eb5e0982db6881c0fdb512d9", func := "quayside/quaysidelaw16.VaryNil", spec := "varyNil", inPlace := ["internal/abi.NoEscape", "internal/bytealg.MakeNoZero"], unfollowed := true, recurses := true, apart := false, narrowed := true }
def VaryNilUptoSaid : Prop := varyNilUptoRow.holds Try.pinned (OpenSpec.upto varyNilSpec)

end Rows
end Go.Proofs.Ytlpjmfojahofnaa
