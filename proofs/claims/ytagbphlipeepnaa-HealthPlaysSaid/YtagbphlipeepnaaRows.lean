/-
  No cell of these rows narrows 'for every input' (looked for: loops, veiled, ifaces, maps, wideKeys, modest, calm, conditions, laid).
  DERIVED. THE GIVEN ROWS OF THIS SEAT. 7 by the template 'for every input the law returns true; each argument reads behind the call as it read before'; 0 by the template 'total and deterministic' (their statements: YtagbphlipeepnaaTotals.lean).
  GIVEN WITH THE SEED: the statements are not yours to turn. If you find one false, say at which input.
  Laid BY PROGRAM, IN A SANDBOX (cutbox-rows.mjs): the forced cells as the released guide's own fill.sh prints them over the translation d234af2208e43695… (all of the seat's roots in one cut). By AI agents, Wed Nov 11 2026. No macro, syntax, notation, axiom, sorry.
-/
import Derived.Test.YtagbphlipeepnaaChecked
import GoSem.Claim
import GoSem.ClaimJoined
import GoSem.ClaimMapViews
import Derived.JoinedTies
import Derived.KernelRfl
namespace Go.Proofs.Ytagbphlipeepnaa
/- THE CELL 'sum', in the pinned program and in every row, IS THE sha256 OF THE DUMP (.gsa) THAT YtagbphlipeepnaaProg.lean LOADS. Nothing in Lean hashes anything: it is a label: what it is worth is what the hold of that sum in a sandbox is worth. -/
noncomputable def Try.pinned : Pinned := { name := "ytagbphlipeepnaa", sum := "d234af2208e436957759f855ed8120ba11ec5e97d189357f3b80c00550f01604", checked := Try.checked }
namespace Rows
def none {H : Type} : Left H := { results := [], args := [] }

/-- 'quaysidelaw32.HealthRuns': WHATEVER THE INPUT: true; the input reads as it did. -/
def healthRunsSpec : ChangeSpec := { name := "healthRuns", fn := fun _ => fun
  | [d1, d2, d3] => { results := [.lit (.bool true)], args := [d1, d2, d3] }
  | _ => none }
def healthRunsRow : OpenClaim := { program := "ytagbphlipeepnaa", sum := "d234af2208e436957759f855ed8120ba11ec5e97d189357f3b80c00550f01604", func := "quayside/quaysidelaw32.HealthRuns", spec := "healthRuns", apart := false }
def HealthRunsSaid : Prop := healthRunsRow.holds Try.pinned (OpenSpec.ofChange healthRunsSpec)

/-- ITS FALSE NEIGHBOUR: 'it returns false'. Refute it at one input. -/
def healthRunsWrong : ChangeSpec := { name := "healthRuns", fn := fun _ => fun
  | [d1, d2, d3] => { results := [.lit (.bool false)], args := [d1, d2, d3] }
  | _ => none }
def HealthRunsWrongFalsely : Prop := healthRunsRow.holds Try.pinned (OpenSpec.ofChange healthRunsWrong)

/-- 'quaysidelaw32.HealthSteady': WHATEVER THE INPUT: true; the input reads as it did. -/
def healthSteadySpec : ChangeSpec := { name := "healthSteady", fn := fun _ => fun
  | [d1, d2, d3] => { results := [.lit (.bool true)], args := [d1, d2, d3] }
  | _ => none }
def healthSteadyRow : OpenClaim := { program := "ytagbphlipeepnaa", sum := "d234af2208e436957759f855ed8120ba11ec5e97d189357f3b80c00550f01604", func := "quayside/quaysidelaw32.HealthSteady", spec := "healthSteady", apart := false }
def HealthSteadySaid : Prop := healthSteadyRow.holds Try.pinned (OpenSpec.ofChange healthSteadySpec)

/-- ITS FALSE NEIGHBOUR: 'it returns false'. Refute it at one input. -/
def healthSteadyWrong : ChangeSpec := { name := "healthSteady", fn := fun _ => fun
  | [d1, d2, d3] => { results := [.lit (.bool false)], args := [d1, d2, d3] }
  | _ => none }
def HealthSteadyWrongFalsely : Prop := healthSteadyRow.holds Try.pinned (OpenSpec.ofChange healthSteadyWrong)

/-- 'quaysidelaw32.HealthPlays': WHATEVER THE INPUT: true; the input reads as it did. -/
def healthPlaysSpec : ChangeSpec := { name := "healthPlays", fn := fun _ => fun
  | [d1, d2] => { results := [.lit (.bool true)], args := [d1, d2] }
  | _ => none }
def healthPlaysRow : OpenClaim := { program := "ytagbphlipeepnaa", sum := "d234af2208e436957759f855ed8120ba11ec5e97d189357f3b80c00550f01604", func := "quayside/quaysidelaw32.HealthPlays", spec := "healthPlays", recurses := true, apart := false }
def HealthPlaysSaid : Prop := healthPlaysRow.holds Try.pinned (OpenSpec.ofChange healthPlaysSpec)

/-- ITS FALSE NEIGHBOUR: 'it returns false'. Refute it at one input. -/
def healthPlaysWrong : ChangeSpec := { name := "healthPlays", fn := fun _ => fun
  | [d1, d2] => { results := [.lit (.bool false)], args := [d1, d2] }
  | _ => none }
def HealthPlaysWrongFalsely : Prop := healthPlaysRow.holds Try.pinned (OpenSpec.ofChange healthPlaysWrong)

/-- 'quaysidelaw32.HealthAlone': WHATEVER THE INPUT: true; the input reads as it did. -/
def healthAloneSpec : ChangeSpec := { name := "healthAlone", fn := fun _ => fun
  | [d1, d2, d3] => { results := [.lit (.bool true)], args := [d1, d2, d3] }
  | _ => none }
def healthAloneRow : OpenClaim := { program := "ytagbphlipeepnaa", sum := "d234af2208e436957759f855ed8120ba11ec5e97d189357f3b80c00550f01604", func := "quayside/quaysidelaw32.HealthAlone", spec := "healthAlone", recurses := true, apart := false }
def HealthAloneSaid : Prop := healthAloneRow.holds Try.pinned (OpenSpec.ofChange healthAloneSpec)

/-- ITS FALSE NEIGHBOUR: 'it returns false'. Refute it at one input. -/
def healthAloneWrong : ChangeSpec := { name := "healthAlone", fn := fun _ => fun
  | [d1, d2, d3] => { results := [.lit (.bool false)], args := [d1, d2, d3] }
  | _ => none }
def HealthAloneWrongFalsely : Prop := healthAloneRow.holds Try.pinned (OpenSpec.ofChange healthAloneWrong)

/-- 'quaysidelaw32.HealthLists': WHATEVER THE INPUT: true; the input reads as it did. -/
def healthListsSpec : ChangeSpec := { name := "healthLists", fn := fun _ => fun
  | [d1, d2] => { results := [.lit (.bool true)], args := [d1, d2] }
  | _ => none }
def healthListsRow : OpenClaim := { program := "ytagbphlipeepnaa", sum := "d234af2208e436957759f855ed8120ba11ec5e97d189357f3b80c00550f01604", func := "quayside/quaysidelaw32.HealthLists", spec := "healthLists", recurses := true, apart := false }
def HealthListsSaid : Prop := healthListsRow.holds Try.pinned (OpenSpec.ofChange healthListsSpec)

/-- ITS FALSE NEIGHBOUR: 'it returns false'. Refute it at one input. -/
def healthListsWrong : ChangeSpec := { name := "healthLists", fn := fun _ => fun
  | [d1, d2] => { results := [.lit (.bool false)], args := [d1, d2] }
  | _ => none }
def HealthListsWrongFalsely : Prop := healthListsRow.holds Try.pinned (OpenSpec.ofChange healthListsWrong)

/-- 'quaysidelaw32.HealthForgets': WHATEVER THE INPUT: true; the input reads as it did. -/
def healthForgetsSpec : ChangeSpec := { name := "healthForgets", fn := fun _ => fun
  | [d1, d2, d3] => { results := [.lit (.bool true)], args := [d1, d2, d3] }
  | _ => none }
def healthForgetsRow : OpenClaim := { program := "ytagbphlipeepnaa", sum := "d234af2208e436957759f855ed8120ba11ec5e97d189357f3b80c00550f01604", func := "quayside/quaysidelaw32.HealthForgets", spec := "healthForgets", recurses := true, apart := false }
def HealthForgetsSaid : Prop := healthForgetsRow.holds Try.pinned (OpenSpec.ofChange healthForgetsSpec)

/-- ITS FALSE NEIGHBOUR: 'it returns false'. Refute it at one input. -/
def healthForgetsWrong : ChangeSpec := { name := "healthForgets", fn := fun _ => fun
  | [d1, d2, d3] => { results := [.lit (.bool false)], args := [d1, d2, d3] }
  | _ => none }
def HealthForgetsWrongFalsely : Prop := healthForgetsRow.holds Try.pinned (OpenSpec.ofChange healthForgetsWrong)

/-- 'quaysidelaw32.HealthNil': WHATEVER THE INPUT: true; the input reads as it did. -/
def healthNilSpec : ChangeSpec := { name := "healthNil", fn := fun _ => fun
  | [d] => { results := [.lit (.bool true)], args := [d] }
  | _ => none }
def healthNilRow : OpenClaim := { program := "ytagbphlipeepnaa", sum := "d234af2208e436957759f855ed8120ba11ec5e97d189357f3b80c00550f01604", func := "quayside/quaysidelaw32.HealthNil", spec := "healthNil", recurses := true, apart := false }
def HealthNilSaid : Prop := healthNilRow.holds Try.pinned (OpenSpec.ofChange healthNilSpec)

/-- ITS FALSE NEIGHBOUR: 'it returns false'. Refute it at one input. -/
def healthNilWrong : ChangeSpec := { name := "healthNil", fn := fun _ => fun
  | [d] => { results := [.lit (.bool false)], args := [d] }
  | _ => none }
def HealthNilWrongFalsely : Prop := healthNilRow.holds Try.pinned (OpenSpec.ofChange healthNilWrong)

/- THE SECOND FORM. 'bulk': how many values and letters a reading holds, each counted each time it is reached (what is shared counts as often as it is met; a slice's spare places count too). A statement '..UptoSaid' is the law's where the arguments, and the package variables that the reading takes, are together of bulk at most 1048576: NARROWER than '..Said'. Prove '..Said' where nothing that the law and all that it calls make is longer than what came in: it says more and counts as full. Else prove '..UptoSaid'. A law counts once. -/
mutual
def uptoBulk {H : Type} : DataW H → Nat
  | .lit (.string bytes) => bytes.length + 1
  | .lit _ => 1
  | .nil => 1
  | .ptr d => uptoBulk d + 1
  | .slice elems spare => uptoBulkAll elems + uptoBulkAll spare + 1
  | .agg parts => uptoBulkAll parts + 1
  | .iface _ d => uptoBulk d + 1
  | .map entries => uptoBulkEntries entries + 1
  | .held _ => 1
def uptoBulkAll {H : Type} : List (DataW H) → Nat
  | [] => 0
  | d :: r => uptoBulk d + uptoBulkAll r
def uptoBulkEntries {H : Type} : List (Lit × DataW H) → Nat
  | [] => 0
  | x :: r => uptoBulkEntry x + uptoBulkEntries r
def uptoBulkEntry {H : Type} : Lit × DataW H → Nat
  | (.string bytes, d) => bytes.length + uptoBulk d + 1
  | (_, d) => uptoBulk d + 1
 end
def uptoSmall : (H : Type) → List (DataW H) → Bool := fun _ ds => decide (uptoBulkAll ds ≤ 1048576)
def OpenSpec.upto (s : _root_.Go.ChangeSpec) : _root_.Go.OpenSpec := { _root_.Go.OpenSpec.ofChange s with cond := some uptoSmall }

/-- 'quaysidelaw32.HealthRuns', WHERE WHAT IT READS IS OF BULK AT MOST 1048576: true; the input reads as it did. -/
def healthRunsUptoRow : OpenClaim := { program := "ytagbphlipeepnaa", sum := "d234af2208e436957759f855ed8120ba11ec5e97d189357f3b80c00550f01604", func := "quayside/quaysidelaw32.HealthRuns", spec := "healthRuns", apart := false, narrowed := true }
def HealthRunsUptoSaid : Prop := healthRunsUptoRow.holds Try.pinned (OpenSpec.upto healthRunsSpec)

/-- 'quaysidelaw32.HealthSteady', WHERE WHAT IT READS IS OF BULK AT MOST 1048576: true; the input reads as it did. -/
def healthSteadyUptoRow : OpenClaim := { program := "ytagbphlipeepnaa", sum := "d234af2208e436957759f855ed8120ba11ec5e97d189357f3b80c00550f01604", func := "quayside/quaysidelaw32.HealthSteady", spec := "healthSteady", apart := false, narrowed := true }
def HealthSteadyUptoSaid : Prop := healthSteadyUptoRow.holds Try.pinned (OpenSpec.upto healthSteadySpec)

/-- 'quaysidelaw32.HealthPlays', WHERE WHAT IT READS IS OF BULK AT MOST 1048576: true; the input reads as it did. -/
def healthPlaysUptoRow : OpenClaim := { program := "ytagbphlipeepnaa", sum := "d234af2208e436957759f855ed8120ba11ec5e97d189357f3b80c00550f01604", func := "quayside/quaysidelaw32.HealthPlays", spec := "healthPlays", recurses := true, apart := false, narrowed := true }
def HealthPlaysUptoSaid : Prop := healthPlaysUptoRow.holds Try.pinned (OpenSpec.upto healthPlaysSpec)

/-- 'quaysidelaw32.HealthAlone', WHERE WHAT IT READS IS OF BULK AT MOST 1048576: true; the input reads as it did. -/
def healthAloneUptoRow : OpenClaim := { program := "ytagbphlipeepnaa", sum := "d234af2208e436957759f855ed8120ba11ec5e97d189357f3b80c00550f01604", func := "quayside/quaysidelaw32.HealthAlone", spec := "healthAlone", recurses := true, apart := false, narrowed := true }
def HealthAloneUptoSaid : Prop := healthAloneUptoRow.holds Try.pinned (OpenSpec.upto healthAloneSpec)

/-- 'quaysidelaw32.HealthLists', WHERE WHAT IT READS IS OF BULK AT MOST 1048576: true; the input reads as it did. -/
def healthListsUptoRow : OpenClaim := { program := "ytagbphlipeepnaa", sum := "d234af2208e436957759f855ed8120ba11ec5e97d189357f3b80c00550f01604", func := "quayside/quaysidelaw32.HealthLists", spec := "healthLists", recurses := true, apart := false, narrowed := true }
def HealthListsUptoSaid : Prop := healthListsUptoRow.holds Try.pinned (OpenSpec.upto healthListsSpec)

/-- 'quaysidelaw32.HealthForgets', WHERE WHAT IT READS IS OF BULK AT MOST 1048576: true; the input reads as it did. -/
def healthForgetsUptoRow : OpenClaim := { program := "ytagbphlipeepnaa", sum := "d234af2208e436957759f855ed8120ba11ec5e97d189357f3b80c00550f01604", func := "quayside/quaysidelaw32.HealthForgets", spec := "healthForgets", recurses := true, apart := false, narrowed := true }
def HealthForgetsUptoSaid : Prop := healthForgetsUptoRow.holds Try.pinned (OpenSpec.upto healthForgetsSpec)

/-- 'quaysidelaw32.HealthNil', WHERE WHAT IT READS IS OF BULK AT MOST 1048576: true; the input reads as it did. -/
def healthNilUptoRow : OpenClaim := { program := "ytagbphlipeepnaa", sum := "d234af2208e436957759f855ed8120ba11ec5e97d189357f3b80c00550f01604", func := "quayside/quaysidelaw32.HealthNil", spec := "healthNil", recurses := true, apart := false, narrowed := true }
def HealthNilUptoSaid : Prop := healthNilUptoRow.holds Try.pinned (OpenSpec.upto healthNilSpec)

end Rows
end Go.Proofs.Ytagbphlipeepnaa
