/- The library: facts about walks, over any program. -/
import Derived.Test.YtiaaooopklhobaaGreatDoorLL
import Derived.Deep.DeepHandedRow
set_option linter.unusedVariables false
set_option linter.unusedSimpArgs false
set_option linter.unusedSectionVars false
namespace Go.SL
open Go
section
variable {P : Program}
theorem qu4 : ∀ (l : List Nat), ∃ B, ∀ n ∈ l, n ≤ B
 | [] => ⟨0, fun _ h => by cases h⟩
 | x :: l => by
  obtain ⟨B, h⟩ := qu4 l
  refine ⟨max x B, fun n hn => ?_⟩
  rcases List.mem_cons.1 hn with rfl | hn
  ·exact Nat.le_max_left _ _
  ·exact Nat.le_trans (h n hn) (Nat.le_max_right _ _)
def txtD {H : Type} (l : List Str) : DataW H := .slice (l.map fun s => .lit (.string s)) []
end
open Go
open Go
open Go
end Go.SL
