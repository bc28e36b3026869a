/- The library: facts about walks, over any program. -/
import Derived.Test.YtmpdebfckeahmaaGreatDoorLL
import Derived.Deep.DeepHandedRow
set_option linter.unusedVariables false
set_option linter.unusedSimpArgs false
set_option linter.unusedSectionVars false
namespace Go.SL
open Go
section
variable {P : Program}
theorem qtq : ∀ (l : List Nat), ∃ B, ∀ n ∈ l, n ≤ B
 | [] => ⟨0, fun _ h => by cases h⟩
 | x :: l => by
  obtain ⟨B, h⟩ := qtq l
  refine ⟨max x B, fun n hn => ?_⟩
  rcases List.mem_cons.1 hn with rfl | hn
  ·exact Nat.le_max_left _ _
  ·exact Nat.le_trans (h n hn) (Nat.le_max_right _ _)
def txtD {H : Type} (l : List Str) : DataW H := .slice (l.map fun s => .lit (.string s)) []
end
open Go
open Go
open Go
theorem r12 {A B0 B1 B2 B3 B4 B5 B6 B7 B8 B9 B10 B11 : HProp} {L : List HProp} : Rem A (B0 :: B1 :: B2 :: B3 :: B4 :: B5 :: B6 :: B7 :: B8 :: B9 :: B10 :: B11 :: A :: L) (B0 :: B1 :: B2 :: B3 :: B4 :: B5 :: B6 :: B7 :: B8 :: B9 :: B10 :: B11 :: L) := .there r11
theorem r13 {A B0 B1 B2 B3 B4 B5 B6 B7 B8 B9 B10 B11 B12 : HProp} {L : List HProp} : Rem A (B0 :: B1 :: B2 :: B3 :: B4 :: B5 :: B6 :: B7 :: B8 :: B9 :: B10 :: B11 :: B12 :: A :: L) (B0 :: B1 :: B2 :: B3 :: B4 :: B5 :: B6 :: B7 :: B8 :: B9 :: B10 :: B11 :: B12 :: L) := .there r12
theorem r14 {A B0 B1 B2 B3 B4 B5 B6 B7 B8 B9 B10 B11 B12 B13 : HProp} {L : List HProp} : Rem A (B0 :: B1 :: B2 :: B3 :: B4 :: B5 :: B6 :: B7 :: B8 :: B9 :: B10 :: B11 :: B12 :: B13 :: A :: L) (B0 :: B1 :: B2 :: B3 :: B4 :: B5 :: B6 :: B7 :: B8 :: B9 :: B10 :: B11 :: B12 :: B13 :: L) := .there r13
end Go.SL
