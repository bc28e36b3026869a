/- Arguments of the laws, as they are read. Printed by gen.py. -/
import Derived.Test.YtiaaooopklhobaaGreatDoorG7
set_option linter.unusedVariables false
set_option linter.unusedSimpArgs false
open Go Go.SL Go.Proofs
set_option maxRecDepth 1000000
theorem rd5 : RdrA qbh Tryz.prog 5 (fun K cs x => cs = eU x ∧ True) := RdrA.u8 rfl
theorem rd9 : RdrA qbh Tryz.prog 9 (fun K cs x => cs = eS x ∧ x.length ≤ qbh) := RdrA.str rfl
