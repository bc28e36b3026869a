/- Arguments of the laws, as they are read. Printed by gen.py. -/
import Derived.Test.YtiaaooopklhobaaGreatDoorG8
set_option linter.unusedVariables false
set_option linter.unusedSimpArgs false
open Go Go.SL Go.Proofs
set_option maxRecDepth 1000000
theorem rd9 : RdrA qa7 Tryz.prog 9 (fun K cs x => cs = eS x ∧ x.length ≤ qa7) := RdrA.str rfl
theorem qub : RdrA qa7 Tryz.prog 50 (fun K cs x => cs = (eI .u16) x ∧ InK .u16 x) := RdrA.int rfl
theorem rd5 : RdrA qa7 Tryz.prog 5 (fun K cs x => cs = eU x ∧ True) := RdrA.u8 rfl
