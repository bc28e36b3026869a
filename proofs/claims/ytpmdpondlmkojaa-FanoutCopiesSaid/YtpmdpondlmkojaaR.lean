/- Arguments of the laws, as they are read. Printed by gen.py. -/
import Derived.Test.YtpmdpondlmkojaaG1
set_option linter.unusedVariables false
set_option linter.unusedSimpArgs false
open Go Go.SL Go.Proofs
set_option maxRecDepth 8000
theorem rd5 : RdrA Try.prog 5 (fun K cs x => cs = eU x ∧ True) := RdrA.u8 rfl
theorem rd22 : RdrA Try.prog 22 (fun K cs x => sliL eU 1 K cs x ∧ (x.length ≤ maxLen ∧ ∀ y0 ∈ x, True)) := RdrA.sl (enc := eU) (ok := fun y0 => True) rfl rfl rfl (fun _ => rfl) (fun _ => rfl) rd5
