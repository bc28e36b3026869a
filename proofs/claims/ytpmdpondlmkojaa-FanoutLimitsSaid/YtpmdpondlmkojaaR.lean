/- Arguments of the laws, as they are read. Printed by gen.py. -/
import Derived.Test.YtpmdpondlmkojaaG1
set_option linter.unusedVariables false
set_option linter.unusedSimpArgs false
open Go Go.SL Go.Proofs
set_option maxRecDepth 30000
theorem rd41 : RdrA Try.prog 41 (fun K cs x => cs = (eI .u16) x ∧ InK .u16 x) := RdrA.int rfl
theorem rd42 : RdrA Try.prog 42 (fun K cs x => sliL (eI .u16) 1 K cs x ∧ (x.length ≤ maxLen ∧ ∀ y0 ∈ x, InK .u16 y0)) := RdrA.sl (enc := (eI .u16)) (ok := fun y0 => InK .u16 y0) rfl rfl rfl (fun _ => rfl) (fun _ => rfl) rd41
