/- Arguments of the laws, as they are read. Printed by gen.py. -/
import Derived.Test.YtpmdpondlmkojaaG1
set_option linter.unusedVariables false
set_option linter.unusedSimpArgs false
open Go Go.SL Go.Proofs
set_option maxRecDepth 1000000
theorem rd5 : RdrA szMax Try.prog 5 (fun K cs x => cs = eU x ∧ True) := RdrA.u8 rfl
theorem rd22 : RdrA szMax Try.prog 22 (fun K cs x => sliL eU 1 K cs x ∧ (x.length ≤ szMax ∧ ∀ y0 ∈ x, True)) := RdrA.sl (enc := eU) (ok := fun y0 => True) rfl rfl rfl (fun _ => rfl) (fun _ => rfl) rd5 rfl
theorem rd35 : RdrA szMax Try.prog 35 (fun K cs x => sliR (sliL eU 1) 1 K cs x ∧ (x.length ≤ szMax ∧ ∀ y0 ∈ x, (y0.length ≤ szMax ∧ ∀ y1 ∈ y0, True))) := RdrA.slx (R := (sliL eU 1)) (ok := fun y0 => (y0.length ≤ szMax ∧ ∀ y1 ∈ y0, True)) rfl rfl rfl sliL_ok rd22 rfl
