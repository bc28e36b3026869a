/- Arguments of the laws, as they are read. Printed by gen.py. -/
import Derived.Test.YtiaaooopklhobaaGreatDoorG7
set_option linter.unusedVariables false
set_option linter.unusedSimpArgs false
open Go Go.SL Go.Proofs
set_option maxRecDepth 1000000
theorem rd9 : RdrA qbd Tryz.prog 9 (fun K cs x => cs = eS x ∧ x.length ≤ qbd) := RdrA.str rfl
theorem qp4 : RdrA qbd Tryz.prog 23 (fun K cs x => qo2 eS 1 K cs x ∧ (x.length ≤ qbd ∧ ∀ y0 ∈ x, y0.length ≤ qbd)) := RdrA.sl (enc := eS) (ok := fun y0 => y0.length ≤ qbd) rfl rfl rfl (fun _ => rfl) (fun _ => rfl) rd9 rfl
