/- Arguments of the laws, as they are read. Printed by gen.py. -/
import Derived.Test.YtfngobjpmjpefaaG2
set_option linter.unusedVariables false
set_option linter.unusedSimpArgs false
open Go Go.SL Go.Proofs
set_option maxRecDepth 1000000
theorem rd9 : RdrA Try.prog 9 (fun K cs x => cs = eS x ∧ x.length ≤ szMax) := RdrA.str rfl
