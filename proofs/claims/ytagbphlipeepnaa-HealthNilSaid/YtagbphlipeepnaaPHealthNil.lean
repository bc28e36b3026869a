import Derived.Test.YtagbphlipeepnaaHealthU
import Derived.Test.YtagbphlipeepnaaR
set_option linter.unusedVariables false
open Go Go.SL Go.Proofs Health Pl
theorem law32_HealthNil_true (s : S_law32_Step) (o0 : S_law32_Step.ok s) : law32_HealthNil s = some true := by
  unfold law32_HealthNil
  rw [awake_eq, Option.bind_some, if_neg (by decide), name_eq]
  rfl
