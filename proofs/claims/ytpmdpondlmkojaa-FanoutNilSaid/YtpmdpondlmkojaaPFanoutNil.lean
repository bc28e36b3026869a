import Derived.Test.YtpmdpondlmkojaaR
set_option linter.unusedVariables false
open Go Go.SL Go.Proofs
theorem law28_FanoutNil_true (x : S_law28_Step) (o0 : S_law28_Step.ok x) : law28_FanoutNil x = some true := by
  have ha : law28_awake = some true := by decide +kernel
  unfold law28_FanoutNil
  rw [ha, Option.bind_some, if_neg (by decide)]
  rfl
