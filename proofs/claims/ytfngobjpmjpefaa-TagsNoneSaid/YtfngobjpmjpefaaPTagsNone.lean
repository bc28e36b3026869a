import Derived.Test.YtfngobjpmjpefaaTagsU
import Derived.Test.YtfngobjpmjpefaaR
set_option linter.unusedVariables false
open Go Go.SL Go.Proofs Tags Pl
theorem law35_TagsNone_true (id : Str) (o0 : id.length ≤ szMax) : law35_TagsNone id = some true := by
  unfold law35_TagsNone
  rw [awake_eq, Option.bind_some, if_neg (by decide)]
  rfl
