import Derived.Test.YtlpjmfojahofnaaVaryRK
set_option linter.unusedVariables false
set_option linter.unusedSimpArgs false
open Go Go.SL Go.Proofs Pl Vary
theorem law16_VaryKeys_true (names : List Str) (f : List RF) (o0 : names.length ≤ szUp ∧ ∀ y0 ∈ names, y0.length ≤ szUp) (o1 : f.length ≤ szUp ∧ ∀ y0 ∈ f, S_ref02_Field.ok y0) : ∃ n, law16_VaryKeys n names f = some true := by
  refine ⟨5, ?_⟩
  unfold law16_VaryKeys
  rw [long_eq o0.1 o0.2, Option.bind_some, large_eq o1, Option.bind_some]
  by_cases h1 : sumL names > 500
  · rw [if_pos (by simpa using h1), Option.bind_some, if_pos rfl, Option.bind_some, if_pos rfl, Option.bind_some, if_pos (by simpa using h1), Option.bind_some]
  · rw [if_neg (by simpa using h1), Option.bind_some]
    by_cases h2 : tot f > 3000
    · rw [if_pos (by simpa using h2), Option.bind_some, if_pos rfl, Option.bind_some, if_neg (by simpa using h1), Option.bind_some]
      simp [h2]
    · rw [if_neg (by simpa using h2), awake5, Option.bind_some, Option.bind_some, if_neg (by simp), fields_eq o1.1, Option.bind_some, fkey (by omega) (by omega), Option.bind_some, rkey (by omega) (by omega) (by omega), Option.bind_some]
      simp
