import Derived.Test.YtlpjmfojahofnaaDoorVaryQ
set_option linter.unusedVariables false
set_option linter.unusedSimpArgs false
open Go Go.SL Go.Proofs Pl Vary
theorem awakeN : law16_awake 200000000 = some true := by decide +kernel
theorem law16_VaryNames_true (f : List RF) (o0 : f.length ≤ szUp ∧ ∀ y0 ∈ f, S_ref02_Field.ok y0) : ∃ n, law16_VaryNames n f = some true := by
  refine ⟨200000000, ?_⟩
  unfold law16_VaryNames
  rw [large_eq o0, Option.bind_some]
  by_cases h2 : tot f > 3000
  · rw [if_pos (by simpa using h2), Option.bind_some, if_pos rfl, Option.bind_some]
    simp [h2]
  · obtain ⟨r, h1, h3, h4⟩ := names_eq (n := 200000000) (f := f) (by omega) (by omega)
    rw [if_neg (by simpa using h2), awakeN, Option.bind_some, Option.bind_some, if_neg (by simp), fields_eq o0.1, Option.bind_some, h1, h3, Option.bind_some, Option.bind_some, if_pos (by simp), texts_eq h4]; rfl
