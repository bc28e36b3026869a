import Derived.Test.YtlpjmfojahofnaaVaryK
set_option linter.unusedVariables false
set_option linter.unusedSimpArgs false
open Go Go.SL Go.Proofs Pl Vary
theorem law16_VaryNil_true (x : S_law16_Step) (o0 : S_law16_Step.ok x) : ∃ n, law16_VaryNil n x = some true := by
  refine ⟨5, ?_⟩
  obtain ⟨_, o1, o2, o3⟩ := o0
  simp only [InK] at o3
  unfold law16_VaryNil
  rw [long_eq o1.1 o1.2, Option.bind_some, large_eq o2, Option.bind_some]
  by_cases h1 : sumL x.Names > 500
  · rw [if_pos (by simpa using h1), Option.bind_some, if_pos rfl, Option.bind_some, if_pos rfl, Option.bind_some, if_pos (by simpa using h1), Option.bind_some]
  · rw [if_neg (by simpa using h1), Option.bind_some]
    by_cases h2 : tot x.FZ > 3000
    · rw [if_pos (by simpa using h2), Option.bind_some, if_pos rfl, Option.bind_some, if_neg (by simpa using h1), Option.bind_some]
      simp [h2]
    · rw [if_neg (by simpa using h2), awake5, Option.bind_some, Option.bind_some, if_neg (by simp), fields_eq o2.1, Option.bind_some, chk_bind (by constructor <;> omega)]
      have hc : ∀ {γ : Type} {f : Unit → Option γ}, (chk (InI x.ID)).bind f = f () := fun {γ} {f} => chk_bind (by constructor <;> omega)
      simp only [vary_Set_Put_nil, vary_Set_Find_nil, vary_Set_Remove_nil, vary_Set_IDs_nil, Option.bind_some, List.length_nil, hc]
      rfl
