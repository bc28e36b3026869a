import Derived.Test.YtfngobjpmjpefaaTagsD
import Derived.Test.YtfngobjpmjpefaaR
set_option linter.unusedVariables false
open Go Go.SL Go.Proofs Tags Pl
theorem law35_TagsCleans_true (s : Str) (o0 : s.length ≤ szMax) : ∃ n, law35_TagsCleans n s = some true := by
  refine ⟨5000, ?_⟩
  unfold law35_TagsCleans
  rw [awake_eq, Option.bind_some]
  by_cases hl : (s.length : Int) > 2000
  · simp [hl]
  simp only [hl, Bool.not_true, decide_false, Bool.or_self, Bool.false_eq_true, if_false]
  obtain ⟨out, b, e, h⟩ := rclean_eq (s := s) (n := 5000) (by omega) (by omega)
  rw [clean_eq (by omega) (by omega), e, Option.bind_some, Option.bind_some]
  cases hr : run [] (wd [] s) with
  | none =>
    rw [hr] at h
    obtain ⟨rfl, rfl⟩ := h
    rfl
  | some o =>
    rw [hr] at h
    obtain ⟨rfl, rfl⟩ := h
    obtain ⟨h1, h2⟩ := run_in _ _ hr List.nodup_nil (by simp)
    simp only [Bool.not_true, Bool.false_eq_true, if_false, Option.isNone_none, if_true]
    rw [texts_eq (by rw [sortS_len]; omega)]
    rfl
