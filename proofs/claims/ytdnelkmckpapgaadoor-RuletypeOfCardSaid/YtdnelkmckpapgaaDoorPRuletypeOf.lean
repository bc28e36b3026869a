import Derived.Test.YtdnelkmckpapgaaDoorRtAll
set_option linter.unusedVariables false
set_option linter.unusedSimpArgs false
open Go Go.SL Go.Proofs Pl Rt
namespace Rt
theorem awake_eq : law44_awake 400100 = some true := by decide +kernel
end Rt
theorem law44_RuletypeOf_true (x : S_ref43_Node) (env : List S_ref44_Binding) (o0 : S_ref43_Node.ok x) (o1 : env.length ≤ szMax ∧ ∀ y0 ∈ env, S_ref44_Binding.ok y0) : ∃ n, law44_RuletypeOf n x env = some true := by
  refine ⟨400100, ?_⟩
  unfold law44_RuletypeOf
  rcases Large_ok (n := 400100) o0 (by omega) with hL | ⟨hL, hx⟩
  · rw [hL, Option.bind_some, if_pos (by simp), Option.bind_some, if_pos rfl, Option.bind_some, Bool.true_or]
  · rw [hL, Option.bind_some]
    by_cases h0 : (env.length : Int) > 50
    · rw [if_pos (by simp; omega), Option.bind_some, if_pos rfl, Option.bind_some, decide_eq_true h0]; rfl
    · rw [if_neg (by simp; omega), awake_eq, Option.bind_some, Option.bind_some, if_neg (by simp)]
      have cN := Large_cnt hL
      obtain ⟨y, hy, cy⟩ := Of_ok 40 400100 x hx (by omega)
      have hc : cntN (41 + 1) (tag x) ≤ 10000 := by
        have : cntN (40 + 2) (tag x) = 2 + cntN 40 x := tag_cnt
        show cntN (40 + 2) (tag x) ≤ 10000
        omega
      obtain ⟨b, b1, b2⟩ := Valid_rel (n := 400100) (d := 41) (tag_ok hx) (tag_cvd cy) (by omega) (by omega) hc
      have hl : lkf ((env.map cnv).filter gd1) = lkf2 (env.filter gd2) := by
        rw [filter_cnv]; funext s; exact lk_map s _
      rw [chk_bind (by simp only [szMax]; omega), lawL0 env 0 [] (by simp only [List.length_nil]; omega), Option.bind_some, List.nil_append, hy, Option.bind_some,
        Of_pure (d := 40) (cy.ok hx) (by omega) (by rw [List.length_map]; omega) (by omega) b2, Option.bind_some, Of2_pure (d := 40) hx cy (by omega) (by omega) (by omega) b1 b2, Option.bind_some, hl]
      cases b with
      | false => rfl
      | true =>
        simp only [if_true]
        cases tyE 40 (lkf2 (env.filter gd2)) y with
        | error e => simp [ofR, ofR2, num_eq]
        | ok t => simp [ofR, ofR2, num_eq]
