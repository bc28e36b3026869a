import Derived.Test.YtdnelkmckpapgaaDoorRtS
set_option linter.unusedVariables false
set_option linter.unusedSimpArgs false
open Go Go.SL Go.Proofs Pl Rt
namespace Rt
theorem awake_eq : law44_awake 400100 = some true := by decide +kernel
end Rt
theorem law44_RuletypeLines_true (x : S_ref43_Node) (b : Int) (o0 : S_ref43_Node.ok x) (o1 : InK .u16 b) : ∃ n, law44_RuletypeLines n x b = some true := by
  refine ⟨400100, ?_⟩
  simp only [InK] at o1
  unfold law44_RuletypeLines
  rcases Large_ok (n := 400100) o0 (by omega) with hL | ⟨hL, hx⟩
  · rw [hL, Option.bind_some, if_pos rfl, Option.bind_some, if_pos rfl, Option.bind_some]
  · rw [hL, Option.bind_some, if_neg (by simp), awake_eq, Option.bind_some, Option.bind_some, if_neg (by simp)]
    obtain ⟨y, hy, cy⟩ := Of_ok 40 400100 x hx (by omega)
    obtain ⟨x', hx', mx⟩ := moved_ok (b := b) 40 400100 x hx (by omega)
    obtain ⟨y', hy', cy'⟩ := Of_ok 40 400100 x' (Mvd.ok hx mx) (by omega)
    obtain ⟨r, hr⟩ := Check_ok (d := 39) (n := 400100) (cy.ok hx) (by omega) (by omega)
    have hrel := Check_rel (n := 400100) (rl_of cy mx cy')
    rw [hr] at hrel
    cases hq : ruletype_Check 400100 y' with
    | none => rw [hq] at hrel; cases hrel
    | some r' =>
      rw [hq] at hrel
      have hQ : Qr b r r' := by cases hrel with | ss h => exact h
      rw [hy, Option.bind_some, hr, Option.bind_some, chk_bind (by constructor <;> omega), hx', Option.bind_some, hy', Option.bind_some, hq, Option.bind_some]
      cases hQ with
      | form => rfl
      | good => rfl
      | bad h =>
        rename_i l e
        show (if decide (e ≠ e) = true then _ else _) = _
        rw [if_neg (by simp)]
        show (if (decide (e = 2) && decide ((2 : Int) ≠ 0)) = true then _ else _) = _
        rw [if_neg (by simp [h]), chk_bind (by constructor <;> omega)]
        simp
