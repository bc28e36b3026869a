import Derived.Test.YtdnelkmckpapgaaDoorRtAll
set_option linter.unusedVariables false
set_option linter.unusedSimpArgs false
open Go Go.SL Go.Proofs Pl Rt
namespace Rt
theorem awake_eq : law44_awake 400100 = some true := by decide +kernel
end Rt
theorem law44_RuletypeChecks_true (x : S_ref43_Node) (o0 : S_ref43_Node.ok x) : ∃ n, law44_RuletypeChecks n x = some true := by
  refine ⟨400100, ?_⟩
  unfold law44_RuletypeChecks
  rcases Large_ok (n := 400100) o0 (by omega) with hL | ⟨hL, hx⟩
  · rw [hL, Option.bind_some, if_pos rfl, Option.bind_some, if_pos rfl, Option.bind_some]
  · rw [hL, Option.bind_some, if_neg (by simp), awake_eq, Option.bind_some, Option.bind_some, if_neg (by simp)]
    have cN := Large_cnt hL
    obtain ⟨y, hy, cy⟩ := Of_ok 40 400100 x hx (by omega)
    obtain ⟨b, b1, b2⟩ := Valid_rel (n := 400100) (d := 39) hx cy (by omega) (by omega) (Nat.le_trans cN (by omega))
    rw [hy, Option.bind_some, Check_pure (d := 39) (cy.ok hx) (by omega) (by omega) b2, Option.bind_some, Check2_pure (d := 39) hx cy (by omega) (by omega) b1 b2, Option.bind_some]
    cases b with
    | false => rfl
    | true =>
      simp only [if_true]
      unfold chkR
      cases q : foldS (stm 39) base y.Kids with
      | error e => simp [num_eq, fl2]
      | ok ρ => simp [num_eq, fl2]
