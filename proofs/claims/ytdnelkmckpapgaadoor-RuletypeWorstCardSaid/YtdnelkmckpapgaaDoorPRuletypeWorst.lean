import Derived.Test.YtdnelkmckpapgaaDoorRtAll
set_option linter.unusedVariables false
set_option linter.unusedSimpArgs false
open Go Go.SL Go.Proofs Pl Rt
namespace Rt
theorem awake_eq : law44_awake 400100 = some true := by decide +kernel
end Rt
set_option maxRecDepth 100000 in
theorem law44_RuletypeWorst_true (x : S_ref43_Node) (o0 : S_ref43_Node.ok x) : ∃ n, law44_RuletypeWorst n x = some true := by
  refine ⟨400100, ?_⟩
  unfold law44_RuletypeWorst
  rcases Large_ok (n := 400100) o0 (by omega) with hL | ⟨hL, hx⟩
  · rw [hL, Option.bind_some, if_pos rfl, Option.bind_some, if_pos rfl, Option.bind_some]
  · rw [hL, Option.bind_some, if_neg (by simp), awake_eq, Option.bind_some, Option.bind_some, if_neg (by simp)]
    have cN := Large_cnt hL
    obtain ⟨y, hy, cy⟩ := Of_ok 40 400100 x hx (by omega)
    obtain ⟨b, b1, b2⟩ := Valid_rel (n := 400100) (d := 39) hx cy (by omega) (by omega) (Nat.le_trans cN (by omega))
    have hC := Check_pure (d := 39) (n := 400100) (cy.ok hx) (by omega) (by omega) b2
    have hC2 := Check2_pure (d := 39) (n := 400100) hx cy (by omega) (by omega) b1 b2
    rw [hy, Option.bind_some]
    unfold ruletype_Worst ref44_Worst
    rw [hC, hC2, Option.bind_some, Option.bind_some]
    cases b with
    | false => rfl
    | true =>
      simp only [if_true]
      unfold chkR
      cases q : foldS (stm 39) base y.Kids with
      | error e =>
        have := fold_err q
        simp [num_eq, fl2, this]
      | ok ρ =>
        have hv := Valid_inv b2
        have hok := cy.ok hx
        have hcn : cntL 39 y.Kids ≤ 700 := by
          have := cy.cnt
          rw [← this, cnt_eq] at cN
          omega
        obtain ⟨c1, c2, c3, c4⟩ := cy
        obtain ⟨o1, o2, o3⟩ := hx
        obtain ⟨p1, p2, p3⟩ := hok
        have hg : ∀ k ∈ y.Kids, Gd 39 k := fun k hk => ⟨p3 k hk, 400100, hv k hk⟩
        have hw := worst_pure 39 400100 y.Kids [] ρ hg p2 (by omega) (by simp only [List.length_nil]; omega) (by omega) q
        have hw2 := block2_pure 39 400100 x.Kids y.Kids [] ρ o3 c4 hg o2 (by omega) (by simp only [List.length_nil]; omega) rg_base (by omega) q
        rw [lkf_nil] at hw
        rw [lkf2_nil] at hw2
        have bd := foldW_bd (d := 39) (w := wS 39) (g := stm 39) y.Kids base fun q hq ρ => wS_bd 39 q (p3 q hq) ρ
        simp only [fl2, Option.isSome_none, Bool.false_eq_true, if_false, ne_eq, not_true_eq_false, decide_false]
        rw [hw, hw2, Option.bind_some, Option.bind_some, chk_bind (by constructor <;> omega), chk_bind (by constructor <;> omega)]
        simp [num_eq]
