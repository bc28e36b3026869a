/- Scripts that are large. -/
import Derived.Test.YtpmdpondlmkojaaFanoutS
set_option linter.unusedVariables false
set_option linter.unusedSimpArgs false
open Go Go.SL Go.Proofs
namespace Fanout

theorem large_any : ∀ (l : List S_law28_Step) (i : Nat) (y : Int), ∃ t, law28_large_L0 l i y = some t := by
  intro l
  induction l with
  | nil => exact fun i y => ⟨y, rfl⟩
  | cons x l ih => exact fun i y => ih (i + 1) _
theorem large_sum : ∀ (l : List S_law28_Step) (i : Nat) (y : Int), 0 ≤ y → y + l.length * 140737488351232 ≤ 4611686018427387904 → (∀ x ∈ l, x.Data.length ≤ szMax) → ∃ t, law28_large_L0 l i y = some t ∧ y ≤ t ∧ ∀ x ∈ l, y + (x.Data.length : Int) ≤ t := by
  intro l
  induction l with
  | nil => intro i y _ _ _; exact ⟨y, rfl, Int.le_refl _, fun x hx => by cases hx⟩
  | cons x l ih =>
    intro i y h0 h1 h2
    have hx := h2 x (by simp)
    simp only [szMax] at hx
    have hl : ((x :: l).length : Int) = l.length + 1 := by simp
    rw [hl] at h1
    have hw : IntKind.i64.wrap (y + (x.Data.length : Int)) = y + (x.Data.length : Int) := Go.SL.wrap_in (k := .i64) (by simp only [InK]; omega)
    obtain ⟨t, e1, e2, e3⟩ := ih (i + 1) (y + (x.Data.length : Int)) (by omega) (by omega) fun z hz => h2 z (by simp [hz])
    refine ⟨t, by rw [law28_large_L0, hw]; exact e1, by omega, fun z hz => ?_⟩
    rcases List.mem_cons.1 hz with rfl | hz
    · exact e2
    · have := e3 z hz; omega
theorem large_eq (script : List S_law28_Step) (hs : script.length ≤ szMax) (hd : ∀ x ∈ script, x.Data.length ≤ szMax) : law28_large script = some true ∨ (law28_large script = some false ∧ script.length ≤ 80 ∧ ∀ x ∈ script, x.Data.length ≤ 3000) := by
  unfold law28_large
  rw [chk_t hs]
  by_cases hl : (script.length : Int) > 80
  · left
    obtain ⟨t, ht⟩ := large_any script 0 (script.length : Int)
    rw [Option.bind_some, ht, Option.bind_some]
    simp only [hl, decide_true, Bool.or_true]
  · obtain ⟨t, ht, h1, h2⟩ := large_sum script 0 (script.length : Int) (by omega) (by omega) hd
    rw [Option.bind_some, ht, Option.bind_some]
    by_cases h3 : t > 3000
    · left; simp only [h3, decide_true, Bool.true_or]
    · right
      refine ⟨by simp only [h3, hl, decide_false, Bool.or_false], by omega, fun x hx => ?_⟩
      have := h2 x hx; omega
end Fanout
