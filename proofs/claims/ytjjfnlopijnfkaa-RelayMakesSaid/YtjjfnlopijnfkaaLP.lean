/- The library: facts about walks, over any program. -/
import Derived.Test.YtjjfnlopijnfkaaLO
import Derived.Lib.ItoaMem
import Derived.Lib.ItoaNum
import Derived.Lib.Split
import Derived.Lib.SplitLaws
import Derived.Lib.IndexMore
set_option linter.unusedVariables false
set_option linter.unusedSimpArgs false
set_option linter.unusedSectionVars false
set_option linter.unusedVariables false
set_option linter.unusedSimpArgs false
namespace Go.SL
open Go Go.RowKit
section
variable {P : Program}
/-- The cells of a package variable. -/
def GlA (g : Nat) (vs : List Value) (K : Hp) : Prop := ∃ t fz, K g = some (.cells vs.toArray t fz)
theorem GlA.mono {g : Nat} {vs : List Value} {K K' : Hp} (h : GlA g vs K) (hk : K.Le K') : GlA g vs K' := let ⟨t, fz, e⟩ := h; ⟨t, fz, hk _ _ e⟩
/-- A package variable that holds some number. -/
def GlN (g : Nat) (K : Hp) : Prop := ∃ m cs t fz, K g = some (.cells cs t fz) ∧ cs[0]? = some (.int .i64 m)
theorem GlN.mono {g : Nat} {K K' : Hp} (h : GlN g K) (hk : K.Le K') : GlN g K' := let ⟨m, cs, t, fz, e, q⟩ := h; ⟨m, cs, t, fz, hk _ _ e, q⟩
theorem GlN.cell {g : Nat} {K : Hp} (h : GlN g K) {Γ w : World} {H : List HProp} (s : Sat Γ K H w) : ∃ m, w.cell? ⟨g, 0, none⟩ = some (.int .i64 m) := by
  obtain ⟨m, cs, t, fz, e, q⟩ := h
  have hw := s.know g _ e
  exact ⟨m, by simp only [World.cell?, hw]; simpa using q⟩
end
end Go.SL
