/- The library: facts about walks, over any program. -/
import Derived.Test.YtjjfnlopijnfkaaLH
import Derived.Maps.RangeRun
import Derived.Laws.MakeOwn
set_option linter.unusedVariables false
set_option linter.unusedSimpArgs false
set_option linter.unusedSectionVars false
set_option linter.unusedVariables false
set_option linter.unusedSimpArgs false
set_option linter.unusedSectionVars false
namespace Go.SL
open Go Go.ChangeMaps
def mfold {α σ : Type} (B : α → σ → Option σ) : List α → σ → Option σ
  | [], s => some s
  | x :: l, s => (B x s).bind (mfold B l)
section
variable {P : Program} {α : Type} {enc : α → List Value} {t e sz : Nat} {K : Hp} {H : List HProp} {c : VP}
theorem made_flat (z : List Value) (hz : 0 < z.length) : ∀ n, (madeCells z.toArray (n * z.length)).toList = (List.replicate n z).flatten
  | 0 => by simp [madeCells]
  | n + 1 => by
    have ih := made_flat z hz n
    rw [List.replicate_succ', List.flatten_append, ← ih]
    simp only [madeCells, List.flatten_cons, List.flatten_nil, List.append_nil, Array.toList_map, Array.toList_range, Nat.succ_mul, List.range_add, List.map_append, List.map_map]
    congr 1
    apply List.ext_getElem
    · simp
    · intro i h1 h2
      simp only [List.length_map, List.length_range] at h1
      simp [Nat.mod_eq_of_lt h2, getElem!_pos, h2]
end
end Go.SL
