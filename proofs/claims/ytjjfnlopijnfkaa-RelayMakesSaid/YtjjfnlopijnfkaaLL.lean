/- The library: facts about walks, over any program. -/
import Derived.Test.YtjjfnlopijnfkaaLK
import Derived.Lib.Join
set_option linter.unusedVariables false
set_option linter.unusedSimpArgs false
set_option linter.unusedSectionVars false
set_option linter.unusedVariables false
set_option linter.unusedSimpArgs false
namespace Go.SL
open Go Go.RowKit
end Go.SL
set_option linter.unusedVariables false
set_option linter.unusedSimpArgs false
namespace Go.SL
open Go
end Go.SL
set_option linter.unusedVariables false
set_option linter.unusedSimpArgs false
namespace Go.SL
open Go
end Go.SL
set_option linter.unusedVariables false
set_option linter.unusedSimpArgs false
namespace Go.SL
open Go
end Go.SL
namespace Go.SL
open Go
end Go.SL
namespace Go.SL
open Go
end Go.SL
set_option linter.unusedVariables false
set_option linter.unusedSimpArgs false
namespace Go.SL
open Go
section
variable {P : Program} {α : Type} {enc : α → List Value} {K K' : Hp} {H : List HProp} {g sz : Nat} {l : List α}
def GlL (enc : α → List Value) (sz g : Nat) (l : List α) (K : Hp) : Prop := ∃ (a : Option Addr) (n cap : Nat), n = l.length ∧ RdS K (some ⟨g, 0, none⟩) 1 [[.slice a n cap]] ∧ RdC enc K a cap sz l
theorem GlL.mono (h : GlL enc sz g l K) (hk : K.Le K') : GlL enc sz g l K' :=
  let ⟨a, n, cap, h1, h2, h3⟩ := h; ⟨a, n, cap, h1, h2.mono hk, h3.mono hk⟩
end
end Go.SL
