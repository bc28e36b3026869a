/- The library: facts about walks, over any program. -/
import Derived.Test.YtmpdebfckeahmaaGreatDoorLJ
import Derived.Lib.SlicesCompact
import Derived.Lib.RowBridge
import Derived.Shelf.Slices.CompactS
set_option linter.unusedVariables false
set_option linter.unusedSimpArgs false
set_option linter.unusedSectionVars false
namespace Go.SL
open Go
open Go
open Go
section
variable {P : Program} {α : Type} {ops : Array Oper} {env : List Value} {K : Hp} {H H' : List HProp} {Q : KP} {enc : α → List Value} {a : Option Addr} {e sz cap : Nat} {l : List α}
theorem DStep.conv (h : ∀ Γ w, Sat Γ K H w → ∃ K' H', Sat Γ K' H' w ∧ DStep P ops env K' H' Q) : DStep P ops env K H Q :=
 ⟨fun Γ w s id Q' hQ => let ⟨_, _, s', h'⟩ := h Γ w s; h'.out Γ w s' id Q' hQ⟩
end
end Go.SL
