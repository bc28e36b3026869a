/- The library: facts about walks, over any program. -/
import Derived.Test.YtmpdebfckeahmaaGreatDoorLJ
import Derived.Lib.SlicesCompact
import Derived.Lib.RowBridge
import Derived.Shelf.Slices.CompactS
set_option linter.unusedVariables false
set_option linter.unusedSimpArgs false
set_option linter.unusedSectionVars false
namespace Go.SL
open Go
open Go
open Go
section
variable {P : Program} {α : Type} {ops : Array Oper} {env : List Value} {K : Hp} {H H' : List HProp} {Q : KP} {enc : α → List Value} {a : Option Addr} {e sz cap : Nat} {l : List α}
theorem DStep.conv (h : ∀ Γ w, Sat Γ K H w → ∃ K' H', Sat Γ K' H' w ∧ DStep P ops env K' H' Q) : DStep P ops env K H Q :=
 ⟨fun Γ w s id Q' hQ => let ⟨_, _, s', h'⟩ := h Γ w s; h'.out Γ w s' id Q' hQ⟩
theorem fzDR {R : Rp α} {css : List (List Value)} (hR : RpOK sz R) (hr : Rem (OwnA a e sz cap css) H H') (hl : LR R K css l) (h : ∀ K', K.Le K' → LiC R K' a cap sz l → DStep P ops env K' H' Q) : DStep P ops env K H Q :=
 DStep.conv fun Γ w s => let ⟨K', h1, h2, h3⟩ := s.fzA hr; ⟨K', H', h3, h K' h1 ⟨LiR.mk' h2 (hl.mono hR h1), by rw [← hl.len]; exact (s.rem hr).ownLen⟩⟩
end
end Go.SL
