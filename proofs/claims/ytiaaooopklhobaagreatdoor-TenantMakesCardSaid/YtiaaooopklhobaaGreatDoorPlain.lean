/- Plain facts: checks. (The part of Plain.lean that Ruletype uses.) -/
import Derived.Test.YtiaaooopklhobaaGreatDoorLU
namespace Pl
open Go Go.SL
theorem qad {p : Prop} [Decidable p] (h : p) {γ : Type} {f : Unit → Option γ} : (chk p).bind f = f () := by rw [qwd h]; rfl
end Pl
