/- Plain facts: checks. (The part of Plain.lean that Ruletype uses.) -/
import Derived.Test.YtmpdebfckeahmaaGreatDoorLS
namespace Pl
open Go Go.SL
theorem qaa {p : Prop} [Decidable p] (h : p) {γ : Type} {f : Unit → Option γ} : (chk p).bind f = f () := by rw [qu3 h]; rfl
end Pl
