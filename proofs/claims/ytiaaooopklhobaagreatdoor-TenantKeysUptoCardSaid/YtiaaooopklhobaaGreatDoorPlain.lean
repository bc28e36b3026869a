/- Plain facts: checks. (The part of Plain.lean that Ruletype uses.) -/
import Derived.Test.YtiaaooopklhobaaGreatDoorLT
namespace Pl
open Go Go.SL
theorem qao {p : Prop} [Decidable p] (h : p) {γ : Type} {f : Unit → Option γ} : (chk p).bind f = f () := by rw [qri h]; rfl
end Pl
