/- Plain facts: checks. (The part of Plain.lean that Ruletype uses.) -/
import Derived.Test.YtiaaooopklhobaaGreatDoorLT
namespace Pl
open Go Go.SL
theorem qak {p : Prop} [Decidable p] (h : p) {γ : Type} {f : Unit → Option γ} : (chk p).bind f = f () := by rw [qsr h]; rfl
end Pl
