/- Package variables that hold a slice of flat data: what is known of them. -/
import Derived.Test.YtpmdpondlmkojaaSL28
set_option linter.unusedVariables false
set_option linter.unusedSimpArgs false
namespace Go.SL
open Go
section
variable {P : Program} {α : Type} {enc : α → List Value} {K K' : Hp} {H : List HProp} {g sz : Nat} {l : List α}
def GlL (enc : α → List Value) (sz g : Nat) (l : List α) (K : Hp) : Prop := ∃ (a : Option Addr) (n cap : Nat), n = l.length ∧ RdS K (some ⟨g, 0, none⟩) 1 [[.slice a n cap]] ∧ RdC enc K a cap sz l
theorem GlL.mono (h : GlL enc sz g l K) (hk : K.Le K') : GlL enc sz g l K' :=
  let ⟨a, n, cap, h1, h2, h3⟩ := h; ⟨a, n, cap, h1, h2.mono hk, h3.mono hk⟩
theorem g_load {t : TypeId} {v : Value} {c : Value → Prop} (hr : RdS K (some ⟨g, 0, none⟩) 1 [[v]]) (ht : tyShape P t = some none) (h : c v) : RStepS P (.load t (.pointer (some ⟨g, 0, none⟩))) K H c := by
  have := load_rd (P := P) (H := H) (k := 0) 0 0 [v] v hr ht rfl rfl rfl h
  rw [eptr_some] at this
  exact this
end
end Go.SL
