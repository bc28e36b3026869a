/- From a contract to what a law's row asks. -/
import Derived.Test.YtpmdpondlmkojaaSL8
set_option linter.unusedVariables false
namespace Go.SL
open Go Go.RowKit

/-- All that was there when the call began. -/
def old (w : World) : Hp := fun b => w.heap[b]?
theorem Sat.old {w : World} {F : HProp} (hF : F fun _ => none) : Sat w (old w) ([] ++ [F]) w :=
  ⟨rfl, rfl, rfl, fun i o h => h, fun _ => none, fun _ => .inr rfl, ⟨fun _ => none, fun _ => none, fun _ => .inl rfl, .refl _, .refl _, hF, trivial⟩, fun i o h => by cases h⟩
theorem below_of {w w' : World} {K' : Hp} {H : List HProp} (hk : (old w).Le K') (s : Sat w K' H w') : Below w.heap.size w w' := by
  have hb : ∀ k, k < w.heap.size → w'.heap[k]? = w.heap[k]? := fun k hk' => by
    obtain ⟨o, ho⟩ : ∃ o, w.heap[k]? = some o := ⟨w.heap[k], by simp [hk']⟩
    rw [ho]; exact s.know k o (hk k o ho)
  refine ⟨s.os, s.tape, s.output, ?_, hb⟩
  rcases Nat.eq_zero_or_pos w.heap.size with h0 | h0
  · omega
  · have h1 := hb (w.heap.size - 1) (by omega)
    have h2 : w'.heap[w.heap.size - 1]? ≠ none := by rw [h1]; simp; omega
    have h3 : w.heap.size - 1 < w'.heap.size := Classical.byContradiction fun e => h2 (by simp; omega)
    omega
theorem law_calls {P : Program} {f : FuncId} {args : List Value} {w : World} {v : Value} (h : Fn P f args (old w) [] (fun r K' H' => r = v)) :
    Calls P f args.toArray w fun e w' => e = .returned v ∧ Below w.heap.size w w' :=
  (h.2 (Fact True) w w (Sat.old trivial)).mono fun e w' ⟨r, K', H', he, hk, hr, s⟩ => by subst hr; exact ⟨he, below_of hk s⟩
end Go.SL
