/- The readers of a stream. -/
import Derived.Test.YtpmdpondlmkojaaFanoutL
import Derived.Test.YtpmdpondlmkojaaPlain
set_option linter.unusedVariables false
set_option linter.unusedSimpArgs false
open Go Go.SL Go.Proofs Fanout Pl
namespace Fanout
theorem readers_eq {s : Fs} (h : s.offsets.length ≤ 1000) : fanout_Stream_Readers s = some (sortI (keys s.offsets)) := by
  unfold fanout_Stream_Readers
  refine perms_eq fun l hl => ?_
  have hlen : l.length ≤ 1000 := by rw [hl.length_eq]; exact h
  rw [mfold_filter (fun _ => true) (·.1) s.offsets 2000 (fun e s he hs => ?_) l [] (fun e he => hl.mem_iff.1 he) (by simp; omega)]
  · have hf : l.filter (fun _ => true) = l := List.filter_eq_self.2 fun _ _ => rfl
    simp only [Option.bind_some, List.nil_append, hf]
    rw [sortIM_t (by simp only [List.length_map, lim]; omega)]
    simp only [Option.bind_some]
    rw [sortI_congr (hl.map _)]; rfl
  · unfold fanout_Stream_Readers_L0
    rw [chk_bind (by simp only [List.length_cons, List.length_nil, lim]; omega)]; rfl
end Fanout
