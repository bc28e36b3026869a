/- Plain facts about the mirrors of package tags. -/
import Derived.Test.YtfngobjpmjpefaaG1
import Derived.Test.YtfngobjpmjpefaaPlain
set_option linter.unusedVariables false
set_option linter.unusedSimpArgs false
open Go Go.SL Go.Proofs Pl
namespace Tags
abbrev Ix := S_tags_Index
theorem good_t : tags_good [116] = some true := by decide +kernel
theorem compactM_t {l : List Str} (h : l.length ≤ lim) : compactM l = some (Go.Lib.compact l) := by unfold compactM; rw [if_pos h]
theorem clone_eq {l : List Str} (h : l.length ≤ lim) : slices_Clone_string l = some l := by
  unfold slices_Clone_string
  rw [chk_bind (by simpa using h)]; rfl
theorem ids_eq {x : Ix} (h : x.entries.length ≤ 100000) : tags_Index_IDs x = some (sortS (keys x.entries)) := by
  unfold tags_Index_IDs
  refine perms_eq fun l hl => ?_
  have hlen : l.length ≤ 100000 := by rw [hl.length_eq]; exact h
  rw [mfold_filter (fun _ => true) (·.1) x.entries 200000 (fun e s he hs => ?_) l [] (fun e he => hl.mem_iff.1 he) (by simp; omega)]
  · have hf : l.filter (fun _ => true) = l := List.filter_eq_self.2 fun _ _ => rfl
    simp only [Option.bind_some, List.nil_append, hf]
    rw [sortSM_t (by simp only [List.length_map, lim]; omega)]
    simp only [Option.bind_some]
    rw [sortS_congr (hl.map _)]; rfl
  · unfold tags_Index_IDs_L0
    rw [chk_bind (by simp only [List.length_cons, List.length_nil, lim]; omega)]; rfl
theorem awake_eq : law35_awake = some true := by
  have h1 : tags_Index_Put_bor ⟨[]⟩ [97] [[116]] = some (none, ⟨[([97], [[116]])]⟩) := by
    unfold tags_Index_Put_bor
    rw [if_neg (by decide), chk_bind (by decide), tags_Index_Put_bor_L0, good_t]
    simp only [Option.bind_some, Bool.not_true, Bool.false_eq_true, if_false, tags_Index_Put_bor_L0, Fl.el]
    rw [clone_eq (by decide), Option.bind_some, sortSM_t (by decide), Option.bind_some, compactM_t (by rw [sortS_len]; decide)]
    have : sortS [[116]] = [[116]] := by unfold sortS; simp
    rw [this]
    rfl
  have h2 : tags_Index_Find ⟨[([97], [[116]])]⟩ [116] = some [[97]] := by
    unfold tags_Index_Find
    rw [ids_eq (by decide)]
    have : sortS (keys [(([97] : Str), ([[116]] : List Str))]) = [[97]] := by unfold sortS keys; simp
    simp only [this, Option.bind_some]
    rw [chk_bind (by decide)]
    decide +kernel
  unfold law35_awake
  rw [show tags_New = some ⟨[]⟩ from rfl, Option.bind_some, h1, Option.bind_some]
  simp only [Option.isSome_none, Bool.false_eq_true, if_false]
  rw [h2]
  rfl
end Tags
