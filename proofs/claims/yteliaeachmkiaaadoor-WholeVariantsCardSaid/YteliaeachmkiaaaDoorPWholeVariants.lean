import Derived.Test.YteliaeachmkiaaaDoorWvE
import Derived.Test.YteliaeachmkiaaaDoorR
set_option linter.unusedVariables false
set_option linter.unusedSimpArgs false
open Go Go.SL Go.Proofs Pl Vary
theorem awakeW : quaysidetop_varyAwake 20000 = some true := by decide +kernel
theorem quote_a : syntax_Quote ([97] : Str) = some (([34, 97, 34] : Str), none) := by decide +kernel
theorem quaysidetop_WholeVariants_true (stored : List (List S_field_Field)) (varies : List Str) (ask : List S_field_Field) (o0 : stored.length ≤ szMax ∧ ∀ y0 ∈ stored, (y0.length ≤ szMax ∧ ∀ y1 ∈ y0, S_field_Field.ok y1)) (o1 : varies.length ≤ szMax ∧ ∀ y0 ∈ varies, y0.length ≤ szMax) (o2 : ask.length ≤ szMax ∧ ∀ y0 ∈ ask, S_field_Field.ok y0) : ∃ n, quaysidetop_WholeVariants n stored varies ask = some true := by
  refine ⟨20000, ?_⟩
  unfold quaysidetop_WholeVariants
  rw [awakeW]
  by_cases h0 : ((decide ((stored.length : Int) > 12) || decide ((varies.length : Int) > 12)) || decide ((ask.length : Int) > 12)) = true
  · rw [if_pos h0]; rfl
  · have hS : stored.length ≤ 12 := by
      simp only [Bool.or_eq_true, decide_eq_true_eq, not_or] at h0; omega
    rw [if_neg h0, Option.bind_some, Option.bind_some]
    simp only [Bool.not_true, Bool.false_eq_true, if_false, List.nil_append]
    rw [chk_bind (by simp only [lim, List.length_nil]; omega), chk_bind (by simp only [lim, List.length_cons, List.length_nil]; omega), chk_bind (by simp only [szMax, List.length_append, List.length_cons, List.length_nil]; omega)]
    rcases wv_L0 (stored ++ [ask]) 0 (fun f hf => by
      rcases List.mem_append.1 hf with hf | hf
      · exact o0.2 f hf
      · rw [List.mem_singleton] at hf; subst hf; exact o2) with h1 | ⟨h1, hg⟩
    · rw [h1]; rfl
    · have gS : ∀ f ∈ stored, GoodF f := fun f hf => hg f (List.mem_append_left _ hf)
      have ga : GoodF ask := hg ask (by simp)
      rw [h1, Option.bind_some, el_go, show vary_New = some ⟨[]⟩ from rfl, Option.bind_some, chk_bind o0.1]
      have w0 : WInv stored [] [] := ⟨(fun j v h => by simp at h), (fun j v f h => by simp at h), (fun v h => by cases h), (fun j h => by cases h)⟩
      rcases wv_L4 (varies := varies) (n := 20000) (S := stored) (by omega) hS gS stored [] [] rfl w0 (by simpa using hS) with h2 | ⟨vs, m, h2, hw, hl⟩
      · have h2 : quaysidetop_WholeVariants_L4 varies 20000 stored 0 [] [] ⟨[]⟩ = some (Fl.ret true) := h2
        rw [h2]; rfl
      · have h2 : quaysidetop_WholeVariants_L4 varies 20000 stored 0 [] [] ⟨[]⟩ = some (Fl.go (vs.map (·.names), m, ⟨alive vs m⟩)) := h2
        have hl : vs.length = stored.length := by simpa using hl
        rw [h2, Option.bind_some, el_go]
        have ha : (alive vs m).length ≤ vs.length := by unfold alive; have := List.length_filter_le (fun v : Vt => !gn m v.id) vs.reverse; rwa [List.length_reverse] at this
        have hfd := find_eq (l := alive vs m) (f := ask) (by omega) (tot_good ga) (fun v hv => hw.sm v (alive_mem hv).1)
        rw [ffs_id] at hfd
        show ((vary_Set_Find ⟨alive vs m⟩ ask).bind _) = _
        rw [hfd, Option.bind_some, chk_bind (by constructor <;> omega)]
        generalize hgot : ((alive vs m).filter (hit ask)).map (·.id) = got
        have hgl : got.length ≤ 12 := by
          rw [← hgot, List.length_map]
          have := List.length_filter_le (hit ask) (alive vs m); omega
        have h8 := wv_L8 (st := ⟨alive vs m⟩) (ask := ask) (got := got) hw hS hl gS ga stored.length 20000 0 (by omega) (by omega) (by omega) (by omega) (by
          rw [List.drop_zero, ← hgot, ← hl, List.take_length]
          unfold alive
          rw [List.filter_filter]
          congr 1
          refine List.filter_congr fun v _ => ?_
          rw [Bool.and_comm])
        rw [show ((0 : Nat) : Int) = 0 from rfl] at h8
        rw [h8, Option.bind_some, el_go, chk_bind o0.1, wv_L12 (by omega) hw hS hl gS stored 0 rfl (by omega), Option.bind_some, el_go, quote_a, Option.bind_some]
        simp
