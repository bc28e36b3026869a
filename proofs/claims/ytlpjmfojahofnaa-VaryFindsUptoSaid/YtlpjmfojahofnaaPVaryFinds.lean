import Derived.Test.YtlpjmfojahofnaaVaryI
set_option linter.unusedVariables false
set_option linter.unusedSimpArgs false
open Go Go.SL Go.Proofs Pl Vary
theorem same_L0 {n : Nat} (hn : 2 ≤ n) {f g : List RF} (hf : tot f ≤ 10000) (hg : tot g ≤ 10000) : ∀ (l : List Str) (i : Nat) (b : Bool), sumL l ≤ 1000 → law16_VaryFinds_L0 n f g l i b = some (b && l.all (sameB f g))
  | [], i, b, _ => by simp [law16_VaryFinds_L0]
  | m :: l, i, b, h => by
    rw [sumL_cons] at h
    rw [law16_VaryFinds_L0, rvalue hn (by omega) (by omega), Option.bind_some, rvalue hn (by omega) (by omega), Option.bind_some, same_L0 hn hf hg l (i + 1) _ (by omega), List.all_cons]
    unfold sameB jv
    simp only [Bool.and_assoc]
theorem large2_eq {f g : List RF} (hf : okF f) (hg : okF g) : law16_large [f, g] = some (decide (tot f + tot g > 3000)) := by
  have h1 := hf.1
  have h2 := hg.1
  have h3 := tot_ok hf
  simp only [szUp] at h1 h2
  unfold law16_large
  rw [chk_bind (by simp [szMax]), law16_large_L0, chk_bind (by simp only [szMax]; omega), large_L2 f 0 0 (by omega) (by omega) hf.2, Option.bind_some, law16_large_L0, chk_bind (by simp only [szMax]; omega), large_L2 g 0 _ (by omega) (by omega) hg.2, Option.bind_some, law16_large_L0, Option.bind_some]
  congr 1
  apply decide_eq_decide.2
  omega
theorem clone_eq {l : List Str} (h : l.length ≤ 1000000) : slices_Clone_string l = some l := by
  unfold slices_Clone_string
  rw [chk_bind (by simp only [lim, List.length_nil]; omega)]; rfl
theorem law16_VaryFinds_true (names : List Str) (f g : List RF) (o0 : names.length ≤ szUp ∧ ∀ y0 ∈ names, y0.length ≤ szUp) (o1 : f.length ≤ szUp ∧ ∀ y0 ∈ f, S_ref02_Field.ok y0) (o2 : g.length ≤ szUp ∧ ∀ y0 ∈ g, S_ref02_Field.ok y0) : ∃ n, law16_VaryFinds n names f g = some true := by
  refine ⟨5, ?_⟩
  unfold law16_VaryFinds
  rw [long_eq o0.1 o0.2, Option.bind_some, large2_eq o1 o2, Option.bind_some]
  by_cases h1 : sumL names > 500
  · rw [if_pos (by simpa using h1), Option.bind_some, if_pos rfl, Option.bind_some, if_pos rfl, Option.bind_some, if_pos (by simpa using h1), Option.bind_some]
  · rw [if_neg (by simpa using h1), Option.bind_some]
    by_cases h2 : tot f + tot g > 3000
    · rw [if_pos (by simpa using h2), Option.bind_some, if_pos rfl, Option.bind_some, if_neg (by simpa using h1), Option.bind_some]
      simp [h2]
    · have hsl := sumL_len names
      rw [if_neg (by simpa using h2), awake5, Option.bind_some, Option.bind_some, if_neg (by simp), show vary_New = some ⟨[]⟩ from rfl, Option.bind_some, fields_eq o1.1, Option.bind_some]
      have hput : vary_Set_Put 5 ⟨[]⟩ names (ffs f) 5 = some ([], ⟨[⟨names, key names f, 5⟩]⟩) := by
        unfold vary_Set_Put
        rw [clone_eq (by omega), Option.bind_some, fkey (by omega) (by omega), Option.bind_some, chk_bind (by simp [szMax])]
        rfl
      rw [hput, Option.bind_some, chk_bind (by simp only [szMax]; omega), same_L0 (by omega) (by omega) (by omega) names 0 true (by omega), Option.bind_some, fields_eq o2.1, Option.bind_some]
      have hkey : vary_Key names (ffs g) = some (key names g) := fkey (by omega) (by omega)
      have hfind : vary_Set_Find ⟨[⟨names, key names f, 5⟩]⟩ (ffs g) = some (if key names g = key names f then [5] else []) := by
        unfold vary_Set_Find
        rw [chk_bind (by simp [szMax]), vary_Set_Find_L0, show vary_Key (S_vary_variant.names ⟨names, key names f, 5⟩) (ffs g) = some (key names g) from hkey, Option.bind_some]
        by_cases k : key names g = key names f
        · rw [if_pos (by simpa using k), if_pos k]; rfl
        · rw [if_neg (by simpa using k), if_neg k]; rfl
      show ((vary_Set_Find ⟨[⟨names, key names f, 5⟩]⟩ (ffs g)).bind _) = _
      rw [hfind, Option.bind_some, Bool.true_and]
      have hk : (names.all (sameB f g)) = decide (key names g = key names f) := by
        rw [Bool.eq_iff_iff, List.all_eq_true, decide_eq_true_iff]
        rw [show (key names g = key names f) = (key names f = key names g) from propext ⟨Eq.symm, Eq.symm⟩, key_same]
        exact ⟨fun h n hn => sameB_t.1 (h n hn), fun h n hn => sameB_t.2 (h n hn)⟩
      rw [hk]
      by_cases k : key names g = key names f
      · rw [if_pos (by simpa using k), if_pos k]; rfl
      · rw [if_neg (by simpa using k), if_neg k]; rfl
