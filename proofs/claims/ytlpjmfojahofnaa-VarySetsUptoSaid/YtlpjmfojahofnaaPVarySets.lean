import Derived.Test.YtlpjmfojahofnaaVaryV
import Derived.Test.YtlpjmfojahofnaaR
set_option linter.unusedVariables false
set_option linter.unusedSimpArgs false
open Go Go.SL Go.Proofs Pl Vary
namespace Vary
abbrev Stp := S_law16_Step
structure VQ (l : List Vt) : Prop where
  len : l.length ≤ 16
  nm : ∀ v ∈ l, sumL v.names ≤ 500
theorem sets_L0 {n : Nat} (hn : 1000 ≤ n) : ∀ (s : List Stp) (i : Nat) (l : List Vt), VQ l → (∀ x ∈ s, S_law16_Step.ok x) → ∃ st, law16_VarySets_L0 n s i (l.map toR) ⟨l⟩ = some st ∧ st.el (fun b => some b) (fun _ => some true) = some true
  | [], i, l, _, _ => ⟨_, rfl, rfl⟩
  | x :: s, i, l, hv, hx => by
    obtain ⟨_, o1, o2, o3⟩ := hx x (by simp)
    simp only [InK] at o3
    have hxs : ∀ z ∈ s, S_law16_Step.ok z := fun z hz => hx z (by simp [hz])
    have hl := hv.len
    have hnl : ∀ v ∈ l, v.names.length ≤ 1000000 := fun v hm => by have := hv.nm v hm; have := sumL_len v.names; omega
    have hn1 : ∀ v ∈ l, sumL v.names ≤ 1000 := fun v hm => by have := hv.nm v hm; omega
    have hInI : InI x.ID := by constructor <;> omega
    rw [law16_VarySets_L0, long_eq o1.1 o1.2, Option.bind_some, large_eq o2, Option.bind_some]
    by_cases h1 : sumL x.Names > 500
    · rw [if_pos (by simpa using h1), Option.bind_some, if_pos rfl]; exact ⟨_, rfl, rfl⟩
    · rw [if_neg (by simpa using h1), Option.bind_some]
      by_cases h2 : tot x.FZ > 3000
      · rw [if_pos (by simpa using h2)]; exact ⟨_, rfl, rfl⟩
      · rw [if_neg (by simpa using h2), fields_eq o2.1, Option.bind_some]
        split
        · have hfl : ((l.filter (hit x.FZ)).map (·.id)).length ≤ 1000 := by
            have := List.length_filter_le (hit x.FZ) l; rw [List.length_map]; omega
          rw [find_eq (by omega) (by omega) hn1, Option.bind_some, rfind_eq (by omega) (by omega) (by omega) hn1, Option.bind_some, ints_eq hfl, Option.bind_some, Bool.not_true, if_neg (by simp), ids_eq (by omega), Option.bind_some, rids_eq (by omega), Option.bind_some, ints_eq (by rw [List.length_map]; omega), Option.bind_some, Bool.not_true, if_neg (by simp)]
          exact sets_L0 hn s (i + 1) l hv hxs
        · split
          · have hfl : (l.filter (kp x.ID)).length ≤ l.length := List.length_filter_le _ _
            have hK : VQ (l.filter (kp x.ID)) := ⟨by omega, fun v hm => hv.nm v (List.mem_filter.1 hm).1⟩
            rw [chk_bind hInI, remove_eq hn (by omega), Option.bind_some, chk_bind hInI, rremove_eq (by omega), Option.bind_some]
            simp only
            rw [beq_self_eq_true, Bool.not_true, if_neg (by simp), ids_eq (by omega), Option.bind_some, rids_eq (by omega), Option.bind_some, ints_eq (by rw [List.length_map]; omega), Option.bind_some, Bool.not_true, if_neg (by simp)]
            exact sets_L0 hn s (i + 1) _ hK hxs
          · have hK : VQ ((putL l x.Names (key x.Names x.FZ) x.ID).take 16) := by
              refine ⟨by simp; omega, fun v hm => ?_⟩
              have := List.mem_of_mem_take hm
              unfold putL at this
              rcases List.mem_cons.1 this with rfl | this
              · simp only; omega
              · exact hv.nm v (List.mem_filter.1 this).1
            have hgl : (goneL l x.Names (key x.Names x.FZ) x.ID).length ≤ 1000 := by
              have h3 := List.length_filter_le (out x.ID (key x.Names x.FZ) x.Names) l
              have h4 := List.length_filter_le (stay x.ID (key x.Names x.FZ) x.Names) l
              unfold goneL putL
              simp only [List.length_append, List.length_map, List.length_drop, List.length_cons]
              omega
            have hkl := hK.len
            rw [chk_bind hInI, put_eq (by omega) hl hnl (by omega) (by omega), Option.bind_some, rkey (by omega) (by omega) (by omega), Option.bind_some, chk_bind hInI, rput_eq (by omega) hl hnl, Option.bind_some]
            simp only
            rw [ints_eq hgl, Option.bind_some, Bool.not_true, if_neg (by simp), ids_eq (by omega), Option.bind_some, rids_eq (by omega), Option.bind_some, ints_eq (by rw [List.length_map]; omega), Option.bind_some, Bool.not_true, if_neg (by simp)]
            exact sets_L0 hn s (i + 1) _ hK hxs
end Vary
theorem awakeS : law16_awake 1000 = some true := by decide +kernel
theorem law16_VarySets_true (script : List S_law16_Step) (o0 : script.length ≤ szUp ∧ ∀ y0 ∈ script, S_law16_Step.ok y0) : ∃ n, law16_VarySets n script = some true := by
  refine ⟨1000, ?_⟩
  unfold law16_VarySets
  by_cases h : (script.length : Int) > 40
  · rw [if_pos (by simpa using h), Option.bind_some, if_pos rfl]; simp [h]
  · rw [if_neg (by simpa using h), awakeS, Option.bind_some, Option.bind_some, Bool.not_true, if_neg (by simp), show vary_New = some ⟨[]⟩ from rfl, Option.bind_some, chk_bind (by simp only [szMax]; omega)]
    obtain ⟨st, h1, h2⟩ := sets_L0 (n := 1000) (by omega) script 0 [] ⟨by simp, by simp⟩ o0.2
    have h1 : law16_VarySets_L0 1000 script 0 [] ⟨[]⟩ = some st := h1
    rw [h1]; exact h2
