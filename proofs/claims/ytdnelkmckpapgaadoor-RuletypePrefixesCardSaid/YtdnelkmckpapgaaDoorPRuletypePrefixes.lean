import Derived.Test.YtdnelkmckpapgaaDoorRtY
set_option linter.unusedVariables false
set_option linter.unusedSimpArgs false
open Go Go.SL Go.Proofs Pl Rt
namespace Rt
theorem awake_eq : law44_awake 400100 = some true := by decide +kernel
end Rt
theorem law44_RuletypePrefixes_true (x : S_ref43_Node) (at_ : UInt8) (o0 : S_ref43_Node.ok x) (o1 : True) : ∃ n, law44_RuletypePrefixes n x at_ = some true := by
  refine ⟨400100, ?_⟩
  unfold law44_RuletypePrefixes
  rcases Large_ok (n := 400100) o0 (by omega) with hL | ⟨hL, hx⟩
  · rw [hL, Option.bind_some, if_pos (by simp), Option.bind_some, if_pos rfl, Option.bind_some]; simp
  · rw [hL, Option.bind_some]
    by_cases h0 : (x.Kids.length : Int) = 0
    · rw [if_pos (by simp [h0]), Option.bind_some, if_pos rfl, Option.bind_some]; simp [h0]
    · rw [if_neg (by simpa using h0), awake_eq, Option.bind_some, Option.bind_some, if_neg (by simp)]
      have cN := Large_cnt hL
      obtain ⟨_, hl, hk⟩ := hx
      rw [cntN_eq] at cN
      have hm0 : 0 ≤ Int.tmod (at_.toNat : Int) ((x.Kids.length : Int) + 1) := Int.tmod_nonneg _ (by omega)
      have hm1 : Int.tmod (at_.toNat : Int) ((x.Kids.length : Int) + 1) < (x.Kids.length : Int) + 1 := Int.tmod_lt_of_pos _ (by omega)
      generalize Int.tmod (at_.toNat : Int) ((x.Kids.length : Int) + 1) = k at hm0 hm1
      rw [chk_bind (by constructor <;> omega), chk_bind (by omega), show law44_Program x.Kids = some ⟨1, [], x.Kids, 1⟩ from rfl, Option.bind_some]
      have hsp : x.Kids.take k.toNat ++ x.Kids.drop k.toNat = x.Kids := List.take_append_drop _ _
      have hd1 : ∀ q ∈ x.Kids.take k.toNat, OkN 39 q := fun q hq => hk q (List.mem_of_mem_take hq)
      have hd2 : ∀ q ∈ x.Kids.drop k.toNat, OkN 39 q := fun q hq => hk q (List.mem_of_mem_drop hq)
      have hl1 : (x.Kids.take k.toNat).length ≤ 700 := by rw [List.length_take]; omega
      obtain ⟨ys, _, hy⟩ := Of_top (n := 400100) (l := x.Kids.take k.toNat) (by omega) hd1 (by omega)
      obtain ⟨zs, _, hz⟩ := Of_top (n := 400100) (l := x.Kids.drop k.toNat) (by rw [List.length_drop]; omega) hd2 (by omega)
      have hyz := hy.append hz
      rw [hsp] at hyz
      obtain ⟨b, b1, b2⟩ := Valid_rel (n := 400100) (d := 39) (prog_ok hl hk) (prog_cvd hyz) (by omega) (by omega) (by rw [cntN_eq]; simp only; omega)
      rw [b1, Option.bind_some]
      cases b with
      | false => rw [if_pos (by simp)]
      | true =>
        have hv1 := Valid_prefix (n := 400100) (by rw [hsp]; exact hl) (by rw [hsp]; exact hk) hy hz (by omega) b2
        have hsub : subL x.Kids (0 : Int) k = x.Kids.take k.toNat := by
          unfold subL
          rw [show ((0 : Int)).toNat = 0 from rfl, List.drop_zero, show (k - 0).toNat = k.toNat from by omega]
        rw [if_neg (by simp), chk_bind (by omega), hsub, check_val hl1 hd1 hy (by omega) hv1, check_val hl hk hyz (by omega) b2, Option.bind_some, Option.bind_some]
        simp only [if_true]
        cases q : foldS (stm 39) base ys with
        | error e =>
          have := fold_err q
          have e1 : chkR 39 ys = (e.1, some e.2) := by unfold chkR; rw [q]
          have e2 : chkR 39 (ys ++ zs) = (e.1, some e.2) := by unfold chkR; rw [foldS_append, q]
          rw [e1, e2]
          simp [this]
        | ok ρ =>
          have e1 : chkR 39 ys = (0, none) := by unfold chkR; rw [q]
          rw [e1]
          cases q2 : foldS (stm 39) ρ zs with
          | error e =>
            have := fold_err q2
            have e2 : chkR 39 (ys ++ zs) = (e.1, some e.2) := by
              unfold chkR; rw [foldS_append, q]; simp only; rw [q2]
            rw [e2]
            simp [this]
          | ok ρ' =>
            have e2 : chkR 39 (ys ++ zs) = (0, none) := by
              unfold chkR; rw [foldS_append, q]; simp only; rw [q2]
            rw [e2]
            simp
