import Derived.Test.YtkpipkpdnbconaaGreatDoorRtAll
set_option linter.unusedVariables false
set_option linter.unusedSimpArgs false
open Go Go.SL Go.Proofs Pl Rt Rt.Rc
namespace Rt.Rc
theorem awake_eq : JbP 400100 = some true := by decide +kernel
end Rt.Rc
theorem Jbz (code : List Jo) (o0 : code.length ≤ szUp ∧ ∀ y0 ∈ code, Jo.ok y0) : ∃ n, Jav n code = some true := by
  refine ⟨400100, ?_⟩
  have hsm : ∀ x ∈ code, SmI x := fun x hx => (o0.2 x hx).2.2
  obtain ⟨b, hb, hlg⟩ := large_eq o0.1 hsm
  unfold Jav
  rw [hb, Option.bind_some]
  cases b with
  | true => rw [if_pos rfl, Option.bind_some, if_pos rfl, Option.bind_some]
  | false =>
    obtain ⟨l1, l2⟩ := hlg rfl
    have hS : ∀ x ∈ code.map uncv, x.S.length ≤ 100000 := fun x hx => by
      obtain ⟨y, hy, rfl⟩ := List.mem_map.1 hx
      have := l2 y hy
      show y.S.length ≤ 100000
      omega
    have hD := Depth_pure hS
    rw [map_cv_uncv] at hD
    rw [if_neg (by simp), awake_eq, Option.bind_some, Option.bind_some, if_neg (by simp), hD, Option.bind_some, code_eq (by omega), Option.bind_some, Check45_pure hS, Option.bind_some, Option.bind_some, Depth45_pure hS, Option.bind_some]
    cases depthOf (code.map uncv) with
    | none => simp [is_eq]
    | some g => simp
