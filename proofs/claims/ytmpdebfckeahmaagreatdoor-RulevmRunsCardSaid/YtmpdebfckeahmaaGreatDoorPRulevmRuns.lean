import Derived.Test.YtmpdebfckeahmaaGreatDoorRtAll
set_option linter.unusedVariables false
set_option linter.unusedSimpArgs false
open Go Go.SL Go.Proofs Pl Rt Rt.Rc Rt.Rv
theorem Jb2 (code : List Jm) (inZ : Jn) (most : Int) (o0 : code.length ≤ szMax ∧ ∀ y0 ∈ code, Jm.ok y0) (o1 : Jn.ok inZ) (o2 : InK .i64 most) : ∃ n, Ja7 n code inZ most = some true := by
 refine ⟨1000010 + code.length + inZ.Fields.length, ?_⟩
 generalize hN : 1000010 + code.length + inZ.Fields.length = n
 obtain ⟨b1, hb1, hc⟩ := few_eq (n := n) (code := code) (by omega) o0.1 (fun x hx => (o0.2 x hx).2.2)
 obtain ⟨b2, hb2, hi⟩ := fits_eq (n := n) (i := inZ) (by omega) o1
 have haw := awake_eq' (n := n) (by omega)
 unfold Ja7
 rw [haw, Option.bind_some, if_neg (by simp), hb1, Option.bind_some, Option.bind_some]
 cases b1 with
 | false => rw [if_pos (by simp), Option.bind_some, Option.bind_some, if_pos rfl]
 | true =>
  rw [if_neg (by simp), hb2, Option.bind_some, Option.bind_some, Option.bind_some]
  cases b2 with
  | false => rw [if_pos (by simp)]; rfl
  | true =>
   obtain ⟨c1, c2⟩ := hc rfl
   have hI := hi rfl
   have hS : ∀ x ∈ code.map uncv, x.S.length ≤ 100000 := fun x hx => by
    obtain ⟨y, hy, rfl⟩ := List.mem_map.1 hx
    have := c2 y hy
    show y.S.length ≤ 100000
    omega
   rw [if_neg (by simp), code_eq (by omega), Option.bind_some, input_eq hI, Option.bind_some]
   cases hG : depthOf (code.map uncv) with
   | none =>
    have hck := Check45_pure hS
    have hdp := Depth_pure hS
    rw [hG] at hck hdp
    rw [map_cv_uncv] at hdp
    have e1 : JaB n (code.map uncv) (inp inZ) most = some (zR, some 2) := by
     unfold JaB; rw [hck]; rfl
    have e2 : JbG n code inZ most = some (r2 zR, 2) := by
     unfold JbG; rw [hdp]; rfl
    rw [e1, Option.bind_some, e2, Option.bind_some, num_eq, Option.bind_some]
    have e3 : Jcg zR (r2 zR) = some true := is_r2 (k := 0) ⟨⟨Nat.le_refl _, (fun x hx => by cases hx)⟩, Nat.le_refl _, Nat.le_refl _⟩ (by omega)
    rw [if_pos (by rfl), e3]; rfl
   | some G =>
    obtain ⟨r, h1, h2, h3, h4, h5⟩ := Run_both (n := n) (c := code.map uncv) (most := most) (by omega) (by rw [List.length_map]; omega) hS hI hG
    rw [map_cv_uncv] at h5
    rw [h4, Option.bind_some, h5, Option.bind_some, num_eq, Option.bind_some, if_pos (by simp), is_r2 h2 (by omega)]; rfl
