/- The row of TagsPlays: for all inputs the law returns true; no condition beyond the given statement. -/
import Derived.Test.YtfngobjpmjpefaaPTagsPlays
import Derived.Test.YtfngobjpmjpefaaR
import Derived.Test.YtfngobjpmjpefaaRows
namespace Go.Proofs.Ytfngobjpmjpefaa.tagsPlays
open Go Go.SL Go.ChangeShapes Go.WideShapes Go.ChangeAt Go.RowKit
set_option linter.unusedVariables false
theorem own : ownKnob Try.prog.godebug = none := by kernel_rfl
theorem laidOut : laidOutB Try.prog = true := by kernel_rfl
theorem rows : ([22, 9].all fun t => Try.prog.readableRec t && decide (t < Try.prog.types.size)) = true := by kernel_rfl
set_option maxRecDepth 100000 in
theorem lifted (os : Os) (started : os.Started) (H : Type) (enc : TypeId × Value → H) :
    ReturnsInHanded {} Try.checked os 3 .any (Rows.tagsPlaysSpec.pre6 enc Try.prog Try.f3 Rows.tagsPlaysRow.domain false) (Rows.tagsPlaysSpec.post enc Try.prog Try.f3 false true false false) := by
  refine returnsInHanded_of_change_sized (C := Try.checked) own started (by kernel_rfl) Try.func3
    (ChangeSpec.witness6 (enc := enc) (C := Try.checked) false ⟨#[], #[.slice none 0 0, .string ByteArray.empty], []⟩ 8 (by kernel_rfl) (by kernel_rfl) (by kernel_rfl) (by kernel_rfl)) ?_
  intro W base args ds gs before hval0 hW hcnd hsz0 _
  have hval : ∀ (j : Nat) t v, Try.f3.params[j]? = some t → args[j]? = some v → Value.okWide Try.prog W .any base t v := hval0
  have hW' := hW
  obtain ⟨p, q, hA0, hV, rfl, hfz, hnd⟩ := hW
  have hA : DataW.TrodAll enc Try.prog W 0 (fun _ => true) true Try.f3.params.toList args.toList ds p := hA0
  have hsz : (DataW.weightsEach Try.prog (Try.f3.params.toList ++ Rows.tagsPlaysSpec.plain.varTypes Try.prog) (ds ++ gs)).all (· ≤ reachBytes) = true := hsz0
  rw [Try.params3] at hA hval hsz
  obtain ⟨v0, vs0, d0, ds0, p0, q0, hargs, rfl, rfl, h0, r0⟩ := trodAll_cons hA
  obtain ⟨v1, vs1, d1, ds1, p1, q1, rfl, rfl, rfl, h1, r1⟩ := trodAll_cons r0
  obtain ⟨rfl, rfl, rfl⟩ := trodAll_nil r1
  obtain rfl : args = #[v0, v1] := by cases args; simp_all
  obtain ⟨rfl, rfl⟩ := trodVars_none hV
  obtain ⟨x0, g0, o0⟩ := open_arg rd22 h0 (sz_of hsz 0 rfl rfl)
  obtain ⟨ad0, cp0, e0, f0⟩ := g0
  obtain rfl := one_of rfl (hval 0 22 v0 rfl rfl) e0
  obtain ⟨x1, g1, o1⟩ := open_arg rd9 h1 (sz_of hsz 1 rfl rfl)
  obtain rfl := one_of rfl (hval 1 9 v1 rfl rfl) g1
  obtain ⟨n, hp⟩ := law35_TagsPlays_true x0 x1 o0 o1
  clear hA0 hval0 hval
  refine (law_calls' (law35_TagsPlays_ok hp f0 rfl)).mono fun e W' ⟨he, bel⟩ => ?_
  subst he
  exact ⟨_, rfl, _, _, _, [], _, [], hW', trodAll_mk1 (shut_bool Try.underlying4 _), trodAll_stays laidOut bel rows hA fun x hx => hW'.lt x (List.mem_append_left _ hx), rfl, bel.frame _, fun h => by cases h⟩

theorem over : Rows.tagsPlaysRow.holds Try.pinned (OpenSpec.ofChange Rows.tagsPlaysSpec) :=
  OpenClaim.holds_of_wide 3 Try.f3 rfl rfl rfl rfl rfl rfl rfl ⟨rfl, rfl, rfl, rfl, rfl⟩ rfl rfl rfl rfl rfl (by kernel_rfl) Try.func3 (by kernel_rfl)
    (of_decide_eq_true (by kernel_rfl)) (by unfold Func.isWrapper; first | (rw [if_pos (by decide +kernel)]; kernel_rfl) | (rw [if_neg (by decide +kernel)]; exact ⟨rfl, rfl⟩))
    (fun os started H enc _ => lifted os started H enc)

/-- THE STATEMENT -/
theorem proved : Rows.TagsPlaysSaid :=
  over

end Go.Proofs.Ytfngobjpmjpefaa.tagsPlays
