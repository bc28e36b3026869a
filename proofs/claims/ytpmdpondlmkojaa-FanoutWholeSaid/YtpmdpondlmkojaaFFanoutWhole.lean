/- The row of FanoutWhole: for all inputs the law returns true; no condition beyond the given statement. -/
import Derived.Test.YtpmdpondlmkojaaPFanoutWhole
import Derived.Test.YtpmdpondlmkojaaR
import Derived.Test.YtpmdpondlmkojaaRows
namespace Go.Proofs.Ytpmdpondlmkojaa.fanoutWhole
open Go Go.SL Go.ChangeShapes Go.WideShapes Go.ChangeAt Go.RowKit
set_option linter.unusedVariables false
theorem own : ownKnob Try.prog.godebug = none := by kernel_rfl
theorem laidOut : laidOutB Try.prog = true := by kernel_rfl
theorem rows : ([35, 22, 22].all fun t => Try.prog.readableRec t && decide (t < Try.prog.types.size)) = true := by kernel_rfl
set_option maxRecDepth 100000 in
theorem lifted (os : Os) (started : os.Started) (H : Type) (enc : TypeId × Value → H) :
    ReturnsInHanded {} Try.checked os 4 .any (Rows.fanoutWholeSpec.pre6 enc Try.prog Try.f4 Rows.fanoutWholeRow.domain false) (Rows.fanoutWholeSpec.post enc Try.prog Try.f4 false true false false) := by
  refine returnsInHanded_of_change_sized (C := Try.checked) own started (by kernel_rfl) Try.func4
    (ChangeSpec.witness6 (enc := enc) (C := Try.checked) false ⟨#[], #[.slice none 0 0, .slice none 0 0, .slice none 0 0], []⟩ 8 (by kernel_rfl) (by kernel_rfl) (by kernel_rfl) (by kernel_rfl)) ?_
  intro W base args ds gs before hval0 hW hcnd hsz0 _
  have hval : ∀ (j : Nat) t v, Try.f4.params[j]? = some t → args[j]? = some v → Value.okWide Try.prog W .any base t v := hval0
  have hW' := hW
  obtain ⟨p, q, hA0, hV, rfl, hfz, hnd⟩ := hW
  have hA : DataW.TrodAll enc Try.prog W 0 (fun _ => true) true Try.f4.params.toList args.toList ds p := hA0
  have hsz : (DataW.weightsEach Try.prog (Try.f4.params.toList ++ Rows.fanoutWholeSpec.plain.varTypes Try.prog) (ds ++ gs)).all (· ≤ reachBytes) = true := hsz0
  rw [Try.params4] at hA hval hsz
  obtain ⟨v0, vs0, d0, ds0, p0, q0, hargs, rfl, rfl, h0, r0⟩ := trodAll_cons hA
  obtain ⟨v1, vs1, d1, ds1, p1, q1, rfl, rfl, rfl, h1, r1⟩ := trodAll_cons r0
  obtain ⟨v2, vs2, d2, ds2, p2, q2, rfl, rfl, rfl, h2, r2⟩ := trodAll_cons r1
  obtain ⟨rfl, rfl, rfl⟩ := trodAll_nil r2
  obtain rfl : args = #[v0, v1, v2] := by cases args; simp_all
  obtain ⟨rfl, rfl⟩ := trodVars_none hV
  obtain ⟨x0, g0, o0⟩ := open_arg rd35 h0 (sz_of hsz 0 rfl rfl)
  obtain ⟨ad0, cp0, e0, f0⟩ := g0
  obtain rfl := one_of rfl (hval 0 35 v0 rfl rfl) e0
  obtain ⟨x1, g1, o1⟩ := open_arg rd22 h1 (sz_of hsz 1 rfl rfl)
  obtain ⟨ad1, cp1, e1, f1⟩ := g1
  obtain rfl := one_of rfl (hval 1 22 v1 rfl rfl) e1
  obtain ⟨x2, g2, o2⟩ := open_arg rd22 h2 (sz_of hsz 2 rfl rfl)
  obtain ⟨ad2, cp2, e2, f2⟩ := g2
  obtain rfl := one_of rfl (hval 2 22 v2 rfl rfl) e2
  obtain ⟨n, hp⟩ := law28_FanoutWhole_true x0 x1 x2 o0 o1 o2
  clear hA0 hval0 hval
  refine (law_calls' (law28_FanoutWhole_ok hp f0 rfl f1 rfl f2 rfl)).mono fun e W' ⟨he, bel⟩ => ?_
  subst he
  exact ⟨_, rfl, _, _, _, [], _, [], hW', trodAll_mk1 (shut_bool Try.underlying4 _), trodAll_stays laidOut bel rows hA fun x hx => hW'.lt x (List.mem_append_left _ hx), rfl, bel.frame _, fun h => by cases h⟩

theorem over : Rows.fanoutWholeRow.holds Try.pinned (OpenSpec.ofChange Rows.fanoutWholeSpec) :=
  OpenClaim.holds_of_wide 4 Try.f4 rfl rfl rfl rfl rfl rfl rfl ⟨rfl, rfl, rfl, rfl, rfl⟩ rfl rfl rfl rfl rfl (by kernel_rfl) Try.func4 (by kernel_rfl)
    (of_decide_eq_true (by kernel_rfl)) (by unfold Func.isWrapper; first | (rw [if_pos (by decide +kernel)]; kernel_rfl) | (rw [if_neg (by decide +kernel)]; exact ⟨rfl, rfl⟩))
    (fun os started H enc _ => lifted os started H enc)

/-- THE STATEMENT -/
theorem proved : Rows.FanoutWholeSaid :=
  over

end Go.Proofs.Ytpmdpondlmkojaa.fanoutWhole
