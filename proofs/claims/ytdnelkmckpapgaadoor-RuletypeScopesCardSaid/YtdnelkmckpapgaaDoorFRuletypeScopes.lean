/- The row of RuletypeScopes: for all inputs the law returns true; no condition beyond the given statement. -/
import Derived.Test.YtdnelkmckpapgaaDoorPRuletypeScopes
import Derived.Test.YtdnelkmckpapgaaDoorR
import Derived.Test.YtdnelkmckpapgaaDoorSL30
import Derived.Deep.DeepWitnessRowRef
import Derived.Test.YtdnelkmckpapgaaDoorCards
import Derived.Test.YtdnelkmckpapgaaDoorTie
namespace Go.Proofs.YtdnelkmckpapgaaDoor.ruletypeScopes
open Go Go.SL Go.ChangeShapes Go.WideShapes Go.ChangeAt Go.RowKit
set_option linter.unusedVariables false
theorem own : ownKnob Tryd.prog.godebug = none := by kernel_rfl
theorem laidOut : laidOutB Tryd.prog = true := by kernel_rfl
theorem rows : ([24].all fun t => Tryd.prog.readableRec t && decide (t < Tryd.prog.types.size)) = true := by kernel_rfl
theorem gG0 : Tryd.prog.globalNamed "quayside/rulelex.keywords" = some 0 := by kernel_rfl
theorem gT0 : (Tryd.prog.globals[0]?).map (·.type) = some 114 := by kernel_rfl
theorem gK0 {W : World} (h : laidMetH Tryd.prog Rows.ruletypeScopesRow.laid W) : GlL eS 1 0 gkw0 (old W) :=
  gl_of_laid (P := Tryd.prog) (l := gkw0) (rest := []) gG0 gT0 Tryd.underlying114 Tryd.underlying9 (by kernel_rfl) h
noncomputable def laidWorld (os : Os) : World :=
  let N := (World.settled Tryd.prog os).heap.size
  let w0 := World.holding Tryd.prog os ⟨#[.cells (gkw0.map fun s => Value.string ⟨s.toArray⟩).toArray 9], #[], []⟩
  { w0 with heap := (w0.heap.modify 0 fun
      | .cells _ t frozen => .cells #[.slice (some ⟨N + 0, 0, none⟩) gkw0.length gkw0.length] t frozen
      | o => o) }
theorem laid_met (os : Os) (args : Array Value) : laidMet Tryd.prog Rows.ruletypeScopesRow.laid ((laidWorld os).forCall (fun _ _ => 0) ⟨#[], args, []⟩).memory :=
  laidMet_of_run' 8 (by kernel_rfl) (by kernel_rfl)
theorem witness_row (os : Os) {H : Type} (enc : TypeId × Value → H) :
    (OpenSpec.ofChange Rows.ruletypeScopesSpec).preRow enc Tryd.prog Tryd.f6 Rows.ruletypeScopesRow.domain false Rows.ruletypeScopesRow.laid ((laidWorld os).forCall (fun _ _ => 0) ⟨#[], #[.agg #[.int .i64 0, .string ByteArray.empty, .slice none 0 0, .int .i64 0]], []⟩).memory #[.agg #[.int .i64 0, .string ByteArray.empty, .slice none 0 0, .int .i64 0]] := by
  have hw : (DataW.whole enc Tryd.prog ((laidWorld os).forCall (fun _ _ => 0) ⟨#[], #[.agg #[.int .i64 0, .string ByteArray.empty, .slice none 0 0, .int .i64 0]], []⟩).memory Tryd.f6.params.toList (OpenSpec.ofChange Rows.ruletypeScopesSpec).vars false #[.agg #[.int .i64 0, .string ByteArray.empty, .slice none 0 0, .int .i64 0]].toList 8).map (fun x => (x.1, x.2.1)) = some ([(.agg [(.lit (.int .i64 0)), (.lit (.string [])), .nil, (.lit (.int .i64 0))])], []) := by kernel_rfl
  obtain ⟨⟨x1, x2, x3⟩, hx, hx1⟩ := Option.map_eq_some_iff.1 hw
  simp only [Prod.mk.injEq] at hx1
  obtain ⟨rfl, rfl⟩ := hx1
  exact OpenSpec.preRow_of_cond 8 hx (by kernel_rfl) (fun k hk => by cases hk) (by kernel_rfl) (laid_met os _)
set_option maxRecDepth 100000 in
set_option maxHeartbeats 2000000 in
theorem lifted (os : Os) (started : os.Started) (H : Type) (enc : TypeId × Value → H) (F0 : Stop.Interp) :
    ReturnsInHanded {} Tryd.checked os 6 .any ((OpenSpec.ofChange Rows.ruletypeScopesSpec).preRow enc Tryd.prog Tryd.f6 Rows.ruletypeScopesRow.domain false Rows.ruletypeScopesRow.laid) (((OpenSpec.ofChange Rows.ruletypeScopesSpec).at F0).post enc Tryd.prog Tryd.f6 false true false false) := by
  refine returnsInHanded_of_row (C := Tryd.checked) (s := (OpenSpec.ofChange Rows.ruletypeScopesSpec)) own started (by kernel_rfl) Tryd.func6
    (witness_row_atRef (enc := enc) (C := Tryd.checked) false (laidWorld os) #[.agg #[.int .i64 0, .string ByteArray.empty, .slice none 0 0, .int .i64 0]] rfl (by kernel_rfl) (by kernel_rfl) (by kernel_rfl) (witness_row os enc)) ?_
  intro W base args ds gs before hval0 hW _ hk0 hsz0 hL _ _
  have hval : ∀ (j : Nat) t v, Tryd.f6.params[j]? = some t → args[j]? = some v → Value.okWide Tryd.prog W .any base t v := hval0
  have hW' := hW
  obtain ⟨p, q, hA0, hV, rfl, hfz, hnd⟩ := hW
  have hA : DataW.TrodAll enc Tryd.prog W 0 (fun _ => true) true Tryd.f6.params.toList args.toList ds p := hA0
  have hsz : (DataW.weightsEach Tryd.prog (Tryd.f6.params.toList ++ Rows.ruletypeScopesSpec.plain.varTypes Tryd.prog) (ds ++ gs)).all (· ≤ reachBytes) = true := hsz0
  rw [Tryd.params6] at hA hval hsz
  obtain ⟨v0, vs0, d0, ds0, p0, q0, hargs, rfl, rfl, h0, r0⟩ := trodAll_cons hA
  obtain ⟨rfl, rfl, rfl⟩ := trodAll_nil r0
  obtain rfl : args = #[v0] := by cases args; simp_all
  obtain ⟨rfl, rfl⟩ := trodVars_none hV
  obtain ⟨x0, g0, o0⟩ := open_arg rd24 h0 (sz_of hsz 0 rfl rfl)
  obtain ⟨az0_0, cz0_0, e0, hz0_0⟩ := S_ref43_Node.out g0
  obtain rfl := agg_of rfl (hval 0 24 v0 rfl rfl) e0
  obtain ⟨n, hp⟩ := law44_RuletypeScopes_true x0 o0
  clear hA0 hval0 hval
  have hG0 := gK0 hL
  refine (law_calls' (law44_RuletypeScopes_ok hp hz0_0 hG0)).mono fun e W' ⟨he, bel⟩ => ?_
  subst he
  exact ⟨_, rfl, _, _, _, [], _, [], hW', trodAll_mk1 (shut_bool Tryd.underlying4 _), trodAll_stays laidOut bel rows hA fun x hx => hW'.lt x (List.mem_append_left _ hx), rfl, bel.frame _, fun h => by cases h⟩

theorem said : Rows.RuletypeScopesSaid :=
  OpenClaim.holds_of_cond 6 Tryd.f6 rfl rfl rfl rfl rfl rfl rfl ⟨rfl, rfl, rfl, rfl, rfl⟩ rfl rfl rfl rfl rfl (by kernel_rfl) Tryd.func6 (by kernel_rfl)
    (of_decide_eq_true (by kernel_rfl)) (by unfold Func.isWrapper; first | (rw [if_pos (by decide +kernel)]; kernel_rfl) | (rw [if_neg (by decide +kernel)]; exact ⟨rfl, rfl⟩))
    (fun os started H enc _ F => by rw [OpenClaim.pre_eq_preRow]; exact lifted os started H enc F)
theorem plain (f : FuncId) (fn : Func) (hf : Tryd.pinned.checked.prog.funcNamed "quayside/quaysidelaw44.RuletypeScopes" = some f) (hfn : Tryd.pinned.checked.prog.funcs[f]? = some fn) :
    true = Tryd.pinned.checked.prog.looks [] ∧ ∀ (j : Nat) t, fn.params[j]? = some t → Tryd.pinned.checked.prog.wantsStandIn t = false := by
  obtain rfl : f = 6 := Option.some.inj ((show Tryd.prog.funcNamed "quayside/quaysidelaw44.RuletypeScopes" = some 6 by kernel_rfl).symm.trans hf) |>.symm
  obtain rfl : fn = Tryd.f6 := (Option.some.inj (Tryd.func6.symm.trans hfn)).symm
  refine ⟨by kernel_rfl, fun j t ht => ?_⟩
  rw [Tryd.params6] at ht
  have hm := Array.mem_of_getElem? ht
  simp only [List.mem_toArray, List.mem_cons, List.not_mem_nil, or_false] at hm
  obtain rfl := hm
  · exact (show Tryd.prog.wantsStandIn 24 = false by kernel_rfl)
/-- THE STATEMENT: the card -/
theorem proved : Rows.RuletypeScopesCardSaid :=
  Claim7.holds_tied_plain_at .later [] _ _ _ _ said (fun _ h => by cases h) (by kernel_rfl) (fun _ h => by cases h) ruletypeScopes_row_tie rfl ⟨rfl, rfl⟩ (by kernel_rfl) rfl plain (by kernel_rfl)

end Go.Proofs.YtdnelkmckpapgaaDoor.ruletypeScopes
