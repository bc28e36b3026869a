/- The row of RulecodeJoins: for all inputs the law returns true; no condition beyond the given statement. -/
import Derived.Test.YtkpipkpdnbconaaDoorPRulecodeJoins
import Derived.Test.YtkpipkpdnbconaaDoorR
import Derived.Test.YtkpipkpdnbconaaDoorLP
import Derived.Deep.DeepWitnessRowRef
import Derived.Test.YtkpipkpdnbconaaDoorCards
import Derived.Test.YtkpipkpdnbconaaDoorTie
namespace Go.Proofs.YtkpipkpdnbconaaDoor.rulecodeJoins
open Go Go.SL Go.ChangeShapes Go.WideShapes Go.ChangeAt Go.RowKit
set_option linter.unusedVariables false
theorem own : ownKnob Tryd.prog.godebug = none := by kernel_rfl
theorem laidOut : laidOutB Tryd.prog = true := by kernel_rfl
theorem rows : ([39, 39].all fun t => Tryd.prog.readableRec t && decide (t < Tryd.prog.types.size)) = true := by kernel_rfl
theorem gG0 : Tryd.prog.globalNamed "quayside/rulecode.predeclared" = some 0 := by kernel_rfl
theorem gT0 : (Tryd.prog.globals[0]?).map (·.type) = some 81 := by kernel_rfl
theorem gK0 {W : World} (h : laidMetH Tryd.prog Rows.rulecodeJoinsRow.laid W) : GlL eS 1 0 Jv (old W) :=
  gl_of_lv (P := Tryd.prog) (l := Jv) gG0 gT0 Tryd.underlying81 Tryd.underlying9 (by kernel_rfl) (lv_tl (lv_tl (lv_tl (lv_tl (lv_tl (lv_tl (lv_of (laid := Rows.rulecodeJoinsRow.laid) h)))))))
theorem gG1 : Tryd.prog.globalNamed "quayside/rulecode.functions" = some 1 := by kernel_rfl
theorem gT1 : (Tryd.prog.globals[1]?).map (·.type) = some 81 := by kernel_rfl
theorem gK1 {W : World} (h : laidMetH Tryd.prog Rows.rulecodeJoinsRow.laid W) : GlL eS 1 1 JC (old W) :=
  gl_of_lv (P := Tryd.prog) (l := JC) gG1 gT1 Tryd.underlying81 Tryd.underlying9 (by kernel_rfl) (lv_tl (lv_tl (lv_tl (lv_tl (lv_tl (lv_tl (lv_tl (lv_of (laid := Rows.rulecodeJoinsRow.laid) h))))))))
theorem gG2 : Tryd.prog.globalNamed "quayside/rulecode.operators" = some 2 := by kernel_rfl
theorem gT2 : (Tryd.prog.globals[2]?).map (·.type) = some 81 := by kernel_rfl
theorem gK2 {W : World} (h : laidMetH Tryd.prog Rows.rulecodeJoinsRow.laid W) : GlL eS 1 2 JD (old W) :=
  gl_of_lv (P := Tryd.prog) (l := JD) gG2 gT2 Tryd.underlying81 Tryd.underlying9 (by kernel_rfl) (lv_tl (lv_tl (lv_tl (lv_tl (lv_tl (lv_tl (lv_tl (lv_tl (lv_of (laid := Rows.rulecodeJoinsRow.laid) h)))))))))
theorem gG3 : Tryd.prog.globalNamed "quayside/rulelex.keywords" = some 3 := by kernel_rfl
theorem gT3 : (Tryd.prog.globals[3]?).map (·.type) = some 81 := by kernel_rfl
theorem gK3 {W : World} (h : laidMetH Tryd.prog Rows.rulecodeJoinsRow.laid W) : GlL eS 1 3 gkw0 (old W) :=
  gl_of_lv (P := Tryd.prog) (l := gkw0) gG3 gT3 Tryd.underlying81 Tryd.underlying9 (by kernel_rfl) (lv_tl (lv_tl (lv_tl (lv_tl (lv_tl (lv_of (laid := Rows.rulecodeJoinsRow.laid) h))))))
noncomputable def laidWorld (os : Os) : World :=
  let N := (World.settled Tryd.prog os).heap.size
  let w0 := World.holding Tryd.prog os ⟨#[.cells (Jv.map fun s => Value.string ⟨s.toArray⟩).toArray 9, .cells (JC.map fun s => Value.string ⟨s.toArray⟩).toArray 9, .cells (JD.map fun s => Value.string ⟨s.toArray⟩).toArray 9, .cells (gkw0.map fun s => Value.string ⟨s.toArray⟩).toArray 9, .cells #[Value.string ⟨#[105, 110, 118, 97, 108, 105, 100, 32, 115, 121, 110, 116, 97, 120]⟩] 144, .cells #[Value.string ⟨#[118, 97, 108, 117, 101, 32, 111, 117, 116, 32, 111, 102, 32, 114, 97, 110, 103, 101]⟩] 144], #[], []⟩
  { w0 with heap := (((((((((w0.heap.modify 0 fun
      | .cells _ t frozen => .cells #[.slice (some ⟨N + 0, 0, none⟩) Jv.length Jv.length] t frozen
      | o => o).modify 1 fun
      | .cells _ t frozen => .cells #[.slice (some ⟨N + 1, 0, none⟩) JC.length JC.length] t frozen
      | o => o).modify 2 fun
      | .cells _ t frozen => .cells #[.slice (some ⟨N + 2, 0, none⟩) JD.length JD.length] t frozen
      | o => o).modify 3 fun
      | .cells _ t frozen => .cells #[.slice (some ⟨N + 3, 0, none⟩) gkw0.length gkw0.length] t frozen
      | o => o).modify 4 fun
      | .cells _ t frozen => .cells #[.iface 142 (.pointer (some ⟨N + 4, 0, none⟩))] t frozen
      | o => o).modify 5 fun
      | .cells _ t frozen => .cells #[.iface 142 (.pointer (some ⟨N + 5, 0, none⟩))] t frozen
      | o => o).modify 6 fun
      | .cells _ t frozen => .cells #[Value.int .u64 1, Value.int .u64 10, Value.int .u64 100, Value.int .u64 1000, Value.int .u64 10000, Value.int .u64 100000, Value.int .u64 1000000, Value.int .u64 10000000, Value.int .u64 100000000, Value.int .u64 1000000000, Value.int .u64 10000000000, Value.int .u64 100000000000, Value.int .u64 1000000000000, Value.int .u64 10000000000000, Value.int .u64 100000000000000, Value.int .u64 1000000000000000, Value.int .u64 10000000000000000, Value.int .u64 100000000000000000, Value.int .u64 1000000000000000000, Value.int .u64 10000000000000000000] t frozen
      | o => o).modify 7 fun
      | .cells _ t frozen => .cells #[Value.int .u8 0, Value.int .u8 1, Value.int .u8 28, Value.int .u8 2, Value.int .u8 29, Value.int .u8 14, Value.int .u8 24, Value.int .u8 3, Value.int .u8 30, Value.int .u8 22, Value.int .u8 20, Value.int .u8 15, Value.int .u8 25, Value.int .u8 17, Value.int .u8 4, Value.int .u8 8, Value.int .u8 31, Value.int .u8 27, Value.int .u8 13, Value.int .u8 23, Value.int .u8 21, Value.int .u8 19, Value.int .u8 16, Value.int .u8 7, Value.int .u8 26, Value.int .u8 12, Value.int .u8 18, Value.int .u8 6, Value.int .u8 11, Value.int .u8 5, Value.int .u8 10, Value.int .u8 9] t frozen
      | o => o).modify 8 fun
      | .cells _ t frozen => .cells #[Value.int .u8 0, Value.int .u8 1, Value.int .u8 56, Value.int .u8 2, Value.int .u8 57, Value.int .u8 49, Value.int .u8 28, Value.int .u8 3, Value.int .u8 61, Value.int .u8 58, Value.int .u8 42, Value.int .u8 50, Value.int .u8 38, Value.int .u8 29, Value.int .u8 17, Value.int .u8 4, Value.int .u8 62, Value.int .u8 47, Value.int .u8 59, Value.int .u8 36, Value.int .u8 45, Value.int .u8 43, Value.int .u8 51, Value.int .u8 22, Value.int .u8 53, Value.int .u8 39, Value.int .u8 33, Value.int .u8 30, Value.int .u8 24, Value.int .u8 18, Value.int .u8 12, Value.int .u8 5, Value.int .u8 63, Value.int .u8 55, Value.int .u8 48, Value.int .u8 27, Value.int .u8 60, Value.int .u8 41, Value.int .u8 37, Value.int .u8 16, Value.int .u8 46, Value.int .u8 35, Value.int .u8 44, Value.int .u8 21, Value.int .u8 52, Value.int .u8 32, Value.int .u8 23, Value.int .u8 11, Value.int .u8 54, Value.int .u8 26, Value.int .u8 40, Value.int .u8 15, Value.int .u8 34, Value.int .u8 20, Value.int .u8 31, Value.int .u8 10, Value.int .u8 25, Value.int .u8 14, Value.int .u8 19, Value.int .u8 9, Value.int .u8 13, Value.int .u8 8, Value.int .u8 7, Value.int .u8 6] t frozen
      | o => o) }
theorem laid_met (os : Os) (args : Array Value) : laidMet Tryd.prog Rows.rulecodeJoinsRow.laid ((laidWorld os).forCall (fun _ _ => 0) ⟨#[], args, []⟩).memory :=
  laidMet_of_run' 8 (by kernel_rfl) (by kernel_rfl)
theorem witness_row (os : Os) {H : Type} (enc : TypeId × Value → H) :
    (OpenSpec.ofChange Rows.rulecodeJoinsSpec).preRow enc Tryd.prog Tryd.f4 Rows.rulecodeJoinsRow.domain false Rows.rulecodeJoinsRow.laid ((laidWorld os).forCall (fun _ _ => 0) ⟨#[], #[.agg #[.int .i64 0, .string ByteArray.empty, .slice none 0 0, .int .i64 0], .agg #[.int .i64 0, .string ByteArray.empty, .slice none 0 0, .int .i64 0]], []⟩).memory #[.agg #[.int .i64 0, .string ByteArray.empty, .slice none 0 0, .int .i64 0], .agg #[.int .i64 0, .string ByteArray.empty, .slice none 0 0, .int .i64 0]] := by
  have hw : (DataW.whole enc Tryd.prog ((laidWorld os).forCall (fun _ _ => 0) ⟨#[], #[.agg #[.int .i64 0, .string ByteArray.empty, .slice none 0 0, .int .i64 0], .agg #[.int .i64 0, .string ByteArray.empty, .slice none 0 0, .int .i64 0]], []⟩).memory Tryd.f4.params.toList (OpenSpec.ofChange Rows.rulecodeJoinsSpec).vars false #[.agg #[.int .i64 0, .string ByteArray.empty, .slice none 0 0, .int .i64 0], .agg #[.int .i64 0, .string ByteArray.empty, .slice none 0 0, .int .i64 0]].toList 8).map (fun x => (x.1, x.2.1)) = some ([(.agg [(.lit (.int .i64 0)), (.lit (.string [])), .nil, (.lit (.int .i64 0))]), (.agg [(.lit (.int .i64 0)), (.lit (.string [])), .nil, (.lit (.int .i64 0))])], []) := by kernel_rfl
  obtain ⟨⟨x1, x2, x3⟩, hx, hx1⟩ := Option.map_eq_some_iff.1 hw
  simp only [Prod.mk.injEq] at hx1
  obtain ⟨rfl, rfl⟩ := hx1
  exact OpenSpec.preRow_of_cond 8 hx (by kernel_rfl) (fun k hk => by cases hk) (by kernel_rfl) (laid_met os _)
set_option maxRecDepth 100000 in
set_option maxHeartbeats 2000000 in
theorem lifted (os : Os) (started : os.Started) (H : Type) (enc : TypeId × Value → H) (F0 : Stop.Interp) :
    ReturnsInHanded {} Tryd.checked os 4 .any ((OpenSpec.ofChange Rows.rulecodeJoinsSpec).preRow enc Tryd.prog Tryd.f4 Rows.rulecodeJoinsRow.domain false Rows.rulecodeJoinsRow.laid) (((OpenSpec.ofChange Rows.rulecodeJoinsSpec).at F0).post enc Tryd.prog Tryd.f4 false true false false) := by
  refine returnsInHanded_of_row (C := Tryd.checked) (s := (OpenSpec.ofChange Rows.rulecodeJoinsSpec)) own started (by kernel_rfl) Tryd.func4
    (witness_row_atRef (enc := enc) (C := Tryd.checked) false (laidWorld os) #[.agg #[.int .i64 0, .string ByteArray.empty, .slice none 0 0, .int .i64 0], .agg #[.int .i64 0, .string ByteArray.empty, .slice none 0 0, .int .i64 0]] rfl (by kernel_rfl) (by kernel_rfl) (by kernel_rfl) (witness_row os enc)) ?_
  intro W base args ds gs before hval0 hW _ hk0 hsz0 hL _ _
  have hval : ∀ (j : Nat) t v, Tryd.f4.params[j]? = some t → args[j]? = some v → Value.okWide Tryd.prog W .any base t v := hval0
  have hW' := hW
  obtain ⟨p, q, hA0, hV, rfl, hfz, hnd⟩ := hW
  have hA : DataW.TrodAll enc Tryd.prog W 0 (fun _ => true) true Tryd.f4.params.toList args.toList ds p := hA0
  have hsz : (DataW.weightsEach Tryd.prog (Tryd.f4.params.toList ++ Rows.rulecodeJoinsSpec.plain.varTypes Tryd.prog) (ds ++ gs)).all (· ≤ reachBytes) = true := hsz0
  rw [Tryd.params4] at hA hval hsz
  obtain ⟨v0, vs0, d0, ds0, p0, q0, hargs, rfl, rfl, h0, r0⟩ := trodAll_cons hA
  obtain ⟨v1, vs1, d1, ds1, p1, q1, rfl, rfl, rfl, h1, r1⟩ := trodAll_cons r0
  obtain ⟨rfl, rfl, rfl⟩ := trodAll_nil r1
  obtain rfl : args = #[v0, v1] := by cases args; simp_all
  obtain ⟨rfl, rfl⟩ := trodVars_none hV
  obtain ⟨x0, g0, o0⟩ := open_arg rd39 h0 (sz_of hsz 0 rfl rfl)
  obtain ⟨az0_0, cz0_0, e0, hz0_0⟩ := Jd.out g0
  obtain rfl := agg_of rfl (hval 0 39 v0 rfl rfl) e0
  obtain ⟨x1, g1, o1⟩ := open_arg rd39 h1 (sz_of hsz 1 rfl rfl)
  obtain ⟨az1_0, cz1_0, e1, hz1_0⟩ := Jd.out g1
  obtain rfl := agg_of rfl (hval 1 39 v1 rfl rfl) e1
  obtain ⟨n, hp⟩ := Jbj x0 x1 o0 o1
  clear hA0 hval0 hval
  have hG3 := gK3 hL
  have hG2 := gK2 hL
  have hG1 := gK1 hL
  have hG0 := gK0 hL
  refine (law_calls' (Jbt hp hz0_0 hz1_0 hG0 hG1 hG2 hG3)).mono fun e W' ⟨he, bel⟩ => ?_
  subst he
  exact ⟨_, rfl, _, _, _, [], _, [], hW', trodAll_mk1 (shut_bool Tryd.underlying4 _), trodAll_stays laidOut bel rows hA fun x hx => hW'.lt x (List.mem_append_left _ hx), rfl, bel.frame _, fun h => by cases h⟩

theorem said : Rows.RulecodeJoinsSaid :=
  OpenClaim.holds_of_cond 4 Tryd.f4 rfl rfl rfl rfl rfl rfl rfl ⟨rfl, rfl, rfl, rfl, rfl⟩ rfl rfl rfl rfl rfl (by kernel_rfl) Tryd.func4 (by kernel_rfl)
    (of_decide_eq_true (by kernel_rfl)) (by unfold Func.isWrapper; first | (rw [if_pos (by decide +kernel)]; kernel_rfl) | (rw [if_neg (by decide +kernel)]; exact ⟨rfl, rfl⟩))
    (fun os started H enc _ F => by rw [OpenClaim.pre_eq_preRow]; exact lifted os started H enc F)
theorem plain (f : FuncId) (fn : Func) (hf : Tryd.pinned.checked.prog.funcNamed "quayside/quaysidelaw45.RulecodeJoins" = some f) (hfn : Tryd.pinned.checked.prog.funcs[f]? = some fn) :
    true = Tryd.pinned.checked.prog.looks [] ∧ ∀ (j : Nat) t, fn.params[j]? = some t → Tryd.pinned.checked.prog.wantsStandIn t = false := by
  obtain rfl : f = 4 := Option.some.inj ((show Tryd.prog.funcNamed "quayside/quaysidelaw45.RulecodeJoins" = some 4 by kernel_rfl).symm.trans hf) |>.symm
  obtain rfl : fn = Tryd.f4 := (Option.some.inj (Tryd.func4.symm.trans hfn)).symm
  refine ⟨by kernel_rfl, fun j t ht => ?_⟩
  rw [Tryd.params4] at ht
  have hm := Array.mem_of_getElem? ht
  simp only [List.mem_toArray, List.mem_cons, List.not_mem_nil, or_false] at hm
  rcases hm with rfl | rfl
  · exact (show Tryd.prog.wantsStandIn 39 = false by kernel_rfl)
  · exact (show Tryd.prog.wantsStandIn 39 = false by kernel_rfl)
/-- THE STATEMENT: the card -/
theorem proved : Rows.RulecodeJoinsCardSaid :=
  Claim7.holds_tied_plain_at .later [] _ _ _ _ said (fun _ h => by cases h) (by kernel_rfl) (fun _ h => by cases h) rulecodeJoins_row_tie rfl ⟨rfl, rfl⟩ (by kernel_rfl) rfl plain (by kernel_rfl)

end Go.Proofs.YtkpipkpdnbconaaDoor.rulecodeJoins
