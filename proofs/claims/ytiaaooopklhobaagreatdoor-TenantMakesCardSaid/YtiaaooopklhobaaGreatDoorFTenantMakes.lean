/- The row of TenantMakes: for all inputs the law returns true; no condition beyond the given statement. -/
import Derived.Test.YtiaaooopklhobaaGreatDoorPTenantMakes
import Derived.Test.YtiaaooopklhobaaGreatDoorR
import Derived.Test.YtiaaooopklhobaaGreatDoorLU
import Derived.Deep.DeepWitnessRowRef
import Derived.Test.YtiaaooopklhobaaGreatDoorCards
import Derived.Test.YtiaaooopklhobaaGreatDoorTie
namespace Go.Proofs.YtiaaooopklhobaaGreatDoor.tenantMakes
open Go Go.SL Go.ChangeShapes Go.WideShapes Go.ChangeAt Go.RowKit
set_option linter.unusedVariables false
theorem own : ownKnob Tryz.prog.godebug = none := by kernel_rfl
theorem laidOut : laidOutB Tryz.prog = true := by kernel_rfl
theorem rows : ([31].all fun t => Tryz.prog.readableRec t && decide (t < Tryz.prog.types.size)) = true := by kernel_rfl
theorem gG1 : Tryz.prog.globalNamed "quayside/rulecode.predeclared" = some 1 := by kernel_rfl
theorem gT1 : (Tryz.prog.globals[1]?).map (·.type) = some 23 := by kernel_rfl
theorem gK1 {W : World} (h : laidMetH Tryz.prog Rows.tenantMakesRow.laid W) : GlL eS 1 1 Jao (old W) :=
  qho (P := Tryz.prog) (l := Jao) gG1 gT1 Tryz.underlying23 Tryz.underlying9 (by kernel_rfl) (qcd (qcd (qcd (qcd (qcd (qcd (qcd (qpr (laid := Rows.tenantMakesRow.laid) h))))))))
theorem gG2 : Tryz.prog.globalNamed "quayside/rulecode.functions" = some 2 := by kernel_rfl
theorem gT2 : (Tryz.prog.globals[2]?).map (·.type) = some 23 := by kernel_rfl
theorem gK2 {W : World} (h : laidMetH Tryz.prog Rows.tenantMakesRow.laid W) : GlL eS 1 2 JaV (old W) :=
  qho (P := Tryz.prog) (l := JaV) gG2 gT2 Tryz.underlying23 Tryz.underlying9 (by kernel_rfl) (qcd (qcd (qcd (qcd (qcd (qcd (qcd (qcd (qpr (laid := Rows.tenantMakesRow.laid) h)))))))))
theorem gG3 : Tryz.prog.globalNamed "quayside/rulecode.operators" = some 3 := by kernel_rfl
theorem gT3 : (Tryz.prog.globals[3]?).map (·.type) = some 23 := by kernel_rfl
theorem gK3 {W : World} (h : laidMetH Tryz.prog Rows.tenantMakesRow.laid W) : GlL eS 1 3 Jai (old W) :=
  qho (P := Tryz.prog) (l := Jai) gG3 gT3 Tryz.underlying23 Tryz.underlying9 (by kernel_rfl) (qcd (qcd (qcd (qcd (qcd (qcd (qcd (qcd (qcd (qpr (laid := Rows.tenantMakesRow.laid) h))))))))))
theorem gG5 : Tryz.prog.globalNamed "quayside/rulelex.keywords" = some 5 := by kernel_rfl
theorem gT5 : (Tryz.prog.globals[5]?).map (·.type) = some 23 := by kernel_rfl
theorem gK5 {W : World} (h : laidMetH Tryz.prog Rows.tenantMakesRow.laid W) : GlL eS 1 5 gkw0 (old W) :=
  qho (P := Tryz.prog) (l := gkw0) gG5 gT5 Tryz.underlying23 Tryz.underlying9 (by kernel_rfl) (qcd (qcd (qcd (qcd (qcd (qcd (qpr (laid := Rows.tenantMakesRow.laid) h)))))))
theorem gK4 {W : World} (h : laidMetH Tryz.prog Rows.tenantMakesRow.laid W) : GlA 4 (Go.Lib.pow10Tab.map fun z => Value.int .u64 z) (old W) :=
  qrw (P := Tryz.prog) (zs := Go.Lib.pow10Tab) (k := .u64) (t := 291) (n := 20) (e := 195) (by kernel_rfl) (by kernel_rfl) (by kernel_rfl) (by kernel_rfl) (by kernel_rfl) (by kernel_rfl) (qcd (qcd (qpr (laid := Rows.tenantMakesRow.laid) h)))
noncomputable def laidWorld (os : Os) : World :=
  let N := (World.settled Tryz.prog os).heap.size
  let w0 := World.holding Tryz.prog os ⟨#[.cells (Jao.map fun s => Value.string ⟨s.toArray⟩).toArray 9, .cells (JaV.map fun s => Value.string ⟨s.toArray⟩).toArray 9, .cells (Jai.map fun s => Value.string ⟨s.toArray⟩).toArray 9, .cells (gkw0.map fun s => Value.string ⟨s.toArray⟩).toArray 9, .cells #[Value.string ⟨#[105, 110, 118, 97, 108, 105, 100, 32, 115, 121, 110, 116, 97, 120]⟩] 320, .cells #[Value.string ⟨#[118, 97, 108, 117, 101, 32, 111, 117, 116, 32, 111, 102, 32, 114, 97, 110, 103, 101]⟩] 320], #[], []⟩
  { w0 with heap := (((((((((((w0.heap.modify 1 fun
      | .cells _ t frozen => .cells #[.slice (some ⟨N + 0, 0, none⟩) Jao.length Jao.length] t frozen
      | o => o).modify 2 fun
      | .cells _ t frozen => .cells #[.slice (some ⟨N + 1, 0, none⟩) JaV.length JaV.length] t frozen
      | o => o).modify 3 fun
      | .cells _ t frozen => .cells #[.slice (some ⟨N + 2, 0, none⟩) Jai.length Jai.length] t frozen
      | o => o).modify 4 fun
      | .cells _ t frozen => .cells #[Value.int .u64 1, Value.int .u64 10, Value.int .u64 100, Value.int .u64 1000, Value.int .u64 10000, Value.int .u64 100000, Value.int .u64 1000000, Value.int .u64 10000000, Value.int .u64 100000000, Value.int .u64 1000000000, Value.int .u64 10000000000, Value.int .u64 100000000000, Value.int .u64 1000000000000, Value.int .u64 10000000000000, Value.int .u64 100000000000000, Value.int .u64 1000000000000000, Value.int .u64 10000000000000000, Value.int .u64 100000000000000000, Value.int .u64 1000000000000000000, Value.int .u64 10000000000000000000] t frozen
      | o => o).modify 5 fun
      | .cells _ t frozen => .cells #[.slice (some ⟨N + 3, 0, none⟩) gkw0.length gkw0.length] t frozen
      | o => o).modify 6 fun
      | .cells _ t frozen => .cells (Go.Pinned.utf8FirstZ.map fun (n : Nat) => Value.int .u8 n).toArray t frozen
      | o => o).modify 7 fun
      | .cells _ t frozen => .cells #[Value.int .u8 128, Value.int .u8 191, Value.int .u8 160, Value.int .u8 191, Value.int .u8 128, Value.int .u8 159, Value.int .u8 144, Value.int .u8 191, Value.int .u8 128, Value.int .u8 143, Value.int .u8 0, Value.int .u8 0, Value.int .u8 0, Value.int .u8 0, Value.int .u8 0, Value.int .u8 0, Value.int .u8 0, Value.int .u8 0, Value.int .u8 0, Value.int .u8 0, Value.int .u8 0, Value.int .u8 0, Value.int .u8 0, Value.int .u8 0, Value.int .u8 0, Value.int .u8 0, Value.int .u8 0, Value.int .u8 0, Value.int .u8 0, Value.int .u8 0, Value.int .u8 0, Value.int .u8 0] t frozen
      | o => o).modify 8 fun
      | .cells _ t frozen => .cells #[Value.int .u8 0, Value.int .u8 1, Value.int .u8 28, Value.int .u8 2, Value.int .u8 29, Value.int .u8 14, Value.int .u8 24, Value.int .u8 3, Value.int .u8 30, Value.int .u8 22, Value.int .u8 20, Value.int .u8 15, Value.int .u8 25, Value.int .u8 17, Value.int .u8 4, Value.int .u8 8, Value.int .u8 31, Value.int .u8 27, Value.int .u8 13, Value.int .u8 23, Value.int .u8 21, Value.int .u8 19, Value.int .u8 16, Value.int .u8 7, Value.int .u8 26, Value.int .u8 12, Value.int .u8 18, Value.int .u8 6, Value.int .u8 11, Value.int .u8 5, Value.int .u8 10, Value.int .u8 9] t frozen
      | o => o).modify 9 fun
      | .cells _ t frozen => .cells #[Value.int .u8 0, Value.int .u8 1, Value.int .u8 56, Value.int .u8 2, Value.int .u8 57, Value.int .u8 49, Value.int .u8 28, Value.int .u8 3, Value.int .u8 61, Value.int .u8 58, Value.int .u8 42, Value.int .u8 50, Value.int .u8 38, Value.int .u8 29, Value.int .u8 17, Value.int .u8 4, Value.int .u8 62, Value.int .u8 47, Value.int .u8 59, Value.int .u8 36, Value.int .u8 45, Value.int .u8 43, Value.int .u8 51, Value.int .u8 22, Value.int .u8 53, Value.int .u8 39, Value.int .u8 33, Value.int .u8 30, Value.int .u8 24, Value.int .u8 18, Value.int .u8 12, Value.int .u8 5, Value.int .u8 63, Value.int .u8 55, Value.int .u8 48, Value.int .u8 27, Value.int .u8 60, Value.int .u8 41, Value.int .u8 37, Value.int .u8 16, Value.int .u8 46, Value.int .u8 35, Value.int .u8 44, Value.int .u8 21, Value.int .u8 52, Value.int .u8 32, Value.int .u8 23, Value.int .u8 11, Value.int .u8 54, Value.int .u8 26, Value.int .u8 40, Value.int .u8 15, Value.int .u8 34, Value.int .u8 20, Value.int .u8 31, Value.int .u8 10, Value.int .u8 25, Value.int .u8 14, Value.int .u8 19, Value.int .u8 9, Value.int .u8 13, Value.int .u8 8, Value.int .u8 7, Value.int .u8 6] t frozen
      | o => o).modify 10 fun
      | .cells _ t frozen => .cells #[.iface 318 (.pointer (some ⟨N + 4, 0, none⟩))] t frozen
      | o => o).modify 11 fun
      | .cells _ t frozen => .cells #[.iface 318 (.pointer (some ⟨N + 5, 0, none⟩))] t frozen
      | o => o) }
theorem laid_met (os : Os) (args : Array Value) : laidMet Tryz.prog Rows.tenantMakesRow.laid ((laidWorld os).forCall (fun _ _ => 0) ⟨#[], args, []⟩).memory :=
  laidMet_of_run' 8 (by kernel_rfl) (by kernel_rfl)
theorem ql0 (os : Os) {H : Type} (enc : TypeId × Value → H) :
    (OpenSpec.ofChange Rows.tenantMakesSpec).preRow enc Tryz.prog Tryz.f7 Rows.tenantMakesRow.domain false Rows.tenantMakesRow.laid ((laidWorld os).forCall (fun _ _ => 0) ⟨#[], #[.slice none 0 0], []⟩).memory #[.slice none 0 0] := by
  have hw : (DataW.whole enc Tryz.prog ((laidWorld os).forCall (fun _ _ => 0) ⟨#[], #[.slice none 0 0], []⟩).memory Tryz.f7.params.toList (OpenSpec.ofChange Rows.tenantMakesSpec).vars false #[.slice none 0 0].toList 8).map (fun x => (x.1, x.2.1)) = some ([.nil], []) := by kernel_rfl
  obtain ⟨⟨x1, x2, x3⟩, hx, hx1⟩ := Option.map_eq_some_iff.1 hw
  simp only [Prod.mk.injEq] at hx1
  obtain ⟨rfl, rfl⟩ := hx1
  exact OpenSpec.preRow_of_cond 8 hx (by kernel_rfl) (fun k hk => by cases hk) (by kernel_rfl) (laid_met os _)
set_option maxRecDepth 100000 in
set_option maxHeartbeats 2000000 in
theorem lifted (os : Os) (started : os.Started) (H : Type) (enc : TypeId × Value → H) (F0 : Stop.Interp) :
    ReturnsInHanded {} Tryz.checked os 7 .any ((OpenSpec.ofChange Rows.tenantMakesSpec).preRow enc Tryz.prog Tryz.f7 Rows.tenantMakesRow.domain false Rows.tenantMakesRow.laid) (((OpenSpec.ofChange Rows.tenantMakesSpec).at F0).post enc Tryz.prog Tryz.f7 false true false false) := by
  refine returnsInHanded_of_row (C := Tryz.checked) (s := (OpenSpec.ofChange Rows.tenantMakesSpec)) own started (by kernel_rfl) Tryz.func7
    (witness_row_atRef (enc := enc) (C := Tryz.checked) false (laidWorld os) #[.slice none 0 0] rfl (by kernel_rfl) (by kernel_rfl) (by kernel_rfl) (ql0 os enc)) ?_
  intro W base args ds gs before hval0 hW _ hk0 hsz0 hL hsh _
  have hval : ∀ (j : Nat) t v, Tryz.f7.params[j]? = some t → args[j]? = some v → Value.okWide Tryz.prog W .any base t v := hval0
  have hW' := hW
  obtain ⟨p, q, hA0, hV, rfl, hfz, hnd⟩ := hW
  have hA : DataW.TrodAll enc Tryz.prog W 0 (fun _ => true) true Tryz.f7.params.toList args.toList ds p := hA0
  have hsz : (DataW.weightsEach Tryz.prog (Tryz.f7.params.toList ++ Rows.tenantMakesSpec.plain.varTypes Tryz.prog) (ds ++ gs)).all (· ≤ reachBytes) = true := hsz0
  rw [Tryz.params7] at hA hval hsz
  obtain ⟨v0, vs0, d0, ds0, p0, q0, hargs, rfl, rfl, h0, r0⟩ := trodAll_cons hA
  obtain ⟨rfl, rfl, rfl⟩ := trodAll_nil r0
  obtain rfl : args = #[v0] := by cases args; simp_all
  obtain ⟨rfl, rfl⟩ := trodVars_none hV
  obtain ⟨x0, g0, o0⟩ := qrd qxr h0 (qwh hsz 0 rfl rfl)
  obtain ⟨ad0, cp0, e0, f0⟩ := g0
  obtain rfl := qux rfl (hval 0 31 v0 rfl rfl) e0
  obtain ⟨n, hp⟩ := JdI x0 o0
  clear hA0 hval0 hval
  have hG5 := gK5 hL
  have hG4 := gK4 hL
  have hG3 := gK3 hL
  have hG2 := gK2 hL
  have hG1 := gK1 hL
  have hG0 := qqw hsh
  refine (qoe (JdT hp ⟨f0, rfl, (GG.of ⟨hG0, hG1, hG2, hG3, hG4, hG5⟩)⟩)).mono fun e W' ⟨he, bel⟩ => ?_
  subst he
  exact ⟨_, rfl, _, _, _, [], _, [], hW', trodAll_mk1 (shut_bool Tryz.underlying4 _), qf4 laidOut bel rows hA fun x hx => hW'.lt x (List.mem_append_left _ hx), rfl, bel.frame _, fun h => by cases h⟩

set_option maxRecDepth 1000000 in
set_option maxHeartbeats 8000000 in
theorem jfs : joinedFacts Tryz.pinned.checked.prog 7 Tryz.f7 (OpenSpec.ofChange Rows.tenantMakesSpec).bare Rows.tenantMakesRow = true := by
  have key : ∀ (P : Program) (f : FuncId) (fn : Func) (s : ChangeSpec) (c : OpenClaim), P = Tryz.pinned.checked.prog → f = 7 → fn = Tryz.f7 → s = (OpenSpec.ofChange Rows.tenantMakesSpec).bare → c = Rows.tenantMakesRow → joinedFacts P f fn s c = true := by
    intro P f fn s c e1 e2 e3 e4 e5
    unfold joinedFacts
    simp only [Bool.and_eq_true]
    refine ⟨⟨⟨⟨⟨⟨⟨⟨⟨⟨⟨⟨⟨⟨⟨⟨⟨⟨⟨⟨⟨⟨⟨⟨⟨⟨⟨⟨⟨⟨⟨?_, ?_⟩, ?_⟩, ?_⟩, ?_⟩, ?_⟩, ?_⟩, ?_⟩, ?_⟩, ?_⟩, ?_⟩, ?_⟩, ?_⟩, ?_⟩, ?_⟩, ?_⟩, ?_⟩, ?_⟩, ?_⟩, ?_⟩, ?_⟩, ?_⟩, ?_⟩, ?_⟩, ?_⟩, ?_⟩, ?_⟩, ?_⟩, ?_⟩, ?_⟩, ?_⟩, ?_⟩
    all_goals (subst e1 e2 e3 e4 e5; as_aux_lemma => kernel_rfl)
  exact key _ _ _ _ _ rfl rfl rfl rfl rfl
theorem said : Rows.TenantMakesSaid :=
  OpenClaim.holds_of_cond 7 Tryz.f7 rfl rfl rfl rfl rfl rfl rfl ⟨rfl, rfl, rfl, rfl, rfl⟩ rfl rfl rfl rfl rfl (by kernel_rfl) Tryz.func7 jfs
    (of_decide_eq_true (by kernel_rfl)) (by unfold Func.isWrapper; first | (rw [qx2 (by decide +kernel)]; kernel_rfl) | (rw [qx1 (by decide +kernel)]; exact ⟨rfl, rfl⟩))
    (fun os started H enc _ F => by rw [OpenClaim.pre_eq_preRow]; exact lifted os started H enc F)
theorem plain (f : FuncId) (fn : Func) (hf : Tryz.pinned.checked.prog.funcNamed "quayside/quaysidelaw47.TenantMakes" = some f) (hfn : Tryz.pinned.checked.prog.funcs[f]? = some fn) :
    true = Tryz.pinned.checked.prog.looks [] ∧ ∀ (j : Nat) t, fn.params[j]? = some t → Tryz.pinned.checked.prog.wantsStandIn t = false := by
  obtain rfl : f = 7 := Option.some.inj ((show Tryz.prog.funcNamed "quayside/quaysidelaw47.TenantMakes" = some 7 by kernel_rfl).symm.trans hf) |>.symm
  obtain rfl : fn = Tryz.f7 := (Option.some.inj (Tryz.func7.symm.trans hfn)).symm
  refine ⟨by kernel_rfl, fun j t ht => ?_⟩
  rw [Tryz.params7] at ht
  have hm := Array.mem_of_getElem? ht
  simp only [List.mem_toArray, List.mem_cons, List.not_mem_nil, or_false] at hm
  obtain rfl := hm
  · exact (show Tryz.prog.wantsStandIn 31 = false by kernel_rfl)
/-- THE STATEMENT: the card -/
theorem proved : Rows.TenantMakesCardSaid :=
  Claim7.holds_tied_plain_at .later [] _ _ _ _ said (fun _ h => by cases h) (by kernel_rfl) (fun _ h => by cases h) tenantMakes_row_tie rfl ⟨rfl, rfl⟩ (by kernel_rfl) rfl plain (by kernel_rfl)

end Go.Proofs.YtiaaooopklhobaaGreatDoor.tenantMakes
