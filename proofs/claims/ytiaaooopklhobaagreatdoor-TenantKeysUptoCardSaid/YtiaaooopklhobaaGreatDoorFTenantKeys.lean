/- The row of TenantKeys: for all inputs the law returns true; no condition beyond the given statement. -/
import Derived.Test.YtiaaooopklhobaaGreatDoorPTenantKeys
import Derived.Test.YtiaaooopklhobaaGreatDoorR
import Derived.Test.YtiaaooopklhobaaGreatDoorLT
import Derived.Deep.DeepWitnessRowRef
import Derived.Test.YtiaaooopklhobaaGreatDoorCards
import Derived.Test.YtiaaooopklhobaaGreatDoorTie
namespace Go.Proofs.YtiaaooopklhobaaGreatDoor.tenantKeys
open Go Go.SL Go.ChangeShapes Go.WideShapes Go.ChangeAt Go.RowKit
set_option linter.unusedVariables false
theorem own : ownKnob Tryz.prog.godebug = none := by kernel_rfl
theorem laidOut : laidOutB Tryz.prog = true := by kernel_rfl
theorem rows : ([37, 37, 35].all fun t => Tryz.prog.readableRec t && decide (t < Tryz.prog.types.size)) = true := by kernel_rfl
def clS : List Nat := [3, 4, 9, 23, 33, 35, 37, 41]
def clB (P : Program) (t : TypeId) : Bool := Nat.ble (P.bytesOf t) 256 && match P.underlying t with
  | some (.pointer e) => clS.contains e
  | some (.slice e) => clS.contains e
  | some (.array _ e) => clS.contains e
  | some (.map k e) => clS.contains k && clS.contains e
  | some (.struct fs) => fs.toList.all fun f => clS.contains f.type
  | _ => true
theorem closed : clS.all (clB Tryz.prog) = true := by kernel_rfl
section
variable {H : Type} {P : Program}
theorem blt {a : Nat} (h : clS.contains a = true) : a ∈ clS := by simpa using h
set_option maxRecDepth 100000
mutual
theorem uw (hc : ∀ t, t ∈ clS → clB P t = true) : ∀ (d : DataW H) (t : TypeId), t ∈ clS → ∀ n ∈ d.weights P t, n ≤ Rows.uptoBulk d * 512
  | .lit l, t, ht, n, hn => by
    cases l <;> simp only [DataW.weights, List.not_mem_nil, List.mem_singleton] at hn
    subst hn; simp only [Rows.uptoBulk]; omega
  | .nil, t, ht, n, hn => by simp [DataW.weights] at hn
  | .ptr d, t, ht, n, hn => by
    have hq := hc t ht
    simp only [DataW.weights] at hn
    unfold clB at hq
    split at hn
    · rename_i e he
      simp only [he, Bool.and_eq_true] at hq
      have := uw hc d e (blt hq.2) n hn
      simp only [Rows.uptoBulk]; omega
    · cases hn
  | .slice elems spare, t, ht, n, hn => by
    have hq := hc t ht
    simp only [DataW.weights] at hn
    unfold clB at hq
    split at hn
    · rename_i e he
      simp only [he, Bool.and_eq_true] at hq
      have h0 := blt hq.2
      simp only [Rows.uptoBulk]
      rcases List.mem_cons.1 hn with rfl | hn
      · have h1 := ul elems
        have h2 := ul spare
        have h3 : P.bytesOf e ≤ 256 := by
          have := hc e h0
          unfold clB at this
          simp only [Bool.and_eq_true] at this
          exact Nat.le_of_ble_eq_true this.1
        have : (elems.length + spare.length) * P.bytesOf e ≤ (elems.length + spare.length) * 256 := Nat.mul_le_mul_left _ h3
        omega
      · rcases List.mem_append.1 hn with hn | hn
        · have := ua hc elems _ h0 n hn
          omega
        · have := ua hc spare _ h0 n hn
          omega
    · cases hn
  | .agg parts, t, ht, n, hn => by
    have hq := hc t ht
    simp only [DataW.weights] at hn
    unfold clB at hq
    simp only [Rows.uptoBulk]
    split at hn
    · rename_i fs he
      simp only [he, Bool.and_eq_true, List.all_eq_true] at hq
      have := ue hc parts (fs.toList.map (·.type)) (fun x hx => by obtain ⟨f, hf, rfl⟩ := List.mem_map.1 hx; exact blt (hq.2 f hf)) n hn
      omega
    · rename_i e he
      simp only [he, Bool.and_eq_true] at hq
      have := ua hc parts _ (blt hq.2) n hn
      omega
    · cases hn
  | .iface _ d, t, ht, n, hn => by simp [DataW.weights] at hn
  | .map entries, t, ht, n, hn => by
    have hq := hc t ht
    simp only [DataW.weights] at hn
    unfold clB at hq
    split at hn
    · rename_i k e he
      simp only [he, Bool.and_eq_true] at hq
      have hk := blt hq.2.1
      have h0 := blt hq.2.2
      have hb : ∀ z, z ∈ clS → P.bytesOf z ≤ 256 := fun z hz => by
        have := hc z hz
        unfold clB at this
        simp only [Bool.and_eq_true] at this
        exact Nat.le_of_ble_eq_true this.1
      simp only [Rows.uptoBulk]
      rcases List.mem_cons.1 hn with rfl | hn
      · have h1 := um entries
        have h2 := hb k hk
        have h3 := hb e h0
        have : entries.length * (P.bytesOf k + P.bytesOf e) ≤ entries.length * 512 := Nat.mul_le_mul_left _ (by omega)
        omega
      · have := ut hc entries _ h0 n hn
        omega
    · cases hn
  | .held _, t, ht, n, hn => by simp [DataW.weights] at hn
theorem ul : ∀ (l : List (DataW H)), l.length ≤ Rows.uptoBulkAll l
  | [] => Nat.zero_le _
  | d :: l => by
    have h1 := ul l
    have h2 := u1 d
    simp only [Rows.uptoBulkAll, List.length_cons]; omega
theorem u1 : ∀ (d : DataW H), 1 ≤ Rows.uptoBulk d
  | .lit l => by cases l <;> simp only [Rows.uptoBulk] <;> omega
  | .nil => by simp only [Rows.uptoBulk]; omega
  | .ptr d => by simp only [Rows.uptoBulk]; omega
  | .slice elems spare => by simp only [Rows.uptoBulk]; omega
  | .agg parts => by simp only [Rows.uptoBulk]; omega
  | .iface _ d => by simp only [Rows.uptoBulk]; omega
  | .map entries => by simp only [Rows.uptoBulk]; omega
  | .held _ => by simp only [Rows.uptoBulk]; omega
theorem ua (hc : ∀ t, t ∈ clS → clB P t = true) : ∀ (l : List (DataW H)) (t : TypeId), t ∈ clS → ∀ n ∈ DataW.weightsAll P t l, n ≤ Rows.uptoBulkAll l * 512
  | [], t, ht, n, hn => by simp [DataW.weightsAll] at hn
  | d :: l, t, ht, n, hn => by
    simp only [DataW.weightsAll] at hn
    simp only [Rows.uptoBulkAll]
    rcases List.mem_append.1 hn with hn | hn
    · have := uw hc d _ ht n hn
      omega
    · have := ua hc l _ ht n hn
      omega
theorem ue (hc : ∀ t, t ∈ clS → clB P t = true) : ∀ (l : List (DataW H)) (ts : List TypeId), (∀ t ∈ ts, t ∈ clS) → ∀ n ∈ DataW.weightsEach P ts l, n ≤ Rows.uptoBulkAll l * 512
  | [], ts, ht, n, hn => by cases ts <;> simp [DataW.weightsEach] at hn
  | d :: l, [], ht, n, hn => by simp [DataW.weightsEach] at hn
  | d :: l, t :: ts, ht, n, hn => by
    simp only [DataW.weightsEach] at hn
    simp only [Rows.uptoBulkAll]
    rcases List.mem_append.1 hn with hn | hn
    · have := uw hc d _ (ht t (by simp)) n hn
      omega
    · have := ue hc l _ (fun x hx => ht x (by simp [hx])) n hn
      omega
theorem um : ∀ (l : List (Lit × DataW H)), l.length ≤ Rows.uptoBulkEntries l
  | [] => Nat.zero_le _
  | (k, d) :: l => by
    have h1 := um l
    have h2 : 1 ≤ Rows.uptoBulkEntry (k, d) := by cases k <;> simp only [Rows.uptoBulkEntry] <;> omega
    simp only [Rows.uptoBulkEntries, List.length_cons]; omega
theorem ut (hc : ∀ t, t ∈ clS → clB P t = true) : ∀ (l : List (Lit × DataW H)) (t : TypeId), t ∈ clS → ∀ n ∈ DataW.weightsEntries P t l, n ≤ Rows.uptoBulkEntries l * 512
  | [], t, ht, n, hn => by simp [DataW.weightsEntries] at hn
  | (k, d) :: l, t, ht, n, hn => by
    simp only [DataW.weightsEntries] at hn
    simp only [Rows.uptoBulkEntries]
    rcases List.mem_append.1 hn with hn | hn
    · have h2 : n ≤ Rows.uptoBulkEntry (k, d) * 512 := by
        have hd := fun h => uw hc d t ht n h
        cases k <;> simp only [DataW.weightsEntry, List.mem_cons] at hn <;> simp only [Rows.uptoBulkEntry]
        all_goals first | (have := hd hn; omega) | (rcases hn with rfl | hn; omega; have := hd hn; omega)
      omega
    · have := ut hc l _ ht n hn
      omega
end
theorem ub : ∀ {ds : List (DataW H)} {j : Nat} {d : DataW H}, ds[j]? = some d → Rows.uptoBulk d ≤ Rows.uptoBulkAll ds
  | x :: ds, 0, d, h => by simp at h; subst h; simp only [Rows.uptoBulkAll]; omega
  | x :: ds, j + 1, d, h => by
    have := ub (ds := ds) (j := j) (d := d) (by simpa using h)
    simp only [Rows.uptoBulkAll]; omega
  | [], _, _, h => by simp at h
end
theorem qo1 {H : Type} {ds : List (DataW H)} (h : Rows.uptoSmall H ds = true) (j : Nat) {t : TypeId} {d : DataW H} (hd : ds[j]? = some d) (ht : clS.contains t = true) : qpb qe0 Tryz.prog t d := fun n hn => by
  have h1 : Rows.uptoBulkAll ds ≤ 1048576 := of_decide_eq_true h
  have h2 := uw (fun t ht => List.all_eq_true.1 closed t ht) d t (blt ht) n hn
  have h3 := ub hd
  show n ≤ 536870912
  omega
theorem gG1 : Tryz.prog.globalNamed "quayside/rulecode.predeclared" = some 1 := by kernel_rfl
theorem gT1 : (Tryz.prog.globals[1]?).map (·.type) = some 23 := by kernel_rfl
theorem gK1 {W : World} (h : laidMetH Tryz.prog Rows.tenantKeysUptoRow.laid W) : GlL eS 1 1 Jar (old W) :=
  qf0 (P := Tryz.prog) (l := Jar) gG1 gT1 Tryz.underlying23 Tryz.underlying9 (by kernel_rfl) (qb8 (qb8 (qb8 (qb8 (qb8 (qb8 (qb8 (qme (laid := Rows.tenantKeysUptoRow.laid) h))))))))
theorem gG2 : Tryz.prog.globalNamed "quayside/rulecode.functions" = some 2 := by kernel_rfl
theorem gT2 : (Tryz.prog.globals[2]?).map (·.type) = some 23 := by kernel_rfl
theorem gK2 {W : World} (h : laidMetH Tryz.prog Rows.tenantKeysUptoRow.laid W) : GlL eS 1 2 JaV (old W) :=
  qf0 (P := Tryz.prog) (l := JaV) gG2 gT2 Tryz.underlying23 Tryz.underlying9 (by kernel_rfl) (qb8 (qb8 (qb8 (qb8 (qb8 (qb8 (qb8 (qb8 (qme (laid := Rows.tenantKeysUptoRow.laid) h)))))))))
theorem gG3 : Tryz.prog.globalNamed "quayside/rulecode.operators" = some 3 := by kernel_rfl
theorem gT3 : (Tryz.prog.globals[3]?).map (·.type) = some 23 := by kernel_rfl
theorem gK3 {W : World} (h : laidMetH Tryz.prog Rows.tenantKeysUptoRow.laid W) : GlL eS 1 3 JaW (old W) :=
  qf0 (P := Tryz.prog) (l := JaW) gG3 gT3 Tryz.underlying23 Tryz.underlying9 (by kernel_rfl) (qb8 (qb8 (qb8 (qb8 (qb8 (qb8 (qb8 (qb8 (qb8 (qme (laid := Rows.tenantKeysUptoRow.laid) h))))))))))
theorem gG5 : Tryz.prog.globalNamed "quayside/rulelex.keywords" = some 5 := by kernel_rfl
theorem gT5 : (Tryz.prog.globals[5]?).map (·.type) = some 23 := by kernel_rfl
theorem gK5 {W : World} (h : laidMetH Tryz.prog Rows.tenantKeysUptoRow.laid W) : GlL eS 1 5 gkw0 (old W) :=
  qf0 (P := Tryz.prog) (l := gkw0) gG5 gT5 Tryz.underlying23 Tryz.underlying9 (by kernel_rfl) (qb8 (qb8 (qb8 (qb8 (qb8 (qb8 (qme (laid := Rows.tenantKeysUptoRow.laid) h)))))))
theorem gK4 {W : World} (h : laidMetH Tryz.prog Rows.tenantKeysUptoRow.laid W) : GlA 4 (Go.Lib.pow10Tab.map fun z => Value.int .u64 z) (old W) :=
  qnv (P := Tryz.prog) (zs := Go.Lib.pow10Tab) (k := .u64) (t := 291) (n := 20) (e := 195) (by kernel_rfl) (by kernel_rfl) (by kernel_rfl) (by kernel_rfl) (by kernel_rfl) (by kernel_rfl) (qb8 (qb8 (qme (laid := Rows.tenantKeysUptoRow.laid) h)))
noncomputable def laidWorld (os : Os) : World :=
  let N := (World.settled Tryz.prog os).heap.size
  let w0 := World.holding Tryz.prog os ⟨#[.cells (Jar.map fun s => Value.string ⟨s.toArray⟩).toArray 9, .cells (JaV.map fun s => Value.string ⟨s.toArray⟩).toArray 9, .cells (JaW.map fun s => Value.string ⟨s.toArray⟩).toArray 9, .cells (gkw0.map fun s => Value.string ⟨s.toArray⟩).toArray 9, .cells #[Value.string ⟨#[105, 110, 118, 97, 108, 105, 100, 32, 115, 121, 110, 116, 97, 120]⟩] 320, .cells #[Value.string ⟨#[118, 97, 108, 117, 101, 32, 111, 117, 116, 32, 111, 102, 32, 114, 97, 110, 103, 101]⟩] 320], #[], []⟩
  { w0 with heap := (((((((((((w0.heap.modify 1 fun
      | .cells _ t frozen => .cells #[.slice (some ⟨N + 0, 0, none⟩) Jar.length Jar.length] t frozen
      | o => o).modify 2 fun
      | .cells _ t frozen => .cells #[.slice (some ⟨N + 1, 0, none⟩) JaV.length JaV.length] t frozen
      | o => o).modify 3 fun
      | .cells _ t frozen => .cells #[.slice (some ⟨N + 2, 0, none⟩) JaW.length JaW.length] t frozen
      | o => o).modify 4 fun
      | .cells _ t frozen => .cells #[Value.int .u64 1, Value.int .u64 10, Value.int .u64 100, Value.int .u64 1000, Value.int .u64 10000, Value.int .u64 100000, Value.int .u64 1000000, Value.int .u64 10000000, Value.int .u64 100000000, Value.int .u64 1000000000, Value.int .u64 10000000000, Value.int .u64 100000000000, Value.int .u64 1000000000000, Value.int .u64 10000000000000, Value.int .u64 100000000000000, Value.int .u64 1000000000000000, Value.int .u64 10000000000000000, Value.int .u64 100000000000000000, Value.int .u64 1000000000000000000, Value.int .u64 10000000000000000000] t frozen
      | o => o).modify 5 fun
      | .cells _ t frozen => .cells #[.slice (some ⟨N + 3, 0, none⟩) gkw0.length gkw0.length] t frozen
      | o => o).modify 6 fun
      | .cells _ t frozen => .cells (Go.Pinned.utf8FirstZ.map fun (n : Nat) => Value.int .u8 n).toArray t frozen
      | o => o).modify 7 fun
      | .cells _ t frozen => .cells #[Value.int .u8 128, Value.int .u8 191, Value.int .u8 160, Value.int .u8 191, Value.int .u8 128, Value.int .u8 159, Value.int .u8 144, Value.int .u8 191, Value.int .u8 128, Value.int .u8 143, Value.int .u8 0, Value.int .u8 0, Value.int .u8 0, Value.int .u8 0, Value.int .u8 0, Value.int .u8 0, Value.int .u8 0, Value.int .u8 0, Value.int .u8 0, Value.int .u8 0, Value.int .u8 0, Value.int .u8 0, Value.int .u8 0, Value.int .u8 0, Value.int .u8 0, Value.int .u8 0, Value.int .u8 0, Value.int .u8 0, Value.int .u8 0, Value.int .u8 0, Value.int .u8 0, Value.int .u8 0] t frozen
      | o => o).modify 8 fun
      | .cells _ t frozen => .cells #[Value.int .u8 0, Value.int .u8 1, Value.int .u8 28, Value.int .u8 2, Value.int .u8 29, Value.int .u8 14, Value.int .u8 24, Value.int .u8 3, Value.int .u8 30, Value.int .u8 22, Value.int .u8 20, Value.int .u8 15, Value.int .u8 25, Value.int .u8 17, Value.int .u8 4, Value.int .u8 8, Value.int .u8 31, Value.int .u8 27, Value.int .u8 13, Value.int .u8 23, Value.int .u8 21, Value.int .u8 19, Value.int .u8 16, Value.int .u8 7, Value.int .u8 26, Value.int .u8 12, Value.int .u8 18, Value.int .u8 6, Value.int .u8 11, Value.int .u8 5, Value.int .u8 10, Value.int .u8 9] t frozen
      | o => o).modify 9 fun
      | .cells _ t frozen => .cells #[Value.int .u8 0, Value.int .u8 1, Value.int .u8 56, Value.int .u8 2, Value.int .u8 57, Value.int .u8 49, Value.int .u8 28, Value.int .u8 3, Value.int .u8 61, Value.int .u8 58, Value.int .u8 42, Value.int .u8 50, Value.int .u8 38, Value.int .u8 29, Value.int .u8 17, Value.int .u8 4, Value.int .u8 62, Value.int .u8 47, Value.int .u8 59, Value.int .u8 36, Value.int .u8 45, Value.int .u8 43, Value.int .u8 51, Value.int .u8 22, Value.int .u8 53, Value.int .u8 39, Value.int .u8 33, Value.int .u8 30, Value.int .u8 24, Value.int .u8 18, Value.int .u8 12, Value.int .u8 5, Value.int .u8 63, Value.int .u8 55, Value.int .u8 48, Value.int .u8 27, Value.int .u8 60, Value.int .u8 41, Value.int .u8 37, Value.int .u8 16, Value.int .u8 46, Value.int .u8 35, Value.int .u8 44, Value.int .u8 21, Value.int .u8 52, Value.int .u8 32, Value.int .u8 23, Value.int .u8 11, Value.int .u8 54, Value.int .u8 26, Value.int .u8 40, Value.int .u8 15, Value.int .u8 34, Value.int .u8 20, Value.int .u8 31, Value.int .u8 10, Value.int .u8 25, Value.int .u8 14, Value.int .u8 19, Value.int .u8 9, Value.int .u8 13, Value.int .u8 8, Value.int .u8 7, Value.int .u8 6] t frozen
      | o => o).modify 10 fun
      | .cells _ t frozen => .cells #[.iface 318 (.pointer (some ⟨N + 4, 0, none⟩))] t frozen
      | o => o).modify 11 fun
      | .cells _ t frozen => .cells #[.iface 318 (.pointer (some ⟨N + 5, 0, none⟩))] t frozen
      | o => o) }
theorem laid_met (os : Os) (args : Array Value) : laidMet Tryz.prog Rows.tenantKeysUptoRow.laid ((laidWorld os).forCall (fun _ _ => 0) ⟨#[], args, []⟩).memory :=
  laidMet_of_run' 8 (by kernel_rfl) (by kernel_rfl)
theorem qi4 (os : Os) {H : Type} (enc : TypeId × Value → H) :
    (Rows.OpenSpec.upto Rows.tenantKeysSpec).preRow enc Tryz.prog Tryz.f9 Rows.tenantKeysUptoRow.domain false Rows.tenantKeysUptoRow.laid ((laidWorld os).forCall (fun _ _ => 0) ⟨#[], #[.agg #[.int .i64 0, .int .i64 0, .int .i64 0, .string ByteArray.empty, .string ByteArray.empty, .string ByteArray.empty, .bool false, .string ByteArray.empty, .string ByteArray.empty, .string ByteArray.empty, .bool false, .slice none 0 0, .slice none 0 0, .slice none 0 0, .bool false, .bool false], .agg #[.int .i64 0, .int .i64 0, .int .i64 0, .string ByteArray.empty, .string ByteArray.empty, .string ByteArray.empty, .bool false, .string ByteArray.empty, .string ByteArray.empty, .string ByteArray.empty, .bool false, .slice none 0 0, .slice none 0 0, .slice none 0 0, .bool false, .bool false], .slice none 0 0], []⟩).memory #[.agg #[.int .i64 0, .int .i64 0, .int .i64 0, .string ByteArray.empty, .string ByteArray.empty, .string ByteArray.empty, .bool false, .string ByteArray.empty, .string ByteArray.empty, .string ByteArray.empty, .bool false, .slice none 0 0, .slice none 0 0, .slice none 0 0, .bool false, .bool false], .agg #[.int .i64 0, .int .i64 0, .int .i64 0, .string ByteArray.empty, .string ByteArray.empty, .string ByteArray.empty, .bool false, .string ByteArray.empty, .string ByteArray.empty, .string ByteArray.empty, .bool false, .slice none 0 0, .slice none 0 0, .slice none 0 0, .bool false, .bool false], .slice none 0 0] := by
  have hw : (DataW.whole enc Tryz.prog ((laidWorld os).forCall (fun _ _ => 0) ⟨#[], #[.agg #[.int .i64 0, .int .i64 0, .int .i64 0, .string ByteArray.empty, .string ByteArray.empty, .string ByteArray.empty, .bool false, .string ByteArray.empty, .string ByteArray.empty, .string ByteArray.empty, .bool false, .slice none 0 0, .slice none 0 0, .slice none 0 0, .bool false, .bool false], .agg #[.int .i64 0, .int .i64 0, .int .i64 0, .string ByteArray.empty, .string ByteArray.empty, .string ByteArray.empty, .bool false, .string ByteArray.empty, .string ByteArray.empty, .string ByteArray.empty, .bool false, .slice none 0 0, .slice none 0 0, .slice none 0 0, .bool false, .bool false], .slice none 0 0], []⟩).memory Tryz.f9.params.toList (Rows.OpenSpec.upto Rows.tenantKeysSpec).vars false #[.agg #[.int .i64 0, .int .i64 0, .int .i64 0, .string ByteArray.empty, .string ByteArray.empty, .string ByteArray.empty, .bool false, .string ByteArray.empty, .string ByteArray.empty, .string ByteArray.empty, .bool false, .slice none 0 0, .slice none 0 0, .slice none 0 0, .bool false, .bool false], .agg #[.int .i64 0, .int .i64 0, .int .i64 0, .string ByteArray.empty, .string ByteArray.empty, .string ByteArray.empty, .bool false, .string ByteArray.empty, .string ByteArray.empty, .string ByteArray.empty, .bool false, .slice none 0 0, .slice none 0 0, .slice none 0 0, .bool false, .bool false], .slice none 0 0].toList 8).map (fun x => (x.1, x.2.1)) = some ([(.agg [(.lit (.int .i64 0)), (.lit (.int .i64 0)), (.lit (.int .i64 0)), (.agg [(.lit (.string [])), (.lit (.string [])), (.lit (.string [])), (.lit (.bool false))]), (.agg [(.lit (.string [])), (.lit (.string [])), (.lit (.string [])), (.lit (.bool false))]), .nil, .nil, .nil, (.lit (.bool false)), (.lit (.bool false))]), (.agg [(.lit (.int .i64 0)), (.lit (.int .i64 0)), (.lit (.int .i64 0)), (.agg [(.lit (.string [])), (.lit (.string [])), (.lit (.string [])), (.lit (.bool false))]), (.agg [(.lit (.string [])), (.lit (.string [])), (.lit (.string [])), (.lit (.bool false))]), .nil, .nil, .nil, (.lit (.bool false)), (.lit (.bool false))]), .nil], []) := by kernel_rfl
  obtain ⟨⟨x1, x2, x3⟩, hx, hx1⟩ := Option.map_eq_some_iff.1 hw
  simp only [Prod.mk.injEq] at hx1
  obtain ⟨rfl, rfl⟩ := hx1
  exact OpenSpec.preRow_of_cond 8 hx (by kernel_rfl) (fun k hk => by cases hk; kernel_rfl) (by kernel_rfl) (laid_met os _)
set_option maxRecDepth 100000 in
set_option maxHeartbeats 2000000 in
theorem lifted (os : Os) (started : os.Started) (H : Type) (enc : TypeId × Value → H) (F0 : Stop.Interp) :
    ReturnsInHanded {} Tryz.checked os 9 .any ((Rows.OpenSpec.upto Rows.tenantKeysSpec).preRow enc Tryz.prog Tryz.f9 Rows.tenantKeysUptoRow.domain false Rows.tenantKeysUptoRow.laid) (((Rows.OpenSpec.upto Rows.tenantKeysSpec).at F0).post enc Tryz.prog Tryz.f9 false true false false) := by
  refine returnsInHanded_of_row (C := Tryz.checked) (s := (Rows.OpenSpec.upto Rows.tenantKeysSpec)) own started (by kernel_rfl) Tryz.func9
    (witness_row_atRef (enc := enc) (C := Tryz.checked) false (laidWorld os) #[.agg #[.int .i64 0, .int .i64 0, .int .i64 0, .string ByteArray.empty, .string ByteArray.empty, .string ByteArray.empty, .bool false, .string ByteArray.empty, .string ByteArray.empty, .string ByteArray.empty, .bool false, .slice none 0 0, .slice none 0 0, .slice none 0 0, .bool false, .bool false], .agg #[.int .i64 0, .int .i64 0, .int .i64 0, .string ByteArray.empty, .string ByteArray.empty, .string ByteArray.empty, .bool false, .string ByteArray.empty, .string ByteArray.empty, .string ByteArray.empty, .bool false, .slice none 0 0, .slice none 0 0, .slice none 0 0, .bool false, .bool false], .slice none 0 0] rfl (by kernel_rfl) (by kernel_rfl) (by kernel_rfl) (qi4 os enc)) ?_
  intro W base args ds gs before hval0 hW _ hk0 hsz0 hL hsh _
  have hval : ∀ (j : Nat) t v, Tryz.f9.params[j]? = some t → args[j]? = some v → Value.okWide Tryz.prog W .any base t v := hval0
  have hW' := hW
  obtain ⟨p, q, hA0, hV, rfl, hfz, hnd⟩ := hW
  have hA : DataW.TrodAll enc Tryz.prog W 0 (fun _ => true) true Tryz.f9.params.toList args.toList ds p := hA0
  have hsz : Rows.uptoSmall H (ds ++ gs) = true := hk0 _ rfl
  rw [Tryz.params9] at hA hval
  obtain ⟨v0, vs0, d0, ds0, p0, q0, hargs, rfl, rfl, h0, r0⟩ := trodAll_cons hA
  obtain ⟨v1, vs1, d1, ds1, p1, q1, rfl, rfl, rfl, h1, r1⟩ := trodAll_cons r0
  obtain ⟨v2, vs2, d2, ds2, p2, q2, rfl, rfl, rfl, h2, r2⟩ := trodAll_cons r1
  obtain ⟨rfl, rfl, rfl⟩ := trodAll_nil r2
  obtain rfl : args = #[v0, v1, v2] := by cases args; simp_all
  obtain ⟨rfl, rfl⟩ := trodVars_none hV
  obtain ⟨x0, g0, o0⟩ := qh1 qsd h0 (qo1 hsz 0 rfl (by kernel_rfl))
  obtain ⟨az0_0, cz0_0, az0_1, cz0_1, az0_2, cz0_2, e0, hz0_0, hz0_1, hz0_2⟩ := g0
  obtain rfl := qog rfl (hval 0 37 v0 rfl rfl) e0
  obtain ⟨x1, g1, o1⟩ := qh1 qsd h1 (qo1 hsz 1 rfl (by kernel_rfl))
  obtain ⟨az1_0, cz1_0, az1_1, cz1_1, az1_2, cz1_2, e1, hz1_0, hz1_1, hz1_2⟩ := g1
  obtain rfl := qog rfl (hval 1 37 v1 rfl rfl) e1
  obtain ⟨x2, g2, o2⟩ := qh1 qsb h2 (qo1 hsz 2 rfl (by kernel_rfl))
  obtain ⟨ad2, cp2, e2, f2⟩ := g2
  obtain rfl := qqf rfl (hval 2 35 v2 rfl rfl) e2
  obtain ⟨n, hp⟩ := JdA x0 x1 x2 o0 o1 o2
  clear hA0 hval0 hval
  have hG5 := gK5 hL
  have hG4 := gK4 hL
  have hG3 := gK3 hL
  have hG2 := gK2 hL
  have hG1 := gK1 hL
  have hG0 := qmy hsh
  refine (qlc (JdM hp ⟨hz0_0, hz0_1, hz0_2, hz1_0, hz1_1, hz1_2, f2, rfl, (GG.of ⟨hG0, hG1, hG2, hG3, hG4, hG5⟩)⟩)).mono fun e W' ⟨he, bel⟩ => ?_
  subst he
  exact ⟨_, rfl, _, _, _, [], _, [], hW', trodAll_mk1 (shut_bool Tryz.underlying4 _), qe1 laidOut bel rows hA fun x hx => hW'.lt x (List.mem_append_left _ hx), rfl, bel.frame _, fun h => by cases h⟩

set_option maxRecDepth 1000000 in
set_option maxHeartbeats 8000000 in
theorem jfs : joinedFacts Tryz.pinned.checked.prog 9 Tryz.f9 (Rows.OpenSpec.upto Rows.tenantKeysSpec).bare Rows.tenantKeysUptoRow = true := by
  have key : ∀ (P : Program) (f : FuncId) (fn : Func) (s : ChangeSpec) (c : OpenClaim), P = Tryz.pinned.checked.prog → f = 9 → fn = Tryz.f9 → s = (Rows.OpenSpec.upto Rows.tenantKeysSpec).bare → c = Rows.tenantKeysUptoRow → joinedFacts P f fn s c = true := by
    intro P f fn s c e1 e2 e3 e4 e5
    unfold joinedFacts
    simp only [Bool.and_eq_true]
    refine ⟨⟨⟨⟨⟨⟨⟨⟨⟨⟨⟨⟨⟨⟨⟨⟨⟨⟨⟨⟨⟨⟨⟨⟨⟨⟨⟨⟨⟨⟨⟨?_, ?_⟩, ?_⟩, ?_⟩, ?_⟩, ?_⟩, ?_⟩, ?_⟩, ?_⟩, ?_⟩, ?_⟩, ?_⟩, ?_⟩, ?_⟩, ?_⟩, ?_⟩, ?_⟩, ?_⟩, ?_⟩, ?_⟩, ?_⟩, ?_⟩, ?_⟩, ?_⟩, ?_⟩, ?_⟩, ?_⟩, ?_⟩, ?_⟩, ?_⟩, ?_⟩, ?_⟩
    all_goals (subst e1 e2 e3 e4 e5; as_aux_lemma => kernel_rfl)
  exact key _ _ _ _ _ rfl rfl rfl rfl rfl
theorem said : Rows.TenantKeysUptoSaid :=
  OpenClaim.holds_of_cond 9 Tryz.f9 rfl rfl rfl rfl rfl rfl rfl ⟨rfl, rfl, rfl, rfl, rfl⟩ rfl rfl rfl rfl rfl (by kernel_rfl) Tryz.func9 jfs
    (of_decide_eq_true (by kernel_rfl)) (by unfold Func.isWrapper; first | (rw [qsp (by decide +kernel)]; kernel_rfl) | (rw [qso (by decide +kernel)]; exact ⟨rfl, rfl⟩))
    (fun os started H enc _ F => by rw [OpenClaim.pre_eq_preRow]; exact lifted os started H enc F)
theorem plain (f : FuncId) (fn : Func) (hf : Tryz.pinned.checked.prog.funcNamed "quayside/quaysidelaw47.TenantKeys" = some f) (hfn : Tryz.pinned.checked.prog.funcs[f]? = some fn) :
    true = Tryz.pinned.checked.prog.looks [] ∧ ∀ (j : Nat) t, fn.params[j]? = some t → Tryz.pinned.checked.prog.wantsStandIn t = false := by
  obtain rfl : f = 9 := Option.some.inj ((show Tryz.prog.funcNamed "quayside/quaysidelaw47.TenantKeys" = some 9 by kernel_rfl).symm.trans hf) |>.symm
  obtain rfl : fn = Tryz.f9 := (Option.some.inj (Tryz.func9.symm.trans hfn)).symm
  refine ⟨by kernel_rfl, fun j t ht => ?_⟩
  rw [Tryz.params9] at ht
  have hm := Array.mem_of_getElem? ht
  simp only [List.mem_toArray, List.mem_cons, List.not_mem_nil, or_false] at hm
  rcases hm with rfl | rfl | rfl
  · exact (show Tryz.prog.wantsStandIn 37 = false by kernel_rfl)
  · exact (show Tryz.prog.wantsStandIn 37 = false by kernel_rfl)
  · exact (show Tryz.prog.wantsStandIn 35 = false by kernel_rfl)
/-- THE STATEMENT: the card -/
theorem proved : Rows.TenantKeysUptoCardSaid :=
  Claim7.holds_tied_plain_at .later [] _ _ _ _ said (fun _ h => by cases h) (by kernel_rfl) (fun _ h => by cases h) tenantKeysUpto_row_tie rfl ⟨rfl, rfl⟩ (by kernel_rfl) rfl plain (by kernel_rfl)

end Go.Proofs.YtiaaooopklhobaaGreatDoor.tenantKeys
