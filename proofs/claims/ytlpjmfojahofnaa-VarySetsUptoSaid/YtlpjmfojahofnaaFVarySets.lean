/- The row of VarySets: for all inputs the law returns true; no condition beyond the given statement. -/
import Derived.Test.YtlpjmfojahofnaaPVarySets
import Derived.Test.YtlpjmfojahofnaaR
import Derived.Test.YtlpjmfojahofnaaRows
namespace Go.Proofs.Ytlpjmfojahofnaa.varySets
open Go Go.SL Go.ChangeShapes Go.WideShapes Go.ChangeAt Go.RowKit
set_option linter.unusedVariables false
theorem own : ownKnob Try.prog.godebug = none := by kernel_rfl
theorem laidOut : laidOutB Try.prog = true := by kernel_rfl
theorem rows : ([48].all fun t => Try.prog.readableRec t && decide (t < Try.prog.types.size)) = true := by kernel_rfl
def clB (P : Program) (t : TypeId) : Bool := Nat.ble (P.bytesOf t) 256 && match P.underlying t with
  | some (.pointer e) => Nat.blt e P.types.size
  | some (.slice e) => Nat.blt e P.types.size
  | some (.array _ e) => Nat.blt e P.types.size
  | some (.map k e) => Nat.blt k P.types.size && Nat.blt e P.types.size
  | some (.struct fs) => fs.toList.all fun f => Nat.blt f.type P.types.size
  | _ => true
theorem closed : (List.range Try.prog.types.size).all (clB Try.prog) = true := by kernel_rfl
section
variable {H : Type} {P : Program}
theorem blt {a b : Nat} (h : Nat.blt a b = true) : a < b := Nat.le_of_ble_eq_true h
set_option maxRecDepth 100000
mutual
theorem uw (hc : ∀ t, t < P.types.size → clB P t = true) : ∀ (d : DataW H) (t : TypeId), t < P.types.size → ∀ n ∈ d.weights P t, n ≤ Rows.uptoBulk d * 512
  | .lit l, t, ht, n, hn => by
    cases l <;> simp only [DataW.weights, List.not_mem_nil, List.mem_singleton] at hn
    subst hn; simp only [Rows.uptoBulk]; omega
  | .nil, t, ht, n, hn => by simp [DataW.weights] at hn
  | .ptr d, t, ht, n, hn => by
    have hq := hc t ht
    simp only [DataW.weights] at hn
    unfold clB at hq
    split at hn
    · rename_i e he
      simp only [he, Bool.and_eq_true] at hq
      have := uw hc d e (blt hq.2) n hn
      simp only [Rows.uptoBulk]; omega
    · cases hn
  | .slice elems spare, t, ht, n, hn => by
    have hq := hc t ht
    simp only [DataW.weights] at hn
    unfold clB at hq
    split at hn
    · rename_i e he
      simp only [he, Bool.and_eq_true] at hq
      have h0 := blt hq.2
      simp only [Rows.uptoBulk]
      rcases List.mem_cons.1 hn with rfl | hn
      · have h1 := ul elems
        have h2 := ul spare
        have h3 : P.bytesOf e ≤ 256 := by
          have := hc e h0
          unfold clB at this
          simp only [Bool.and_eq_true] at this
          exact Nat.le_of_ble_eq_true this.1
        have : (elems.length + spare.length) * P.bytesOf e ≤ (elems.length + spare.length) * 256 := Nat.mul_le_mul_left _ h3
        omega
      · rcases List.mem_append.1 hn with hn | hn
        · have := ua hc elems _ h0 n hn
          omega
        · have := ua hc spare _ h0 n hn
          omega
    · cases hn
  | .agg parts, t, ht, n, hn => by
    have hq := hc t ht
    simp only [DataW.weights] at hn
    unfold clB at hq
    simp only [Rows.uptoBulk]
    split at hn
    · rename_i fs he
      simp only [he, Bool.and_eq_true, List.all_eq_true] at hq
      have := ue hc parts (fs.toList.map (·.type)) (fun x hx => by obtain ⟨f, hf, rfl⟩ := List.mem_map.1 hx; exact blt (hq.2 f hf)) n hn
      omega
    · rename_i e he
      simp only [he, Bool.and_eq_true] at hq
      have := ua hc parts _ (blt hq.2) n hn
      omega
    · cases hn
  | .iface _ d, t, ht, n, hn => by simp [DataW.weights] at hn
  | .map entries, t, ht, n, hn => by
    have hq := hc t ht
    simp only [DataW.weights] at hn
    unfold clB at hq
    split at hn
    · rename_i k e he
      simp only [he, Bool.and_eq_true] at hq
      have hk := blt hq.2.1
      have h0 := blt hq.2.2
      have hb : ∀ z, z < P.types.size → P.bytesOf z ≤ 256 := fun z hz => by
        have := hc z hz
        unfold clB at this
        simp only [Bool.and_eq_true] at this
        exact Nat.le_of_ble_eq_true this.1
      simp only [Rows.uptoBulk]
      rcases List.mem_cons.1 hn with rfl | hn
      · have h1 := um entries
        have h2 := hb k hk
        have h3 := hb e h0
        have : entries.length * (P.bytesOf k + P.bytesOf e) ≤ entries.length * 512 := Nat.mul_le_mul_left _ (by omega)
        omega
      · have := ut hc entries _ h0 n hn
        omega
    · cases hn
  | .held _, t, ht, n, hn => by simp [DataW.weights] at hn
theorem ul : ∀ (l : List (DataW H)), l.length ≤ Rows.uptoBulkAll l
  | [] => Nat.zero_le _
  | d :: l => by
    have h1 := ul l
    have h2 := u1 d
    simp only [Rows.uptoBulkAll, List.length_cons]; omega
theorem u1 : ∀ (d : DataW H), 1 ≤ Rows.uptoBulk d
  | .lit l => by cases l <;> simp only [Rows.uptoBulk] <;> omega
  | .nil => by simp only [Rows.uptoBulk]; omega
  | .ptr d => by simp only [Rows.uptoBulk]; omega
  | .slice elems spare => by simp only [Rows.uptoBulk]; omega
  | .agg parts => by simp only [Rows.uptoBulk]; omega
  | .iface _ d => by simp only [Rows.uptoBulk]; omega
  | .map entries => by simp only [Rows.uptoBulk]; omega
  | .held _ => by simp only [Rows.uptoBulk]; omega
theorem ua (hc : ∀ t, t < P.types.size → clB P t = true) : ∀ (l : List (DataW H)) (t : TypeId), t < P.types.size → ∀ n ∈ DataW.weightsAll P t l, n ≤ Rows.uptoBulkAll l * 512
  | [], t, ht, n, hn => by simp [DataW.weightsAll] at hn
  | d :: l, t, ht, n, hn => by
    simp only [DataW.weightsAll] at hn
    simp only [Rows.uptoBulkAll]
    rcases List.mem_append.1 hn with hn | hn
    · have := uw hc d _ ht n hn
      omega
    · have := ua hc l _ ht n hn
      omega
theorem ue (hc : ∀ t, t < P.types.size → clB P t = true) : ∀ (l : List (DataW H)) (ts : List TypeId), (∀ t ∈ ts, t < P.types.size) → ∀ n ∈ DataW.weightsEach P ts l, n ≤ Rows.uptoBulkAll l * 512
  | [], ts, ht, n, hn => by cases ts <;> simp [DataW.weightsEach] at hn
  | d :: l, [], ht, n, hn => by simp [DataW.weightsEach] at hn
  | d :: l, t :: ts, ht, n, hn => by
    simp only [DataW.weightsEach] at hn
    simp only [Rows.uptoBulkAll]
    rcases List.mem_append.1 hn with hn | hn
    · have := uw hc d _ (ht t (by simp)) n hn
      omega
    · have := ue hc l _ (fun x hx => ht x (by simp [hx])) n hn
      omega
theorem um : ∀ (l : List (Lit × DataW H)), l.length ≤ Rows.uptoBulkEntries l
  | [] => Nat.zero_le _
  | (k, d) :: l => by
    have h1 := um l
    have h2 : 1 ≤ Rows.uptoBulkEntry (k, d) := by cases k <;> simp only [Rows.uptoBulkEntry] <;> omega
    simp only [Rows.uptoBulkEntries, List.length_cons]; omega
theorem ut (hc : ∀ t, t < P.types.size → clB P t = true) : ∀ (l : List (Lit × DataW H)) (t : TypeId), t < P.types.size → ∀ n ∈ DataW.weightsEntries P t l, n ≤ Rows.uptoBulkEntries l * 512
  | [], t, ht, n, hn => by simp [DataW.weightsEntries] at hn
  | (k, d) :: l, t, ht, n, hn => by
    simp only [DataW.weightsEntries] at hn
    simp only [Rows.uptoBulkEntries]
    rcases List.mem_append.1 hn with hn | hn
    · have h2 : n ≤ Rows.uptoBulkEntry (k, d) * 512 := by
        have hd := fun h => uw hc d t ht n h
        cases k <;> simp only [DataW.weightsEntry, List.mem_cons] at hn <;> simp only [Rows.uptoBulkEntry]
        all_goals first | (have := hd hn; omega) | (rcases hn with rfl | hn; omega; have := hd hn; omega)
      omega
    · have := ut hc l _ ht n hn
      omega
end
theorem ub : ∀ {ds : List (DataW H)} {j : Nat} {d : DataW H}, ds[j]? = some d → Rows.uptoBulk d ≤ Rows.uptoBulkAll ds
  | x :: ds, 0, d, h => by simp at h; subst h; simp only [Rows.uptoBulkAll]; omega
  | x :: ds, j + 1, d, h => by
    have := ub (ds := ds) (j := j) (d := d) (by simpa using h)
    simp only [Rows.uptoBulkAll]; omega
  | [], _, _, h => by simp at h
end
theorem up_sz {H : Type} {ds : List (DataW H)} (h : Rows.uptoSmall H ds = true) (j : Nat) {t : TypeId} {d : DataW H} (hd : ds[j]? = some d) (ht : Nat.blt t Try.prog.types.size = true) : SzOK szUp Try.prog t d := fun n hn => by
  have h1 : Rows.uptoBulkAll ds ≤ 1048576 := of_decide_eq_true h
  have h2 := uw (fun t ht => List.all_eq_true.1 closed t (List.mem_range.2 ht)) d t (blt ht) n hn
  have h3 := ub hd
  show n ≤ 536870912
  omega
set_option maxRecDepth 100000 in
theorem lifted (os : Os) (started : os.Started) (H : Type) (enc : TypeId × Value → H) (F0 : Stop.Interp) :
    ReturnsInHanded {} Try.checked os 7 .any ((Rows.OpenSpec.upto Rows.varySetsSpec).pre6 enc Try.prog Try.f7 Rows.varySetsUptoRow.domain false) (((Rows.OpenSpec.upto Rows.varySetsSpec).at F0).post enc Try.prog Try.f7 false true false false) := by
  refine returnsInHanded_of_cond (C := Try.checked) (s := Rows.OpenSpec.upto Rows.varySetsSpec) (k := Rows.uptoSmall) rfl own started (by kernel_rfl) Try.func7
    (OpenSpec.witness (enc := enc) (C := Try.checked) (s := Rows.OpenSpec.upto Rows.varySetsSpec) (k := Rows.uptoSmall) rfl false ⟨#[], #[.slice none 0 0], []⟩ 8 (by kernel_rfl) (by kernel_rfl) (by kernel_rfl)
      (x := ([.nil], [], [])) (by kernel_rfl) (by kernel_rfl) (by kernel_rfl)) ?_
  intro W base args ds gs before hval0 hW hcnd hk0 _
  have hval : ∀ (j : Nat) t v, Try.f7.params[j]? = some t → args[j]? = some v → Value.okWide Try.prog W .any base t v := hval0
  have hW' := hW
  obtain ⟨p, q, hA0, hV, rfl, hfz, hnd⟩ := hW
  have hA : DataW.TrodAll enc Try.prog W 0 (fun _ => true) true Try.f7.params.toList args.toList ds p := hA0
  have hsz : Rows.uptoSmall H (ds ++ gs) = true := hk0
  rw [Try.params7] at hA hval
  obtain ⟨v0, vs0, d0, ds0, p0, q0, hargs, rfl, rfl, h0, r0⟩ := trodAll_cons hA
  obtain ⟨rfl, rfl, rfl⟩ := trodAll_nil r0
  obtain rfl : args = #[v0] := by cases args; simp_all
  obtain ⟨rfl, rfl⟩ := trodVars_none hV
  obtain ⟨x0, g0, o0⟩ := open_arg rd48 h0 (up_sz hsz 0 rfl (by kernel_rfl))
  obtain ⟨ad0, cp0, e0, f0⟩ := g0
  obtain rfl := one_of rfl (hval 0 48 v0 rfl rfl) e0
  obtain ⟨n, hp⟩ := law16_VarySets_true x0 o0
  clear hA0 hval0 hval
  refine (law_calls' (law16_VarySets_ok hp f0 rfl)).mono fun e W' ⟨he, bel⟩ => ?_
  subst he
  exact ⟨_, rfl, _, _, _, [], _, [], hW', trodAll_mk1 (shut_bool Try.underlying4 _), trodAll_stays laidOut bel rows hA fun x hx => hW'.lt x (List.mem_append_left _ hx), rfl, bel.frame _, fun h => by cases h⟩

/-- THE STATEMENT -/
theorem proved : Rows.VarySetsUptoSaid :=
  OpenClaim.holds_of_cond 7 Try.f7 rfl rfl rfl rfl rfl rfl rfl ⟨rfl, rfl, rfl, rfl, rfl⟩ rfl rfl rfl rfl rfl (by kernel_rfl) Try.func7 (by kernel_rfl)
    (of_decide_eq_true (by kernel_rfl)) (by unfold Func.isWrapper; first | (rw [if_pos (by decide +kernel)]; kernel_rfl) | (rw [if_neg (by decide +kernel)]; exact ⟨rfl, rfl⟩))
    (fun os started H enc _ F0 => lifted os started H enc F0)

end Go.Proofs.Ytlpjmfojahofnaa.varySets
