/- A literal that may be made early. -/
import Derived.Test.YtpmdpondlmkojaaSL21
set_option linter.unusedVariables false
set_option linter.unusedSimpArgs false
namespace Go.SL
open Go
section
variable {P : Program}
theorem buildK_mono : ∀ (ps : List (Nat × Value)) (pl : List (Nat × Nat)) (acc : List Value) (k k' : List Value → Prop), (∀ cs, k cs → k' cs) → buildK pl ps acc k → buildK pl ps acc k' := by
  intro ps
  induction ps with
  | nil => intro pl acc k k' hm hk; simp only [buildK, force_eq] at hk ⊢; exact hm _ hk
  | cons p ps ih =>
    intro pl acc k k' hm hk
    obtain ⟨i, v⟩ := p
    simp only [buildK, cellsL_eq, force_eq] at hk ⊢
    have nth : ∀ (ql : List (Nat × Nat)) (j : Nat) (q q' : Nat × Nat → Prop), (∀ x, q x → q' x) → nthK ql j q → nthK ql j q' := by
      intro ql
      induction ql with
      | nil => intro j q q' _ h; exact h
      | cons y ql ih => intro j q q' hq h; cases j with
        | zero => exact hq _ h
        | succ j => exact ih j q q' hq h
    refine nth _ _ _ _ (fun x hx => ?_) hk
    rcases condP_true hx with ⟨h1, h2⟩ | ⟨h1, h2⟩
    · exact cond_t h1 (ih _ _ _ _ hm h2)
    · exact h2.elim
theorem bsA {t e sz len : Nat} {z : Value} {parts : List (Nat × Value)} {K : Hp} {H : List HProp} {c : VP} {cl : List Value} (T : ElT P t e sz) (hz : tyZeroV P e = some z)
    (hb : Nat.ble (len * sz) 16777216 = true) (hk : buildK (rowPl sz 0 len) parts (zrow z.cells 0 (len * sz)) fun cs => cs = cl)
    (h : ∀ b, c (.slice (some ⟨b, 0, none⟩) len len) K (Cells b e cl :: H)) : AStep P (.buildSlice t len parts) K H c := by
  have hb' := Nat.le_of_ble_eq_true hb
  by_cases h0 : len * sz = 0
  · have e0 : zrow z.cells 0 (len * sz) = (#[] : Array Value).toList := by simp [h0, zrow]
    rw [e0] at hk
    obtain ⟨cs, h1, h2⟩ := fill_spec (place := fun i => some (i * sz, sz)) (fun i p hp => by have := rowPl_spec sz _ _ _ _ hp; simp [this]) hk
    subst h2
    refine ⟨fun b => .slice (some ⟨b, 0, none⟩) len len, .cells cs e (0, 0), fun w => ?_, fun b => by simpa [Cells] using h b⟩
    simp only [M.sem, Instr.buildSlice, Sem.run_bind, run_underlying T.ht, Result.andThen_ok, run_sizeOf' T.hsz, h0]
    simp [h1, newRow, show Array.range 0 = #[] from rfl]
  · have e0 : zrow z.cells 0 (len * sz) = ((Array.range (len * sz)).map (z.cells[· % z.cells.size]!)).toList := by simp [zrow_spec]
    rw [e0] at hk
    obtain ⟨cs, h1, h2⟩ := fill_spec (place := fun i => some (i * sz, sz)) (fun i p hp => by have := rowPl_spec sz _ _ _ _ hp; simp [this]) hk
    subst h2
    refine ⟨fun b => .slice (some ⟨b, 0, none⟩) len len, .cells cs e (0, 0), fun w => ?_, fun b => by simpa [Cells] using h b⟩
    have hn : ¬ len * sz > 2 ^ 24 := by omega
    simp only [M.sem, Instr.buildSlice, Sem.run_bind, run_underlying T.ht, Result.andThen_ok, run_sizeOf' T.hsz, if_neg hn, if_neg h0, run_zero' hz, Sem.run_pure]
    simp [h1, newRow]
theorem allocA {P : Program} {t : TypeId} {z : Value} {K : Hp} {H : List HProp} {c : VP} (hz : tyZeroV P t = some z)
    (h : ∀ b, force z.cells.toList fun vs => c (.pointer (some ⟨b, 0, none⟩)) K (Cells b t vs :: H)) : AStep P (.alloc t) K H c := by
  refine ⟨fun n => .pointer (some ⟨n, 0, none⟩), .cells z.cells t, fun w => by simp [M.sem, Instr.alloc, run_zero' hz, newVar, newRow], fun b => ?_⟩
  have := h b
  rw [force_eq] at this
  simpa using this
end
end Go.SL
