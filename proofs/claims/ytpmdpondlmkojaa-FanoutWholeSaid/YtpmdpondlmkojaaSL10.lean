/- The rules, fifth part: slices that are written out, and loads of their elements. -/
import Derived.Test.YtpmdpondlmkojaaSL9
set_option linter.unusedVariables false
namespace Go.SL
open Go

section
variable {P : Program}

def rowPl (sz : Nat) : Nat → Nat → List (Nat × Nat)
  | _, 0 => []
  | i, n + 1 => (i * sz, sz) :: rowPl sz (i + 1) n
theorem rowPl_spec (sz : Nat) : ∀ (n i0 i : Nat) (p : Nat × Nat), (rowPl sz i0 n)[i]? = some p → p = ((i0 + i) * sz, sz)
  | 0, _, i, p, h => by simp [rowPl] at h
  | n + 1, i0, 0, p, h => by simp [rowPl] at h; simp [← h]
  | n + 1, i0, i + 1, p, h => by
    simp only [rowPl, List.getElem?_cons_succ] at h
    have := rowPl_spec sz n (i0 + 1) i p h
    rw [this, Nat.add_assoc, Nat.add_comm 1 i]
def zrow (z : Array Value) : Nat → Nat → List Value
  | _, 0 => []
  | i, n + 1 => z[i % z.size]! :: zrow z (i + 1) n
theorem zrow_spec (z : Array Value) : ∀ (n i : Nat), zrow z i n = (List.range n).map fun j => z[(i + j) % z.size]!
  | 0, i => rfl
  | n + 1, i => by
    rw [List.range_succ_eq_map, List.map_cons, List.map_map]
    simp only [zrow, zrow_spec z n (i + 1)]
    congr 1
    apply List.map_congr_left
    intro j _
    simp [Nat.add_assoc, Nat.add_comm 1 j]

theorem buildSlice_rule {t e sz len : Nat} {z : Value} {parts : List (Nat × Value)} {K : Hp} {H : List HProp} {c : VP} (ht : P.underlying t = some (.slice e)) (hsz : tySize P e = some sz) (hz : tyZeroV P e = some z)
    (hb : len * sz ≤ 16777216) (h : buildK (rowPl sz 0 len) parts (zrow z.cells 0 (len * sz)) fun cs => ∀ b, c (.slice (some ⟨b, 0, none⟩) len len) K (Cells b e cs :: H)) : WStep P (.buildSlice t len parts) K H c := by
  by_cases h0 : len * sz = 0
  · have e0 : zrow z.cells 0 (len * sz) = (#[] : Array Value).toList := by simp [h0, zrow]
    rw [e0] at h
    obtain ⟨cs, h1, h2⟩ := fill_spec (place := fun i => some (i * sz, sz)) (fun i p hp => by have := rowPl_spec sz _ _ _ _ hp; simp [this]) h
    refine ⟨fun Γ w s => ⟨_, { w with heap := w.heap.push (.cells cs e (0, 0)) }, _, K, _, ?_, .inl rfl, ?_, h2 w.heap.size⟩⟩
    · simp only [M.sem, Instr.buildSlice, Sem.run_bind, run_underlying ht, Result.andThen_ok, run_sizeOf' hsz, h0]
      simp [h1, newRow, show Array.range 0 = #[] from rfl]
    · have := s.push (o := .cells cs e (0, 0))
      simpa [Cells] using this
  · have e0 : zrow z.cells 0 (len * sz) = ((Array.range (len * sz)).map (z.cells[· % z.cells.size]!)).toList := by simp [zrow_spec]
    rw [e0] at h
    obtain ⟨cs, h1, h2⟩ := fill_spec (place := fun i => some (i * sz, sz)) (fun i p hp => by have := rowPl_spec sz _ _ _ _ hp; simp [this]) h
    refine ⟨fun Γ w s => ⟨_, { w with heap := w.heap.push (.cells cs e (0, 0)) }, _, K, _, ?_, .inl rfl, ?_, h2 w.heap.size⟩⟩
    · have hn : ¬ len * sz > 2 ^ 24 := by omega
      simp only [M.sem, Instr.buildSlice, Sem.run_bind, run_underlying ht, Result.andThen_ok, run_sizeOf' hsz, if_neg hn, if_neg h0, run_zero' hz, Sem.run_pure]
      simp [h1, newRow]
    · have := s.push (o := .cells cs e (0, 0))
      simpa [Cells] using this

theorem load_ep {t b T k : Nat} {cs : List Value} {K : Hp} {H H' : List HProp} {c : Value → Prop} (v : Value) (hr : Rem (Cells b T cs) H H') (ht : tyShape P t = some none) (hv : cs[k]? = some v) (h : c v) :
    RStepS P (.load t (eptr (some ⟨b, 0, none⟩) k)) K H c := by
  rw [eptr_some]
  refine load1_s hr ht ?_ h
  simpa using hv
end
end Go.SL
