/- Empty slices that are made with room. -/
import Derived.Test.YtlpjmfojahofnaaSL27
set_option linter.unusedVariables false
set_option linter.unusedSimpArgs false
namespace Go.SL
open Go
section
variable {P : Program} {α : Type} {enc : α → List Value} {K : Hp} {H : List HProp} {t e sz : Nat} {c : VP}
theorem mk_room {z : Value} {n : Int} (T : ElT P t e sz) (hz : tyZeroV P e = some z) (hn : 0 ≤ n ∧ n ≤ (lim : Int))
    (h : ∀ b, c (.slice (some ⟨b, 0, none⟩) 0 n.toNat) K (OwnL enc (some ⟨b, 0, none⟩) e sz n.toNat [] :: H)) : WStep P (.makeSlice t (.int .i64 0) (.int .i64 n)) K H c := by
  obtain ⟨ht, hsz, ⟨z', hz', hzs⟩, hpos, ⟨bytes, hby, hb2⟩⟩ := T
  obtain rfl : z = z' := by rw [hz] at hz'; exact Option.some.inj hz'
  obtain ⟨i, hi, hiz⟩ : ∃ i, P.info? e = some i ∧ i.zero = some z := by
    unfold tyZeroV at hz
    cases h : P.info? e with
    | none => simp [h] at hz
    | some i =>
      refine ⟨i, rfl, ?_⟩
      simp only [h] at hz
      cases h0 : i.zero with
      | none => simp [h0] at hz
      | some z' => simp [h0] at hz; rw [hz]
  have his : i.size = sz := by unfold tySize at hsz; simpa [hi] using hsz
  have hib : i.bytes = bytes := by unfold tyBytes at hby; simpa [hi] using hby
  have hl : (lim : Int) = 68719476736 := rfl
  have hml : maxLen = 9223372036854775807 := by decide
  refine ⟨fun Γ w s => ?_⟩
  have hrun := run_make (P := P) w t e i z ht hi hiz .i64 .i64 0 n (Int.le_refl _) hn.1 (by rw [hib]; have : (bytes : Int) * n ≤ 2048 * 68719476736 := Int.mul_le_mul (by omega) (by omega) hn.1 (by omega); omega) (by omega)
  refine ⟨_, w.alloc (.cells (madeCells z.cells (n.toNat * i.size)) e), .slice (some ⟨w.heap.size, 0, none⟩) 0 n.toNat, K, _, by simp [M.sem, hrun], .inl rfl, ?_, h w.heap.size⟩
  refine (Sat.push s).mkOwn (css := []) (fun l hl => by cases hl) (fun l hl => by cases hl) ?_ (by simp) (by rw [hml]; omega) (fun j v hj => by simp at hj)
  simp [madeCells, his]
end
end Go.SL
