/- Empty slices that are made with room. -/
import Derived.Test.YtpmdpondlmkojaaSL27
set_option linter.unusedVariables false
set_option linter.unusedSimpArgs false
namespace Go.SL
open Go
section
variable {P : Program} {α : Type} {enc : α → List Value} {K : Hp} {H : List HProp} {t e sz : Nat} {c : VP}
theorem mk_room {z : Value} {n : Int} (T : ElT P t e sz) (hz : tyZeroV P e = some z) (hn : 0 ≤ n ∧ n ≤ (lim : Int))
    (h : ∀ b, c (.slice (some ⟨b, 0, none⟩) 0 n.toNat) K (OwnL enc (some ⟨b, 0, none⟩) e sz n.toNat [] :: H)) : WStep P (.makeSlice t (.int .i64 0) (.int .i64 n)) K H c := by
  obtain ⟨ht, hsz, ⟨z', hz', hzs⟩, hpos, ⟨bytes, hby, hb2⟩⟩ := T
  obtain rfl : z = z' := by rw [hz] at hz'; exact Option.some.inj hz'
  obtain ⟨i, hi, hiz⟩ : ∃ i, P.info? e = some i ∧ i.zero = some z := by
    unfold tyZeroV at hz
    cases h : P.info? e with
    | none => simp [h] at hz
    | some i =>
      refine ⟨i, rfl, ?_⟩
      simp only [h] at hz
      cases h0 : i.zero with
      | none => simp [h0] at hz
      | some z' => simp [h0] at hz; rw [hz]
  have his : i.size = sz := by unfold tySize at hsz; simpa [hi] using hsz
  have hib : i.bytes = bytes := by unfold tyBytes at hby; simpa [hi] using hby
  have hl : (lim : Int) = 68719476736 := rfl
  have hml : maxLen = 9223372036854775807 := by decide
  refine ⟨fun Γ w s => ?_⟩
  have hrun := run_make (P := P) w t e i z ht hi hiz .i64 .i64 0 n (Int.le_refl _) hn.1 (by rw [hib]; have : (bytes : Int) * n ≤ 2048 * 68719476736 := Int.mul_le_mul (by omega) (by omega) hn.1 (by omega); omega) (by omega)
  refine ⟨_, w.alloc (.cells (madeCells z.cells (n.toNat * i.size)) e), .slice (some ⟨w.heap.size, 0, none⟩) 0 n.toNat, K, _, by simp [M.sem, hrun], .inl rfl, ?_, h w.heap.size⟩
  refine (Sat.push s).mkOwn (css := []) (fun l hl => by cases hl) (fun l hl => by cases hl) ?_ (by simp) (by rw [hml]; omega) (fun j v hj => by simp at hj)
  simp [madeCells, his]
end
end Go.SL
namespace Go.SL
open Go
theorem errV_cells (u : TypeId) (e : Err) : (errV u e).cells.toList = [errV u e] := by cases e <;> rfl
theorem errV_one (u : TypeId) (e : Err) : (errV u e).oneCell' = true := by cases e <;> rfl
theorem store_err {P : Program} {t b off : Nat} {T u : TypeId} {e : Err} {cs : List Value} {K : Hp} {H H' : List HProp} {c : VP} (hr : Rem (Cells b T cs) H H') (ht : tySize P t = some 1) (ho : Nat.ble (off + 1) cs.length = true)
    (h : force (splice off [errV u e] cs) fun cs' => c undef K (Cells b T cs' :: H')) : WStep P (.store t (.pointer (some ⟨b, off, none⟩)) (errV u e)) K H c := by
  refine store_rule hr ht ?_
  rw [cellsL_eq, errV_cells]
  exact ⟨rfl, by simp [allOne, errV_one], Nat.le_of_ble_eq_true ho, h⟩
end Go.SL
namespace Go.SL
open Go
section
variable {P : Program} {α : Type} {l : List α} {t sz cap : Nat} {a : Option Addr} {c : Value → Prop}
theorem sl_slN {e n : Nat} {lo hi : Option Int} {lo' hi' : Int} (hl : loI lo = lo') (hh : hiI l.length hi = hi') (ht : P.underlying t = some (.slice e)) (hsz : tySize P e = some sz) (hn : n = l.length) (hcap : n ≤ cap) (hb : 0 ≤ lo' ∧ lo' ≤ hi' ∧ hi' ≤ l.length)
    (h : c (.slice (subA a cap lo'.toNat sz) (subL l lo' hi').length (cap - lo'.toNat))) : NStep P (.slice t (.slice a n cap) (vI lo) (vI hi) none) c := by
  subst hl; subst hh
  exact sl_sl ht hsz hn hcap hb h
end
end Go.SL
