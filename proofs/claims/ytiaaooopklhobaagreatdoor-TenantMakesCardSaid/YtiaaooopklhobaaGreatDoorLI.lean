/- The library: facts about walks, over any program. -/
import Derived.Test.YtiaaooopklhobaaGreatDoorLH
import Derived.Maps.RangeRun
import Derived.Laws.MakeOwn
set_option linter.unusedVariables false
set_option linter.unusedSimpArgs false
set_option linter.unusedSectionVars false
namespace Go.SL
open Go Go.ChangeMaps
section
variable {P : Program} {α : Type} {enc : α → List Value} {t e sz : Nat} {K : Hp} {H : List HProp} {c : VP}
theorem qie (z : List Value) (hz : 0 < z.length) : ∀ n, (madeCells z.toArray (n * z.length)).toList = (List.replicate n z).flatten
 | 0 => by simp [madeCells]
 | n + 1 => by
  have ih := qie z hz n
  rw [List.replicate_succ', List.flatten_append, ← ih]
  simp only [madeCells, List.flatten_cons, List.flatten_nil, List.append_nil, Array.toList_map, Array.toList_range, Nat.succ_mul, List.range_add, List.map_append, List.map_map]
  congr 1
  apply List.ext_getElem
  ·simp
  ·intro i h1 h2
   simp only [List.length_map, List.length_range] at h1
   simp [Nat.mod_eq_of_lt h2, getElem!_pos, h2]
theorem qre {z : Value} {n : Int} (x0 : α) (T : ElT P t e sz) (hz : qbk P e = some z) (hx : z.cells.toList = enc x0) (ho : allOne (enc x0) = true) (hn : 0 ≤ n ∧ n ≤ (lim : Int))
  (h : ∀ b, c (.slice (some ⟨b, 0, none⟩) n.toNat n.toNat) K (OwnL enc (some ⟨b, 0, none⟩) e sz n.toNat (List.replicate n.toNat x0) :: H)) : WStep P (.makeSlice t (.int .i64 n) (.int .i64 n)) K H c := by
 obtain ⟨ht, hsz, ⟨z', hz', hzs⟩, hpos, ⟨bytes, hby, hb2⟩⟩ := T
 obtain rfl : z = z' := by rw [hz] at hz'; exact Option.some.inj hz'
 obtain ⟨i, hi, hiz⟩ : ∃ i, P.info? e = some i ∧ i.zero = some z := by
  unfold qbk at hz
  cases h : P.info? e with
  | none => simp [h] at hz
  | some i =>
   refine ⟨i, rfl, ?_⟩
   simp only [h] at hz
   cases h0 : i.zero with
   | none => simp [h0] at hz
   | some z' => simp [h0] at hz; rw [hz]
 have his : i.size = sz := by unfold qbc at hsz; simpa [hi] using hsz
 have hib : i.bytes = bytes := by unfold qej at hby; simpa [hi] using hby
 have hl : (lim : Int) = 68719476736 := rfl
 have hcs : (enc x0).length = sz := by rw [← hx]; simpa using hzs
 refine ⟨fun Γ w s => ?_⟩
 have hrun := run_make (P := P) w t e i z ht hi hiz .i64 .i64 n n hn.1 (Int.le_refl _) (by rw [hib]; have : (bytes : Int) * n ≤ 2048 * 68719476736 := Int.mul_le_mul (by omega) (by omega) hn.1 (by omega); omega) (by omega)
 refine ⟨_, w.alloc (.cells (madeCells z.cells (n.toNat * i.size)) e), .slice (some ⟨w.heap.size, 0, none⟩) n.toNat n.toNat, K, _, by simp [M.sem, hrun], .inl rfl, ?_, h w.heap.size⟩
 have hml : maxLen = 9223372036854775807 := by decide
 have hmc : (madeCells z.cells (n.toNat * i.size)).toList = ((List.replicate n.toNat x0).map enc).flatten := by
  have := qie z.cells.toList (by rw [hx, hcs]; exact hpos) n.toNat
  rw [hx, hcs] at this
  rw [his, List.map_replicate, ← this]
  congr 2
  rw [← hx]
 refine (Sat.push s).mkOwn (fun l hl => ?_) (fun l hl => ?_) ?_ (by simp) (by rw [hml]; omega) (fun j v hj => ?_)
 ·obtain ⟨x, hx', rfl⟩ := List.mem_map.1 hl
  rw [List.eq_of_mem_replicate hx']; exact hcs
 ·obtain ⟨x, hx', rfl⟩ := List.mem_map.1 hl
  rw [List.eq_of_mem_replicate hx']; exact qbn ho
 ·simp [madeCells, his]
 ·rw [← Array.getElem?_toList, hmc]; exact hj
end
end Go.SL
