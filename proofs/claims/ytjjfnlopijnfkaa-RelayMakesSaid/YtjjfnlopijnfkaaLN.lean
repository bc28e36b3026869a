/- The library: facts about walks, over any program. -/
import Derived.Test.YtjjfnlopijnfkaaLM
import Derived.Lib.SliceRun
set_option linter.unusedVariables false
set_option linter.unusedSimpArgs false
set_option linter.unusedSectionVars false
set_option linter.unusedVariables false
set_option linter.unusedSimpArgs false
namespace Go.SL
open Go
section
variable {P : Program} {K : Hp} {H H' : List HProp} {a : Option Addr} {e sz cap t : Nat} {c : VP} {css : List (List Value)}
theorem LR.set {α : Type} {R : Rp α} {l : List α} {i : Nat} {nw : List Value} {y : α} (h : LR R K css l) (hy : R K nw y) : LR R K (css.set i nw) (l.set i y) := by
  refine ⟨by rw [List.length_set, List.length_set, h.len], fun j c x hc hx => ?_⟩
  by_cases q : i = j
  · subst q
    have h1 := (List.getElem?_eq_some_iff.1 hc).1
    have h2 := (List.getElem?_eq_some_iff.1 hx).1
    simp only [List.length_set] at h1 h2
    rw [List.getElem?_set_self h1] at hc
    rw [List.getElem?_set_self h2] at hx
    cases hc; cases hx; exact hy
  · rw [List.getElem?_set_ne q] at hc hx
    exact h.all j c x hc hx
theorem LR.take {α : Type} {R : Rp α} {l : List α} (h : LR R K css l) (n : Nat) : LR R K (css.take n) (l.take n) := by
  refine ⟨by rw [List.length_take, List.length_take, h.len], fun j c x hc hx => ?_⟩
  rw [List.getElem?_take] at hc hx
  split at hc
  · rename_i q; rw [if_pos q] at hx; exact h.all j c x hc hx
  · cases hc
end
end Go.SL
set_option linter.unusedVariables false
set_option linter.unusedSimpArgs false
namespace Go.SL
open Go
theorem Rem.app {A : HProp} {L L' : List HProp} (r : Rem A L L') (H : List HProp) : Rem A (L ++ H) (L' ++ H) := by
  induction r with
  | here => exact .here
  | there _ ih => exact .there ih
def hdR {α : Type} : Rp (List α) := fun _ cs l => ∃ a cap, cs = [.slice a l.length cap]
theorem hdR_ok {α : Type} : RpOK 1 (hdR (α := α)) :=
  ⟨fun _ h => h, fun ⟨_, _, h⟩ => by simp [h], fun ⟨_, _, h⟩ v hv => by rw [h] at hv; simp at hv; subst hv; rfl⟩
end Go.SL
set_option linter.unusedVariables false
set_option linter.unusedSimpArgs false
namespace Go.SL
open Go
end Go.SL
set_option linter.unusedVariables false
set_option linter.unusedSimpArgs false
namespace Go.SL
open Go
section
variable {P : Program} {K : Hp} {H H' : List HProp} {c : VP} {t e sz : Nat} {α : Type} {enc : α → List Value}
/-- A block of n zero elements. -/
def MadeB (b e : Nat) (z : Value) (k : Nat) : HProp := Blk b (.cells (madeCells z.cells k) e)
theorem mk_sliceA {z : Value} {n : Int} (T : ElT P t e sz) (hz : tyZeroV P e = some z) (hn : 0 ≤ n ∧ n ≤ (lim : Int))
    (h : ∀ b, c (.slice (some ⟨b, 0, none⟩) n.toNat n.toNat) K (MadeB b e z (n.toNat * sz) :: H)) : AStep P (.makeSlice t (.int .i64 n) (.int .i64 n)) K H c := by
  obtain ⟨ht, hsz, ⟨z', hz', hzs⟩, hpos, ⟨bytes, hby, hb2⟩⟩ := T
  obtain rfl : z = z' := by rw [hz] at hz'; exact Option.some.inj hz'
  obtain ⟨i, hi, hiz⟩ : ∃ i, P.info? e = some i ∧ i.zero = some z := by
    unfold tyZeroV at hz
    cases h : P.info? e with
    | none => simp [h] at hz
    | some i =>
      refine ⟨i, rfl, ?_⟩
      simp only [h] at hz
      cases h0 : i.zero with
      | none => simp [h0] at hz
      | some z' => simp [h0] at hz; rw [hz]
  have his : i.size = sz := by unfold tySize at hsz; simpa [hi] using hsz
  have hib : i.bytes = bytes := by unfold tyBytes at hby; simpa [hi] using hby
  have hl : (lim : Int) = 68719476736 := rfl
  refine ⟨fun b => .slice (some ⟨b, 0, none⟩) n.toNat n.toNat, .cells (madeCells z.cells (n.toNat * sz)) e, fun w => ?_, h⟩
  have hrun := run_make (P := P) w t e i z ht hi hiz .i64 .i64 n n hn.1 (Int.le_refl _) (by rw [hib]; have : (bytes : Int) * n ≤ 2048 * 68719476736 := Int.mul_le_mul (by omega) (by omega) hn.1 (by omega); omega) (by omega)
  simp [M.sem, hrun, his]
theorem Sat.made {Γ : World} {w : World} {b k : Nat} {z : Value} (x0 : α) (T : ElT P t e sz) (hz : tyZeroV P e = some z) (hx : z.cells.toList = enc x0) (ho : allOne (enc x0) = true) (hk : k ≤ lim) (s : Sat Γ K (MadeB b e z (k * sz) :: H) w) :
    Sat Γ K (OwnL enc (some ⟨b, 0, none⟩) e sz k (List.replicate k x0) :: H) w := by
  obtain ⟨ht, hsz, ⟨z', hz', hzs⟩, hpos, ⟨bytes, hby, hb2⟩⟩ := T
  obtain rfl : z = z' := by rw [hz] at hz'; exact Option.some.inj hz'
  have hcs : (enc x0).length = sz := by rw [← hx]; simpa using hzs
  have hml : maxLen = 9223372036854775807 := by decide
  have hmc : (madeCells z.cells (k * sz)).toList = ((List.replicate k x0).map enc).flatten := by
    have := made_flat z.cells.toList (by rw [hx, hcs]; exact hpos) k
    rw [hx, hcs] at this
    rw [List.map_replicate, ← this]
    congr 2
    rw [← hx]
  refine Sat.mkOwn (cur := madeCells z.cells (k * sz)) s (fun l hl => ?_) (fun l hl => ?_) ?_ (by simp) (by simp only [lim] at hk; rw [hml]; omega) (fun j v hj => ?_)
  · obtain ⟨x, hx', rfl⟩ := List.mem_map.1 hl
    rw [List.eq_of_mem_replicate hx']; exact hcs
  · obtain ⟨x, hx', rfl⟩ := List.mem_map.1 hl
    rw [List.eq_of_mem_replicate hx']; exact allOne_spec ho
  · simp [madeCells]
  · rw [← Array.getElem?_toList, hmc]; exact hj
variable {ops : Array Oper} {env : List Value} {Q : KP} {m : M} {root : Code} {n : Nat} {p : List Nat} {QC : Exit → KP}
end
theorem lim_n {n : Int} (h : 0 ≤ n ∧ n ≤ (lim : Int)) : n.toNat ≤ lim := by omega
end Go.SL
set_option linter.unusedVariables false
set_option linter.unusedSimpArgs false
namespace Go.SL
open Go
end Go.SL
