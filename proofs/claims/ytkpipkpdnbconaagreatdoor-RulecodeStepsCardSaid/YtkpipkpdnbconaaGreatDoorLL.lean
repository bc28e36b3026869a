/- The library: facts about walks, over any program. -/
import Derived.Test.YtkpipkpdnbconaaGreatDoorLK
import Derived.Lib.Join
set_option linter.unusedVariables false
set_option linter.unusedSimpArgs false
namespace Go.SL
open Go Go.RowKit
section
variable {P : Program}
theorem Sat.below {Γ : World} {K : Hp} {H : List HProp} {w w' : World} (s : Sat Γ K H w) (hb : Below w.heap.size w w') : Sat Γ K H w' := by
 have hg : ∀ (i : Nat) o, w.heap[i]? = some o → w'.heap[i]? = some o := fun i o hi => by rw [hb.block i (Array.getElem?_eq_some_iff.1 hi).1]; exact hi
 obtain ⟨h, d, x, y⟩ := s.heap
 exact ⟨hb.os.trans s.os, hb.tape.trans s.tape, hb.output.trans s.output, fun i o hi => hg i o (s.know i o hi), h, d, x, fun i o hi => hg i o (y i o hi)⟩
end
end Go.SL
set_option linter.unusedVariables false
set_option linter.unusedSimpArgs false
namespace Go.SL
open Go
section
variable {P : Program} {K K' : Hp} {H H' : List HProp} {α : Type} {R : Rp α} {e sz cap : Nat} {l : List α} {css : List (List Value)} {a : Option Addr}
theorem subL_get {β : Type} {l : List β} {hi : Int} {i : Nat} {x : β} (h : (subL l 0 hi)[i]? = some x) : l[i]? = some x := by
 unfold subL at h
 simp only [Int.toNat_zero, List.drop_zero] at h
 rw [List.getElem?_take] at h
 split at h
 ·exact h
 ·cases h
theorem LR.sub0 (hi : Int) (h : LR R K css l) : LR R K (subL css 0 hi) (subL l 0 hi) :=
 ⟨by unfold subL; simp [h.len], fun i c x h1 h2 => h.all i c x (subL_get h1) (subL_get h2)⟩
end
end Go.SL
set_option linter.unusedVariables false
set_option linter.unusedSimpArgs false
namespace Go.SL
open Go
end Go.SL
set_option linter.unusedVariables false
set_option linter.unusedSimpArgs false
namespace Go.SL
open Go
section
variable {P : Program} {α : Type} {enc : α → List Value} {K : Hp} {H : List HProp} {t e sz : Nat} {c : VP}
theorem mk_room {z : Value} {n : Int} (T : ElT P t e sz) (hz : tyZeroV P e = some z) (hn : 0 ≤ n ∧ n ≤ (lim : Int))
  (h : ∀ b, c (.slice (some ⟨b, 0, none⟩) 0 n.toNat) K (OwnL enc (some ⟨b, 0, none⟩) e sz n.toNat [] :: H)) : WStep P (.makeSlice t (.int .i64 0) (.int .i64 n)) K H c := by
 obtain ⟨ht, hsz, ⟨z', hz', hzs⟩, hpos, ⟨bytes, hby, hb2⟩⟩ := T
 obtain rfl : z = z' := by rw [hz] at hz'; exact Option.some.inj hz'
 obtain ⟨i, hi, hiz⟩ : ∃ i, P.info? e = some i ∧ i.zero = some z := by
  unfold tyZeroV at hz
  cases h : P.info? e with
  | none => simp [h] at hz
  | some i =>
   refine ⟨i, rfl, ?_⟩
   simp only [h] at hz
   cases h0 : i.zero with
   | none => simp [h0] at hz
   | some z' => simp [h0] at hz; rw [hz]
 have his : i.size = sz := by unfold tySize at hsz; simpa [hi] using hsz
 have hib : i.bytes = bytes := by unfold tyBytes at hby; simpa [hi] using hby
 have hl : (lim : Int) = 68719476736 := rfl
 have hml : maxLen = 9223372036854775807 := by decide
 refine ⟨fun Γ w s => ?_⟩
 have hrun := run_make (P := P) w t e i z ht hi hiz .i64 .i64 0 n (Int.le_refl _) hn.1 (by rw [hib]; have : (bytes : Int) * n ≤ 2048 * 68719476736 := Int.mul_le_mul (by omega) (by omega) hn.1 (by omega); omega) (by omega)
 refine ⟨_, w.alloc (.cells (madeCells z.cells (n.toNat * i.size)) e), .slice (some ⟨w.heap.size, 0, none⟩) 0 n.toNat, K, _, by simp [M.sem, hrun], .inl rfl, ?_, h w.heap.size⟩
 refine (Sat.push s).mkOwn (css := []) (fun l hl => by cases hl) (fun l hl => by cases hl) ?_ (by simp) (by rw [hml]; omega) (fun j v hj => by simp at hj)
 simp [madeCells, his]
end
end Go.SL
namespace Go.SL
open Go
theorem errV_cells (u : TypeId) (e : Err) : (errV u e).cells.toList = [errV u e] := by cases e <;> rfl
theorem errV_one (u : TypeId) (e : Err) : (errV u e).oneCell' = true := by cases e <;> rfl
theorem store_err {P : Program} {t b off : Nat} {T u : TypeId} {e : Err} {cs : List Value} {K : Hp} {H H' : List HProp} {c : VP} (hr : Rem (Cells b T cs) H H') (ht : tySize P t = some 1) (ho : Nat.ble (off + 1) cs.length = true)
  (h : force (splice off [errV u e] cs) fun cs' => c undef K (Cells b T cs' :: H')) : WStep P (.store t (.pointer (some ⟨b, off, none⟩)) (errV u e)) K H c := by
 refine store_rule hr ht ?_
 rw [cellsL_eq, errV_cells]
 exact ⟨rfl, by simp [allOne, errV_one], Nat.le_of_ble_eq_true ho, h⟩
end Go.SL
namespace Go.SL
open Go
section
variable {P : Program} {α : Type} {l : List α} {t sz cap : Nat} {a : Option Addr} {c : Value → Prop}
theorem sl_slN {e n : Nat} {lo hi : Option Int} {lo' hi' : Int} (hl : loI lo = lo') (hh : hiI l.length hi = hi') (ht : P.underlying t = some (.slice e)) (hsz : tySize P e = some sz) (hn : n = l.length) (hcap : n ≤ cap) (hb : 0 ≤ lo' ∧ lo' ≤ hi' ∧ hi' ≤ l.length)
  (h : c (.slice (subA a cap lo'.toNat sz) (subL l lo' hi').length (cap - lo'.toNat))) : NStep P (.slice t (.slice a n cap) (vI lo) (vI hi) none) c := by
 subst hl; subst hh
 exact sl_sl ht hsz hn hcap hb h
end
end Go.SL
set_option linter.unusedVariables false
set_option linter.unusedSimpArgs false
namespace Go.SL
open Go
section
variable {P : Program} {α : Type} {enc : α → List Value} {K K' : Hp} {H : List HProp} {g sz : Nat} {l : List α}
def GlL (enc : α → List Value) (sz g : Nat) (l : List α) (K : Hp) : Prop := ∃ (a : Option Addr) (n cap : Nat), n = l.length ∧ RdS K (some ⟨g, 0, none⟩) 1 [[.slice a n cap]] ∧ RdC enc K a cap sz l
theorem GlL.mono (h : GlL enc sz g l K) (hk : K.Le K') : GlL enc sz g l K' :=
 let ⟨a, n, cap, h1, h2, h3⟩ := h; ⟨a, n, cap, h1, h2.mono hk, h3.mono hk⟩
theorem g_load {t : TypeId} {v : Value} {c : Value → Prop} (hr : RdS K (some ⟨g, 0, none⟩) 1 [[v]]) (ht : tyShape P t = some none) (h : c v) : RStepS P (.load t (.pointer (some ⟨g, 0, none⟩))) K H c := by
 have := load_rd (P := P) (H := H) (k := 0) 0 0 [v] v hr ht rfl rfl rfl h
 rw [eptr_some] at this
 exact this
end
end Go.SL
