/- The library: facts about walks, over any program. -/
import Derived.Test.YtmpdebfckeahmaaGreatDoorLK
import Derived.Lib.Join
set_option linter.unusedVariables false
set_option linter.unusedSimpArgs false
set_option linter.unusedSectionVars false
set_option linter.unusedVariables false
set_option linter.unusedSimpArgs false
namespace Go.SL
open Go Go.RowKit
section
variable {P : Program}
theorem Sat.below {Γ : World} {K : Hp} {H : List HProp} {w w' : World} (s : Sat Γ K H w) (hb : Below w.heap.size w w') : Sat Γ K H w' := by
 have hg : ∀ (i : Nat) o, w.heap[i]? = some o → w'.heap[i]? = some o := fun i o hi => by rw [hb.block i (Array.getElem?_eq_some_iff.1 hi).1]; exact hi
 obtain ⟨h, d, x, y⟩ := s.heap
 exact ⟨hb.os.trans s.os, hb.tape.trans s.tape, hb.output.trans s.output, fun i o hi => hg i o (s.know i o hi), h, d, x, fun i o hi => hg i o (y i o hi)⟩
def joinM (l : List Str) (sep : Str) : Option Str := if l.length ≤ lim ∧ (Go.Lib.join l sep).length ≤ lim then some (Go.Lib.join l sep) else none
theorem joinM_some {l : List Str} {sep r : Str} (h : joinM l sep = some r) : l.length ≤ lim ∧ (Go.Lib.join l sep).length ≤ lim ∧ r = Go.Lib.join l sep := by
 unfold joinM at h; split at h
 ·rename_i h1; cases h; exact ⟨h1.1, h1.2, rfl⟩
 ·cases h
theorem join_gen {f : FuncId} (hc : ∀ a w, (callFunc f a).run P w = .ok (.enter f a) w)
  (h1 : ∀ (bk o c : Nat) (xs : List ByteArray) (sep : ByteArray) (w : World), (∀ (j : Nat) x, xs[j]? = some x → w.cell? ⟨bk, o + j, none⟩ = some (.string x)) → bk < w.heap.size → xs.length ≤ 140737488355328 → xs.length ≤ c →
   (Lib.join (xs.map (·.data.toList)) sep.data.toList).length ≤ 140737488355328 →
   Calls P f #[.slice (some ⟨bk, o, none⟩) xs.length c, .string sep] w fun e w' => e = .returned (.string ⟨(Lib.join (xs.map (·.data.toList)) sep.data.toList).toArray⟩) ∧ Below w.heap.size w w')
  (h0 : ∀ (a : Option Addr) (c : Nat) (sep : ByteArray) (w : World), Calls P f #[.slice a 0 c, .string sep] w fun e w' => e = .returned (.string ⟨#[]⟩) ∧ w' = w)
  {a : Option Addr} {n cap : Nat} {l : List Str} {sep r : Str} {K : Hp} (hm : joinM l sep = some r) (hr : RdC eS K a cap 1 l) (hn : n = l.length) :
  Fn P f [.slice a n cap, str sep] K [] (fun v K' H' => v = str r ∧ H' = []) := by
 obtain ⟨hl, hj, rfl⟩ := joinM_some hm
 subst hn
 refine ⟨hc, fun F Γ w s => ?_⟩
 match l, hr, hl, hj with
 | [], hr, hl, hj =>
  refine (h0 a cap _ w).mono fun e w' ⟨g1, g2⟩ => ?_
  subst g2
  exact ⟨_, K, [], g1, .refl _, ⟨rfl, rfl⟩, s⟩
 | x :: l, hr, hl, hj =>
  obtain ⟨b, off, cs, T, fz, rfl, hk, hcs⟩ := (show RdS K a 1 ((x :: l).map eS) from hr.rd).cells (by simp)
  have hw := s.know b _ hk
  have e1 : ((x :: l).map fun z : Str => (⟨z.toArray⟩ : ByteArray)).map (·.data.toList) = x :: l := by
   rw [List.map_map]
   have : ((fun b : ByteArray => b.data.toList) ∘ fun z : Str => (⟨z.toArray⟩ : ByteArray)) = id := by funext z; simp
   rw [this, List.map_id]
  have hfl : ∀ m : List Str, (m.map eS).flatten = m.map str := fun m => by
   induction m with
   | nil => rfl
   | cons x m ih => simp only [List.map_cons, List.flatten_cons, ih]; rfl
  have h := h1 b off cap ((x :: l).map fun z : Str => (⟨z.toArray⟩ : ByteArray)) ⟨sep.toArray⟩ w (fun j y hy => ?_) (Array.getElem?_eq_some_iff.1 hw).1 (by simp only [List.length_map, lim] at hl ⊢; omega) (by rw [List.length_map]; exact hr.le) (by rw [e1]; simp only [lim] at hj; exact Nat.le_trans hj (by omega))
  ·rw [List.length_map] at h
   refine h.mono fun e w' ⟨g1, g2⟩ => ?_
   rw [e1] at g1
   exact ⟨_, K, [], g1, .refl _, ⟨rfl, rfl⟩, s.below g2⟩
  ·have := hcs j (.string y) (by
    rw [hfl]
    simp only [List.getElem?_map] at hy ⊢
    cases q : (x :: l)[j]? with
    | none => rw [q] at hy; cases hy
    | some z => rw [q] at hy; cases hy; rfl)
   simp only [World.cell?, hw]
   simpa using this
end
end Go.SL
set_option linter.unusedVariables false
set_option linter.unusedSimpArgs false
namespace Go.SL
open Go
section
variable {P : Program} {K K' : Hp} {H H' : List HProp} {α : Type} {R : Rp α} {e sz cap : Nat} {l : List α} {css : List (List Value)} {a : Option Addr}
theorem subL_get {β : Type} {l : List β} {hi : Int} {i : Nat} {x : β} (h : (subL l 0 hi)[i]? = some x) : l[i]? = some x := by
 unfold subL at h
 simp only [Int.toNat_zero, List.drop_zero] at h
 rw [List.getElem?_take] at h
 split at h
 ·exact h
 ·cases h
theorem LR.sub0 (hi : Int) (h : LR R K css l) : LR R K (subL css 0 hi) (subL l 0 hi) :=
 ⟨by unfold subL; simp [h.len], fun i c x h1 h2 => h.all i c x (subL_get h1) (subL_get h2)⟩
end
end Go.SL
set_option linter.unusedVariables false
set_option linter.unusedSimpArgs false
namespace Go.SL
open Go
section
variable {P : Program} {K K' : Hp} {H H' : List HProp} {α : Type} {R : Rp α} {e sz cap : Nat} {enc : α → List Value} {l : List α} {css : List (List Value)} {a : Option Addr}
theorem Sat.clipA {Γ : World} {w : World} (hr : Rem (OwnA a e sz cap css) H H') (s : Sat Γ K H w) : Sat Γ K (OwnA a e sz css.length css :: H') w := by
 obtain ⟨hl, ho, ⟨rfl, rfl, rfl, s0⟩ | ⟨b, cur, fz, hfz, rfl, k1, k2, k3, k4, s0⟩⟩ := (s.rem hr).own
 ·exact s0.mkNil
 ·exact s0.mkOwnF hfz hl ho (Nat.le_trans (Nat.mul_le_mul_right _ k2) k1) (Nat.le_refl _) (Nat.le_trans k2 k3) k4
theorem Sat.clip {Γ : World} {w : World} (hr : Rem (OwnL enc a e sz cap l) H H') (s : Sat Γ K H w) : Sat Γ K (OwnL enc a e sz l.length l :: H') w := by
 have := s.clipA (css := l.map enc) hr
 rw [List.length_map] at this
 exact this
end
end Go.SL
set_option linter.unusedVariables false
set_option linter.unusedSimpArgs false
namespace Go.SL
open Go
end Go.SL
namespace Go.SL
open Go
end Go.SL
namespace Go.SL
open Go
end Go.SL
set_option linter.unusedVariables false
set_option linter.unusedSimpArgs false
namespace Go.SL
open Go
section
variable {P : Program} {α : Type} {enc : α → List Value} {K K' : Hp} {H : List HProp} {g sz : Nat} {l : List α}
def GlL (enc : α → List Value) (sz g : Nat) (l : List α) (K : Hp) : Prop := ∃ (a : Option Addr) (n cap : Nat), n = l.length ∧ RdS K (some ⟨g, 0, none⟩) 1 [[.slice a n cap]] ∧ RdC enc K a cap sz l
theorem GlL.mono (h : GlL enc sz g l K) (hk : K.Le K') : GlL enc sz g l K' :=
 let ⟨a, n, cap, h1, h2, h3⟩ := h; ⟨a, n, cap, h1, h2.mono hk, h3.mono hk⟩
theorem g_load {t : TypeId} {v : Value} {c : Value → Prop} (hr : RdS K (some ⟨g, 0, none⟩) 1 [[v]]) (ht : tyShape P t = some none) (h : c v) : RStepS P (.load t (.pointer (some ⟨g, 0, none⟩))) K H c := by
 have := load_rd (P := P) (H := H) (k := 0) 0 0 [v] v hr ht rfl rfl rfl h
 rw [eptr_some] at this
 exact this
end
end Go.SL
