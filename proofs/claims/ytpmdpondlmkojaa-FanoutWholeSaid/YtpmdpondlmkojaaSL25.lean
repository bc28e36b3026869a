/- strings.Join of a slice that is read. -/
import Derived.Test.YtpmdpondlmkojaaSL24
import Derived.Lib.Join
set_option linter.unusedVariables false
set_option linter.unusedSimpArgs false
namespace Go.SL
open Go Go.RowKit
section
variable {P : Program}
theorem Sat.below {Γ : World} {K : Hp} {H : List HProp} {w w' : World} (s : Sat Γ K H w) (hb : Below w.heap.size w w') : Sat Γ K H w' := by
  have hg : ∀ (i : Nat) o, w.heap[i]? = some o → w'.heap[i]? = some o := fun i o hi => by rw [hb.block i (Array.getElem?_eq_some_iff.1 hi).1]; exact hi
  obtain ⟨h, d, x, y⟩ := s.heap
  exact ⟨hb.os.trans s.os, hb.tape.trans s.tape, hb.output.trans s.output, fun i o hi => hg i o (s.know i o hi), h, d, x, fun i o hi => hg i o (y i o hi)⟩
def joinM (l : List Str) (sep : Str) : Option Str := if l.length ≤ lim ∧ (Go.Lib.join l sep).length ≤ lim then some (Go.Lib.join l sep) else none
theorem joinM_some {l : List Str} {sep r : Str} (h : joinM l sep = some r) : l.length ≤ lim ∧ (Go.Lib.join l sep).length ≤ lim ∧ r = Go.Lib.join l sep := by
  unfold joinM at h; split at h
  · rename_i h1; cases h; exact ⟨h1.1, h1.2, rfl⟩
  · cases h
theorem join_gen {f : FuncId} (hc : ∀ a w, (callFunc f a).run P w = .ok (.enter f a) w)
    (h1 : ∀ (bk o c : Nat) (xs : List ByteArray) (sep : ByteArray) (w : World), (∀ (j : Nat) x, xs[j]? = some x → w.cell? ⟨bk, o + j, none⟩ = some (.string x)) → bk < w.heap.size → xs.length ≤ 140737488355328 → xs.length ≤ c →
      (Lib.join (xs.map (·.data.toList)) sep.data.toList).length ≤ 140737488355328 →
      Calls P f #[.slice (some ⟨bk, o, none⟩) xs.length c, .string sep] w fun e w' => e = .returned (.string ⟨(Lib.join (xs.map (·.data.toList)) sep.data.toList).toArray⟩) ∧ Below w.heap.size w w')
    (h0 : ∀ (a : Option Addr) (c : Nat) (sep : ByteArray) (w : World), Calls P f #[.slice a 0 c, .string sep] w fun e w' => e = .returned (.string ⟨#[]⟩) ∧ w' = w)
    {a : Option Addr} {n cap : Nat} {l : List Str} {sep r : Str} {K : Hp} (hm : joinM l sep = some r) (hr : RdC eS K a cap 1 l) (hn : n = l.length) :
    Fn P f [.slice a n cap, str sep] K [] (fun v K' H' => v = str r ∧ H' = []) := by
  obtain ⟨hl, hj, rfl⟩ := joinM_some hm
  subst hn
  refine ⟨hc, fun F Γ w s => ?_⟩
  match l, hr, hl, hj with
  | [], hr, hl, hj =>
    refine (h0 a cap _ w).mono fun e w' ⟨g1, g2⟩ => ?_
    subst g2
    exact ⟨_, K, [], g1, .refl _, ⟨rfl, rfl⟩, s⟩
  | x :: l, hr, hl, hj =>
    obtain ⟨b, off, cs, T, fz, rfl, hk, hcs⟩ := (show RdS K a 1 ((x :: l).map eS) from hr.rd).cells (by simp)
    have hw := s.know b _ hk
    have e1 : ((x :: l).map fun z : Str => (⟨z.toArray⟩ : ByteArray)).map (·.data.toList) = x :: l := by
      rw [List.map_map]
      have : ((fun b : ByteArray => b.data.toList) ∘ fun z : Str => (⟨z.toArray⟩ : ByteArray)) = id := by funext z; simp
      rw [this, List.map_id]
    have hfl : ∀ m : List Str, (m.map eS).flatten = m.map str := fun m => by
      induction m with
      | nil => rfl
      | cons x m ih => simp only [List.map_cons, List.flatten_cons, ih]; rfl
    have h := h1 b off cap ((x :: l).map fun z : Str => (⟨z.toArray⟩ : ByteArray)) ⟨sep.toArray⟩ w (fun j y hy => ?_) (Array.getElem?_eq_some_iff.1 hw).1 (by simp only [List.length_map, lim] at hl ⊢; omega) (by rw [List.length_map]; exact hr.le) (by rw [e1]; simp only [lim] at hj; exact Nat.le_trans hj (by omega))
    · rw [List.length_map] at h
      refine h.mono fun e w' ⟨g1, g2⟩ => ?_
      rw [e1] at g1
      exact ⟨_, K, [], g1, .refl _, ⟨rfl, rfl⟩, s.below g2⟩
    · have := hcs j (.string y) (by
        rw [hfl]
        simp only [List.getElem?_map] at hy ⊢
        cases q : (x :: l)[j]? with
        | none => rw [q] at hy; cases hy
        | some z => rw [q] at hy; cases hy; rfl)
      simp only [World.cell?, hw]
      simpa using this
end
end Go.SL
