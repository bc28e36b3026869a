/- Contracts of Go's library that the kit has proved, in the terms of the rules; ranges over maps. -/
import Derived.Test.YtpmdpondlmkojaaSL15
import Derived.Shelf.Sort.Plain
import Derived.Shelf.Slices.In.SortNone
set_option linter.unusedVariables false
set_option linter.unusedSimpArgs false
namespace Go.SL
open Go

def sortS (l : List Str) : List Str := l.mergeSort fun x y => decide (x ≤ y)
def sortI (l : List Int) : List Int := l.mergeSort fun x y => decide (x ≤ y)
section
variable {P : Program} {α : Type} [Inhabited α]
theorem putCells_get (enc : α → Value) (off : Nat) (d : Array α) (c : Array Value) (k : Nat) : (Sort.putCells enc off d c)[k]? = (c[k]?).map fun x => if off ≤ k ∧ k < off + d.size then enc d[k - off]! else x := by
  unfold Sort.putCells
  simp
/-- A slice of one's own whose elements another array takes the place of. -/
theorem put_sat {enc : α → Value} {Γ : World} {K : Hp} {b e cap n : Nat} {l l' : List α} {F : List HProp} {w : World} {os : Array Obj} {fz : Nat × Nat} {cur : Array Value} (hfz : fz = (0, 0) ∨ cur.size ≤ fz.1) (k1 : cap ≤ cur.size) (k2 : l.length ≤ cap) (k3 : cap ≤ maxLen)
    (s : Sat Γ K (Blk b (.cells cur e fz) :: F) w) (hl : l'.length = l.length) (ho : ∀ x, (enc x).oneCell' = true) :
    Sat Γ K (OwnL (fun x => [enc x]) (some ⟨b, 0, none⟩) e 1 cap l' :: F) (Sort.grow (Sort.putRow enc (Sort.ahead w n) b 0 l'.toArray) os) := by
  have hb := s.blk
  have hblt : b < w.heap.size := (Array.getElem?_eq_some_iff.1 hb).1
  have h1 : (Sort.putRow enc (Sort.ahead w n) b 0 l'.toArray).heap[b]? = some (.cells (Sort.putCells enc 0 l'.toArray cur) e fz) := by
    simp only [Sort.putRow, Sort.mapBlock, Sort.ahead, Array.getElem?_modify, if_true, hb, Option.map_some, Sort.onCells]
  have h2 : ∀ i, i ≠ b → (Sort.putRow enc (Sort.ahead w n) b 0 l'.toArray).heap[i]? = w.heap[i]? := fun i hi => by
    simp only [Sort.putRow, Sort.mapBlock, Sort.ahead, Array.getElem?_modify]; rw [if_neg (fun e => hi e.symm)]
  have s1 : Sat Γ K (Blk b (.cells (Sort.putCells enc 0 l'.toArray cur) e fz) :: F) (Sort.putRow enc (Sort.ahead w n) b 0 l'.toArray) := s.upd rfl rfl rfl h1 h2
  have hgrow : ∀ i o, (Sort.putRow enc (Sort.ahead w n) b 0 l'.toArray).heap[i]? = some o → (Sort.grow (Sort.putRow enc (Sort.ahead w n) b 0 l'.toArray) os).heap[i]? = some o := fun i o h => by
    simp only [Sort.grow]
    rw [Array.getElem?_append_left (Array.getElem?_eq_some_iff.1 h).1]; exact h
  have s2 : Sat Γ K (Blk b (.cells (Sort.putCells enc 0 l'.toArray cur) e fz) :: F) (Sort.grow (Sort.putRow enc (Sort.ahead w n) b 0 l'.toArray) os) := by
    obtain ⟨h, d, x, y⟩ := s1.heap
    exact ⟨s1.os, s1.tape, s1.output, fun i o hi => hgrow i o (s1.know i o hi), h, d, x, fun i o hi => hgrow i o (y i o hi)⟩
  have hsz : (Sort.putCells enc 0 l'.toArray cur).size = cur.size := by simp [Sort.putCells]
  refine s2.mkOwnF (by rw [hsz]; exact hfz) (by simp) (by simp; exact fun x _ => ho x) (by rw [hsz, Nat.mul_one]; exact k1) (by simpa [hl] using k2) k3 ?_
  intro i v hv
  have hfl : ∀ (m : List α), (m.map fun x => [enc x]).flatten = m.map enc := fun m => by induction m with
    | nil => rfl
    | cons x m ih => simp [ih]
  rw [hfl] at hv
  have hlt : i < l'.length := by have := (List.getElem?_eq_some_iff.1 hv).1; simpa using this
  rw [putCells_get]
  have hcur : cur[i]? = some cur[i]! := by
    have : i < cur.size := by omega
    simp [this]
  rw [hcur]
  simp only [Option.map_some, Nat.zero_le, Nat.zero_add, true_and, List.size_toArray, hlt, if_true, Nat.sub_zero]
  rw [List.getElem?_map, List.getElem?_eq_getElem hlt] at hv
  simp only [Option.map_some, Option.some.injEq] at hv
  rw [← hv]
  simp [hlt]
end
section
variable {P : Program} {α : Type} [Inhabited α]
theorem sort_gen {f : FuncId} (enc : α → Value) (ho : ∀ x, (enc x).oneCell' = true) (le : α → α → Bool) (hc : ∀ a w, (callFunc f a).run P w = .ok (.enter f a) w)
    (h1 : ∀ (blk off cap : Nat) (ss : List α) (w : World), Sort.Holds enc w blk off ss.toArray → blk < w.heap.size → ss.length < 4611686018427387904 →
      Calls P f #[.slice (some ⟨blk, off, none⟩) ss.length cap] w fun e w' => e = .returned (.tuple #[]) ∧ ∃ n os, w' = Sort.grow (Sort.putRow enc (Sort.ahead w n) blk off (ss.mergeSort le).toArray) os)
    (h0 : ∀ (p : Option Addr) (cap : Nat) (w : World), Calls P f #[.slice p 0 cap] w fun e w' => e = .returned (.tuple #[]) ∧ w' = w)
    {a : Option Addr} {n e cap : Nat} {l : List α} {K : Hp} (hl : l.length ≤ lim) (hn : n = l.length) :
    Fn P f [.slice a n cap] K [OwnL (fun x => [enc x]) a e 1 cap l] (fun v K' H' => v = .tuple #[] ∧ H' = [OwnL (fun x => [enc x]) a e 1 cap (l.mergeSort le)]) := by
  subst hn
  refine ⟨hc, fun F Γ w s => ?_⟩
  obtain ⟨hll, hoo, ⟨rfl, rfl, hn, s1⟩ | ⟨b, cur, fz, hfz, rfl, k1, k2, k3, k4, s1⟩⟩ := (show Sat Γ K (OwnA a e 1 cap (l.map fun x => [enc x]) :: [F]) w from s).own
  · have hn : l = [] := by simpa using hn
    subst hn
    refine (h0 none 0 w).mono fun e' w' ⟨g1, g2⟩ => ?_
    subst g2
    exact ⟨_, K, _, g1, .refl _, ⟨rfl, rfl⟩, by simpa using s⟩
  · rw [Nat.mul_one] at k1
    have hb := s1.blk
    have hflat : ∀ m : List α, (m.map fun x => [enc x]).flatten = m.map enc := fun m => by
      induction m with
      | nil => rfl
      | cons x m ih => simp [ih]
    refine (h1 b 0 cap l w (fun j hj => ?_) (Array.getElem?_eq_some_iff.1 hb).1 (by simp only [lim] at hl; omega)).mono fun e' w' ⟨g1, m, os, g2⟩ => ?_
    · have hj' : j < l.length := by simpa using hj
      have hc4 := k4 j (enc l[j]) (by rw [hflat l]; simp [hj'])
      have hjc : j < cur.size := (Array.getElem?_eq_some_iff.1 hc4).1
      constructor
      · simp only [World.cell?, hb, Nat.zero_add]
        simp only [Option.isSome_none, Bool.false_eq_true, if_false]
        rw [hc4]
        simp [hj']
      · simp only [World.frozen?, hb, Nat.zero_add]
        rcases hfz with rfl | h
        · simp
        · simp; intro h'; omega
    · subst g2
      refine ⟨_, K, _, g1, .refl _, ⟨rfl, rfl⟩, ?_⟩
      have := put_sat (enc := enc) (n := m) (os := os) (l := l) (l' := l.mergeSort le) hfz k1 (by simpa using k2) k3 s1 (by simp [List.length_mergeSort]) ho
      exact this
end
def sortSM (l : List Str) : Option (List Str) := if l.length ≤ lim then some (sortS l) else none
def sortIM (l : List Int) : Option (List Int) := if l.length ≤ lim then some (sortI l) else none
theorem sortSM_some {l r : List Str} (h : sortSM l = some r) : l.length ≤ lim ∧ r = l.mergeSort fun x y => decide (x ≤ y) := by
  unfold sortSM at h; split at h
  · rename_i h1; cases h; exact ⟨h1, rfl⟩
  · cases h
theorem sortIM_some {l r : List Int} (h : sortIM l = some r) : l.length ≤ lim ∧ r = l.mergeSort fun x y => decide (x ≤ y) := by
  unfold sortIM at h; split at h
  · rename_i h1; cases h; exact ⟨h1, rfl⟩
  · cases h
theorem sortSM_len {l r : List Str} (h : sortSM l = some r) : r.length = l.length := by
  obtain ⟨_, rfl⟩ := sortSM_some h; exact List.length_mergeSort _
theorem sortIM_len {l r : List Int} (h : sortIM l = some r) : r.length = l.length := by
  obtain ⟨_, rfl⟩ := sortIM_some h; exact List.length_mergeSort _
end Go.SL
