/- The library: facts about walks, over any program. -/
import Derived.Test.YtiaaooopklhobaaGreatDoorLC
import Derived.Laws.AppendOwn
import Derived.WalkKit
set_option linter.unusedVariables false
set_option linter.unusedSimpArgs false
set_option linter.unusedSectionVars false
namespace Go.SL
open Go
section
variable {P : Program}
def qe5 (n : Nat) (k : Nat → Prop) : Prop :=
 match n with
 | 0 => k 0 | 1 => k 1 | 2 => k 2 | 3 => k 3 | 4 => k 4 | 5 => k 5 | 6 => k 6 | 7 => k 7 | 8 => k 8 | 9 => k 9 | 10 => k 10 | 11 => k 11 | 12 => k 12 | 13 => k 13 | 14 => k 14 | 15 => k 15
 | 16 => k 16 | 17 => k 17 | 18 => k 18 | 19 => k 19 | 20 => k 20 | 21 => k 21 | 22 => k 22 | 23 => k 23
 | n => k n
theorem qck (n : Nat) (k : Nat → Prop) : qe5 n k = k n := by
 unfold qe5; split <;> rfl
def tyShape (P : Program) (t : TypeId) : Option (Option Nat) :=
 match P.underlying t, P.info? t with
 | some (.struct _), some i => some (some i.size)
 | some (.array _ _), some i => some (some i.size)
 | some _, some _ => some none
 | _, _ => none
def qbc (P : Program) (t : TypeId) : Option Nat := (P.info? t).map (·.size)
def qbk (P : Program) (t : TypeId) : Option Value := match (P.info? t).map (·.zero) with
 | some (some z) => some z
 | _ => none
theorem qbi {t : TypeId} {n : Nat} (h : qbc P t = some n) (w : World) : (sizeOf t).run P w = .ok n w := by
 unfold qbc at h
 cases hi : P.info? t with
 | none => simp [hi] at h
 | some i => simp [hi] at h; simp [sizeOf, typeInfo, hi, h]
theorem qdv {t : TypeId} {z : Value} (h : qbk P t = some z) (w : World) : (zeroValue t).run P w = .ok z w := by
 unfold qbk at h
 cases hi : P.info? t with
 | none => simp [hi] at h
 | some i =>
  simp only [hi, Option.map_some] at h
  cases hz : i.zero with
  | none => simp [hz] at h
  | some z' => simp [hz] at h; subst h; simp [zeroValue, typeInfo, hi, hz]
theorem qff {t : TypeId} (h : tyShape P t = some none) : ∀ w, (isAgg t).run P w = .ok false w := by
 intro w
 unfold tyShape at h
 split at h <;> simp at h
 rename_i d i hs ha hd hi
 unfold isAgg
 simp only [Sem.run_bind, run_underlying hd, Result.andThen_ok]
 rfl
theorem ql9 {t : TypeId} {n : Nat} (h : tyShape P t = some (some n)) : (∀ w, (isAgg t).run P w = .ok true w) ∧ qbc P t = some n := by
 unfold tyShape at h
 split at h <;> simp at h
 ·rename_i fs i hd hi
  subst h
  exact ⟨fun w => by simp [isAgg, run_underlying hd], by simp [qbc, hi]⟩
 ·rename_i a b i hd hi
  subst h
  exact ⟨fun w => by simp [isAgg, run_underlying hd], by simp [qbc, hi]⟩
abbrev Cells (b : Nat) (T : TypeId) (cs : List Value) : HProp := Blk b (.cells cs.toArray T (0, 0))
theorem qd3 {w : World} {b : Nat} {T : TypeId} {cs : List Value} {fz : Nat × Nat} (h : w.heap[b]? = some (.cells cs.toArray T fz)) (off : Nat) : w.cell? ⟨b, off, none⟩ = cs[off]? := by
 simp [World.cell?, h]
theorem qb4 {t : TypeId} {a : Addr} {v : Value} {w : World} (ht : tyShape P t = some none) (hc : w.cell? a = some v) : (loadVar t a).run P w = .ok v w := by
 simp [loadVar, qff ht, hc]
theorem qbj (b off n : Nat) : (⟨b, off, none⟩ : Addr).add n = ⟨b, off + n, none⟩ := by
 unfold Addr.add; split <;> simp_all
theorem qbs {t : TypeId} {n : Nat} {a : Addr} {vs : List Value} {w : World} (ht : tyShape P t = some (some n)) (hn : vs.length = n)
  (hc : ∀ j v, vs[j]? = some v → w.cell? (a.add j) = some v) : (loadVar t a).run P w = .ok (.agg vs.toArray) w := by
 have hs := ql9 ht
 have := run_loadCells_list (P := P) w a vs hc
 rw [hn] at this
 simp [loadVar, hs.1, qbi hs.2, this]
def cut : Nat → Nat → List Value → List Value
 | 0, 0, _ => []
 | 0, _ + 1, [] => []
 | 0, n + 1, v :: l => v :: cut 0 n l
 | _ + 1, _, [] => []
 | i + 1, n, _ :: l => cut i n l
theorem qg6 : ∀ (i n : Nat) (l : List Value), cut i n l = (l.drop i).take n
 | 0, 0, l => by simp [cut]
 | 0, n + 1, [] => by simp [cut]
 | 0, n + 1, v :: l => by simp [cut, qg6 0 n l]
 | i + 1, n, [] => by simp [cut]
 | i + 1, n, _ :: l => by simp [cut, qg6 i n l]
def splice : Nat → List Value → List Value → List Value
 | 0, [], l => l
 | 0, _ :: _, [] => []
 | 0, v :: vs, _ :: l => v :: splice 0 vs l
 | _ + 1, _, [] => []
 | i + 1, vs, x :: l => x :: splice i vs l
theorem qo5 {t b off : Nat} {T : TypeId} {cs : List Value} {v : Value} {K : Hp} {H H' : List HProp} {c : Value → Prop} (hr : Rem (Cells b T cs) H H') (ht : tyShape P t = some none)
  (hv : cs[off]? = some v) (h : c v) : RStepS P (.load t (.pointer (some ⟨b, off, none⟩))) K H c := by
 refine ⟨v, fun Γ w s => ?_, h⟩
 have hb := (s.rem hr).blk
 simp [M.sem, Instr.loadAt, Instr.sureAddr, qb4 ht ((qd3 hb off).trans hv)]
theorem qab {t b off n : Nat} {T : TypeId} {cs : List Value} {K : Hp} {H H' : List HProp} {c : Value → Prop} (hr : Rem (Cells b T cs) H H') (ht : tyShape P t = some (some n))
  (hl : off + n ≤ cs.length) (h : qe5 n fun n => qbx (cut off n cs) fun vs => c (.agg vs.toArray)) : RStepS P (.load t (.pointer (some ⟨b, off, none⟩))) K H c := by
 rw [qck, qa9] at h
 refine ⟨.agg (cut off n cs).toArray, fun Γ w s => ?_, h⟩
 have hb := (s.rem hr).blk
 have hlen : (cut off n cs).length = n := by rw [qg6]; simp; omega
 have := qbs (P := P) (a := ⟨b, off, none⟩) (w := w) ht hlen (fun j v hj => by
  rw [qbj, qd3 hb]
  rw [qg6] at hj
  simp only [List.getElem?_take, List.getElem?_drop] at hj
  split at hj
  ·exact hj
  ·cases hj)
 simp [M.sem, Instr.loadAt, Instr.sureAddr, this]
theorem qsk {d : DrI} {b : Nat} {o : Obj} (hm : (b, o) ∈ d.priv) {w : World} (hi : d.I w) : w.heap[b]? = some o := hi.2.1 _ hm
theorem qap {t b off : Nat} {T : TypeId} {cs : List Value} {v : Value} {d : DrI} {c : Value → Prop} (hm : (b, Obj.cells cs.toArray T (0, 0)) ∈ d.priv) (ht : tyShape P t = some none)
  (hv : cs[off]? = some v) (h : c v) : LStep P (.load t (.pointer (some ⟨b, off, none⟩))) d c := by
 refine ⟨v, fun w hi => ?_, h⟩
 simp [M.sem, Instr.loadAt, Instr.sureAddr, qb4 ht ((qd3 (qsk hm hi) off).trans hv)]
theorem qcg {t b off n : Nat} {T : TypeId} {cs : List Value} {d : DrI} {c : Value → Prop} (hm : (b, Obj.cells cs.toArray T (0, 0)) ∈ d.priv) (ht : tyShape P t = some (some n))
  (hl : off + n ≤ cs.length) (h : qe5 n fun n => qbx (cut off n cs) fun vs => c (.agg vs.toArray)) : LStep P (.load t (.pointer (some ⟨b, off, none⟩))) d c := by
 rw [qck, qa9] at h
 refine ⟨.agg (cut off n cs).toArray, fun w hi => ?_, h⟩
 have hlen : (cut off n cs).length = n := by rw [qg6]; simp; omega
 have := qbs (P := P) (a := ⟨b, off, none⟩) (w := w) ht hlen (fun j v hj => by
  rw [qbj, qd3 (qsk hm hi)]
  rw [qg6] at hj
  simp only [List.getElem?_take, List.getElem?_drop] at hj
  split at hj
  ·exact hj
  ·cases hj)
 simp [M.sem, Instr.loadAt, Instr.sureAddr, this]
theorem RStep.ofN {m : M} {K : Hp} {H : List HProp} {c : Value → Prop} (h : NStep P m c) : RStep P m K H c := by
 obtain ⟨v, h1, h2⟩ := h.elim
 exact ⟨fun Γ w s => ⟨v, h1 w, h2⟩⟩
theorem LStep.ofN {m : M} {d : DrI} {c : Value → Prop} (h : NStep P m c) : LStep P m d c := by
 obtain ⟨v, h1, h2⟩ := h.elim
 exact ⟨v, fun w _ => h1 w, h2⟩
theorem qj2 {w : World} {o : Obj} : (w.heap.push o)[w.heap.size]? = some o := by simp
theorem qj3 {w : World} {o : Obj} {i : Nat} (h : i ≠ w.heap.size) : (w.heap.push o)[i]? = w.heap[i]? := by
 rw [Array.getElem?_push]; simp [h]
theorem Sat.push {Γ : World} {K : Hp} {H : List HProp} {w : World} {o : Obj} (s : Sat Γ K H w) : Sat Γ K (Blk w.heap.size o :: H) { w with heap := w.heap.push o } :=
 s.new rfl rfl rfl (by simp) qj2 fun i hi => qj3 hi
theorem qai {t : TypeId} {z : Value} {K : Hp} {H : List HProp} {c : VP} (hz : qbk P t = some z)
  (h : ∀ b, qbx z.cells.toList fun vs => c (.pointer (some ⟨b, 0, none⟩)) K (Cells b t vs :: H)) : WStep P (.alloc t) K H c := by
 refine ⟨fun Γ w s => ?_⟩
 have := h w.heap.size
 rw [qa9] at this
 refine ⟨_, { w with heap := w.heap.push (.cells z.cells t) }, .pointer (some ⟨w.heap.size, 0, none⟩), K, _, ?_, .inl rfl, ?_, this⟩
 ·simp [M.sem, Instr.alloc, qdv hz, newVar, newRow]
 ·simpa using s.push (o := .cells z.cells t)
def cellsL : Value → (List Value → Prop) → Prop
 | .agg cs, k => qbx cs.toList k
 | v, k => k [v]
theorem qbm (v : Value) (k : List Value → Prop) : cellsL v k = k v.cells.toList := by
 cases v <;> simp [cellsL, Value.cells, qa9]
theorem qar {t : TypeId} {v : Value} {K : Hp} {H : List HProp} {c : VP} (h : ∀ b, cellsL v fun vs => c (.pointer (some ⟨b, 0, none⟩)) K (Cells b t vs :: H)) : WStep P (.box t v) K H c := by
 refine ⟨fun Γ w s => ?_⟩
 have := h w.heap.size
 rw [qbm] at this
 refine ⟨_, { w with heap := w.heap.push (.cells v.cells t) }, .pointer (some ⟨w.heap.size, 0, none⟩), K, _, ?_, .inl rfl, ?_, this⟩
 ·simp [M.sem, Instr.box, newVar, newRow]
 ·simpa using s.push (o := .cells v.cells t)
abbrev CellsF (b : Nat) (T : TypeId) (cs : List Value) (fz : Nat × Nat) : HProp := Blk b (.cells cs.toArray T fz)
theorem qkw {w : World} {b off : Nat} {T : TypeId} {cs : List Value} {fz : Nat × Nat} (hb : w.heap[b]? = some (.cells cs.toArray T fz)) (v : Value) :
  (w.setCell ⟨b, off, none⟩ v).heap[b]? = some (.cells (cs.set off v).toArray T fz) := by
 simp only [World.setCell, Array.getElem?_modify, if_true, hb, Option.map_some]
 simp
theorem Sat.storeCellsF {Γ : World} {K : Hp} {H : List HProp} {b : Nat} {T : TypeId} {fz : Nat × Nat} : ∀ (vs : List Value) (off i : Nat) (cs : List Value) (w : World), Sat Γ K (CellsF b T cs fz :: H) w → off + i + vs.length ≤ cs.length →
  (∀ v ∈ vs, v.oneCell' = true) → (fz = (0, 0) ∨ cs.length ≤ fz.1) → ∃ w', (Go.storeCells ⟨b, off, none⟩ vs i).run P w = .ok () w' ∧ Sat Γ K (CellsF b T (splice (off + i) vs cs) fz :: H) w'
 | [], off, i, cs, w, s, _, _, _ => ⟨w, by simp [Go.storeCells], by
   have : ∀ (n : Nat) (l : List Value), splice n [] l = l := by
    intro n; induction n with
    | zero => intro l; cases l <;> simp [splice]
    | succ n ih => intro l; cases l <;> simp [splice, ih]
   rw [this]; exact s⟩
 | v :: vs, off, i, cs, w, s, hl, hv, hfz0 => by
  have hb := s.blk
  simp only [List.length_cons] at hl
  have hcell : w.cell? ⟨b, off + i, none⟩ = some (cs[off + i]'(by omega)) := by
   rw [qd3 hb]; exact List.getElem?_eq_getElem (by omega)
  have hfz : w.frozen? ⟨b, off + i, none⟩ = false := by
   rcases hfz0 with rfl | hle
   ·simp [World.frozen?, hb]
   ·simp [World.frozen?, hb]; intro h; omega
  have s' : Sat Γ K (CellsF b T (cs.set (off + i) v) fz :: H) (w.setCell ⟨b, off + i, none⟩ v) :=
   s.upd (by simp [World.setCell]) (by simp [World.setCell]) (by simp [World.setCell]) (qkw hb v) fun j hj => by
    simp only [World.setCell, Array.getElem?_modify]; rw [qx1 (fun e => hj e.symm)]
  obtain ⟨w', hr, hs⟩ := Sat.storeCellsF vs off (i + 1) _ _ s' (by simp; omega) (fun u hu => hv u (by simp [hu])) (by simpa using hfz0)
  refine ⟨w', ?_, ?_⟩
  ·simp only [Go.storeCells, Sem.run_bind, qbj]
   rw [run_store P w _ v .plain (hv v (by simp))]
   simp [hcell, hfz, hr]
  ·have : ∀ (n : Nat) (l : List Value), n < l.length → splice (n + 1) vs (l.set n v) = splice n (v :: vs) l := by
    intro n; induction n with
    | zero => intro l hn; cases l with
     | nil => simp at hn
     | cons x l => simp [splice]
    | succ n ih => intro l hn; cases l with
     | nil => simp at hn
     | cons x l => simp only [List.set_cons_succ, splice]; rw [ih l (by simpa using hn)]
   rw [← this (off + i) cs (by omega)]
   exact hs
theorem Sat.storeCells {Γ : World} {K : Hp} {H : List HProp} {b : Nat} {T : TypeId} (vs : List Value) (off i : Nat) (cs : List Value) (w : World) (s : Sat Γ K (Cells b T cs :: H) w) (h : off + i + vs.length ≤ cs.length)
  (hv : ∀ v ∈ vs, v.oneCell' = true) : ∃ w', (Go.storeCells ⟨b, off, none⟩ vs i).run P w = .ok () w' ∧ Sat Γ K (Cells b T (splice (off + i) vs cs) :: H) w' :=
 Sat.storeCellsF vs off i cs w s h hv (.inl rfl)
def allOne : List Value → Bool
 | [] => true
 | v :: l => v.oneCell' && allOne l
theorem qbn : ∀ {l : List Value}, allOne l = true → ∀ v ∈ l, v.oneCell' = true
 | _ :: _, h, v, hv => by
  simp [allOne] at h
  rcases List.mem_cons.1 hv with rfl | hv
  ·exact h.1
  ·exact qbn h.2 v hv
theorem qaa {t b off : Nat} {T : TypeId} {cs : List Value} {v : Value} {n : Nat} {K : Hp} {H H' : List HProp} {c : VP} (hr : Rem (Cells b T cs) H H') (ht : qbc P t = some n)
  (h : cellsL v fun vs => n = vs.length ∧ allOne vs = true ∧ off + n ≤ cs.length ∧ qbx (splice off vs cs) fun cs' => c undef K (Cells b T cs' :: H')) : WStep P (.store t (.pointer (some ⟨b, off, none⟩)) v) K H c := by
 rw [qbm, qa9] at h
 obtain ⟨h1, h2, h3, h4⟩ := h
 refine ⟨fun Γ w s => ?_⟩
 obtain ⟨w', hrun, hs⟩ := Sat.storeCells (P := P) v.cells.toList off 0 cs w (s.rem hr) (by omega) (qbn h2)
 refine ⟨_, w', undef, K, _, ?_, .inr ⟨rfl, rfl⟩, hs, h4⟩
 have hsz : v.cells.size = n := by rw [h1]; simp
 simp [M.sem, Instr.storeAt, Instr.sureAddr, storeVar, qbi ht, hsz, hrun]
end
end Go.SL
