/- The library: facts about walks, over any program. -/
import Derived.Test.YtiaaooopklhobaaGreatDoorLK
import Derived.Lib.Join
set_option linter.unusedVariables false
set_option linter.unusedSimpArgs false
set_option linter.unusedSectionVars false
namespace Go.SL
open Go Go.RowKit
section
variable {P : Program}
theorem Sat.below {Γ : World} {K : Hp} {H : List HProp} {w w' : World} (s : Sat Γ K H w) (hb : Below w.heap.size w w') : Sat Γ K H w' := by
 have hg : ∀ (i : Nat) o, w.heap[i]? = some o → w'.heap[i]? = some o := fun i o hi => by rw [hb.block i (Array.getElem?_eq_some_iff.1 hi).1]; exact hi
 obtain ⟨h, d, x, y⟩ := s.heap
 exact ⟨hb.os.trans s.os, hb.tape.trans s.tape, hb.output.trans s.output, fun i o hi => hg i o (s.know i o hi), h, d, x, fun i o hi => hg i o (y i o hi)⟩
def qog (l : List Str) (sep : Str) : Option Str := if l.length ≤ lim ∧ (Go.Lib.join l sep).length ≤ lim then some (Go.Lib.join l sep) else none
theorem qoh {l : List Str} {sep r : Str} (h : qog l sep = some r) : l.length ≤ lim ∧ (Go.Lib.join l sep).length ≤ lim ∧ r = Go.Lib.join l sep := by
 unfold qog at h; split at h
 ·rename_i h1; cases h; exact ⟨h1.1, h1.2, rfl⟩
 ·cases h
theorem qrk {f : FuncId} (hc : ∀ a w, (callFunc f a).run P w = .ok (.enter f a) w)
  (h1 : ∀ (bk o c : Nat) (xs : List ByteArray) (sep : ByteArray) (w : World), (∀ (j : Nat) x, xs[j]? = some x → w.cell? ⟨bk, o + j, none⟩ = some (.string x)) → bk < w.heap.size → xs.length ≤ 140737488355328 → xs.length ≤ c →
   (Lib.join (xs.map (·.data.toList)) sep.data.toList).length ≤ 140737488355328 →
   Calls P f #[.slice (some ⟨bk, o, none⟩) xs.length c, .string sep] w fun e w' => e = .returned (.string ⟨(Lib.join (xs.map (·.data.toList)) sep.data.toList).toArray⟩) ∧ Below w.heap.size w w')
  (h0 : ∀ (a : Option Addr) (c : Nat) (sep : ByteArray) (w : World), Calls P f #[.slice a 0 c, .string sep] w fun e w' => e = .returned (.string ⟨#[]⟩) ∧ w' = w)
  {a : Option Addr} {n cap : Nat} {l : List Str} {sep r : Str} {K : Hp} (hm : qog l sep = some r) (hr : RdC eS K a cap 1 l) (hn : n = l.length) :
  Fn P f [.slice a n cap, str sep] K [] (fun v K' H' => v = str r ∧ H' = []) := by
 obtain ⟨hl, hj, rfl⟩ := qoh hm
 subst hn
 refine ⟨hc, fun F Γ w s => ?_⟩
 match l, hr, hl, hj with
 | [], hr, hl, hj =>
  refine (h0 a cap _ w).mono fun e w' ⟨g1, g2⟩ => ?_
  subst g2
  exact ⟨_, K, [], g1, .refl _, ⟨rfl, rfl⟩, s⟩
 | x :: l, hr, hl, hj =>
  obtain ⟨b, off, cs, T, fz, rfl, hk, hcs⟩ := (show RdS K a 1 ((x :: l).map eS) from hr.rd).cells (by simp)
  have hw := s.know b _ hk
  have e1 : ((x :: l).map fun z : Str => (⟨z.toArray⟩ : ByteArray)).map (·.data.toList) = x :: l := by
   rw [List.map_map]
   have : ((fun b : ByteArray => b.data.toList) ∘ fun z : Str => (⟨z.toArray⟩ : ByteArray)) = id := by funext z; simp
   rw [this, List.map_id]
  have hfl : ∀ m : List Str, (m.map eS).flatten = m.map str := fun m => by
   induction m with
   | nil => rfl
   | cons x m ih => simp only [List.map_cons, List.flatten_cons, ih]; rfl
  have h := h1 b off cap ((x :: l).map fun z : Str => (⟨z.toArray⟩ : ByteArray)) ⟨sep.toArray⟩ w (fun j y hy => ?_) (Array.getElem?_eq_some_iff.1 hw).1 (by simp only [List.length_map, lim] at hl ⊢; omega) (by rw [List.length_map]; exact hr.le) (by rw [e1]; simp only [lim] at hj; exact Nat.le_trans hj (by omega))
  ·rw [List.length_map] at h
   refine h.mono fun e w' ⟨g1, g2⟩ => ?_
   rw [e1] at g1
   exact ⟨_, K, [], g1, .refl _, ⟨rfl, rfl⟩, s.below g2⟩
  ·have := hcs j (.string y) (by
    rw [hfl]
    simp only [List.getElem?_map] at hy ⊢
    cases q : (x :: l)[j]? with
    | none => rw [q] at hy; cases hy
    | some z => rw [q] at hy; cases hy; rfl)
   simp only [World.cell?, hw]
   simpa using this
end
open Go
open Go
section
variable {P : Program} {K K' : Hp} {H H' : List HProp} {α : Type} {R : Rp α} {e sz cap : Nat} {enc : α → List Value} {l : List α} {css : List (List Value)} {a : Option Addr}
theorem Sat.clipA {Γ : World} {w : World} (hr : Rem (OwnA a e sz cap css) H H') (s : Sat Γ K H w) : Sat Γ K (OwnA a e sz css.length css :: H') w := by
 obtain ⟨hl, ho, ⟨rfl, rfl, rfl, s0⟩ | ⟨b, cur, fz, hfz, rfl, k1, k2, k3, k4, s0⟩⟩ := (s.rem hr).own
 ·exact s0.mkNil
 ·exact s0.mkOwnF hfz hl ho (Nat.le_trans (Nat.mul_le_mul_right _ k2) k1) (Nat.le_refl _) (Nat.le_trans k2 k3) k4
theorem Sat.clip {Γ : World} {w : World} (hr : Rem (OwnL enc a e sz cap l) H H') (s : Sat Γ K H w) : Sat Γ K (OwnL enc a e sz l.length l :: H') w := by
 have := s.clipA (css := l.map enc) hr
 rw [List.length_map] at this
 exact this
end
open Go
section
variable {P : Program} {α : Type} {enc : α → List Value} {K : Hp} {H : List HProp} {t e sz : Nat} {c : VP}
theorem qtu {z : Value} {n : Int} (T : ElT P t e sz) (hz : qbk P e = some z) (hn : 0 ≤ n ∧ n ≤ (lim : Int))
  (h : ∀ b, c (.slice (some ⟨b, 0, none⟩) 0 n.toNat) K (OwnL enc (some ⟨b, 0, none⟩) e sz n.toNat [] :: H)) : WStep P (.makeSlice t (.int .i64 0) (.int .i64 n)) K H c := by
 obtain ⟨ht, hsz, ⟨z', hz', hzs⟩, hpos, ⟨bytes, hby, hb2⟩⟩ := T
 obtain rfl : z = z' := by rw [hz] at hz'; exact Option.some.inj hz'
 obtain ⟨i, hi, hiz⟩ : ∃ i, P.info? e = some i ∧ i.zero = some z := by
  unfold qbk at hz
  cases h : P.info? e with
  | none => simp [h] at hz
  | some i =>
   refine ⟨i, rfl, ?_⟩
   simp only [h] at hz
   cases h0 : i.zero with
   | none => simp [h0] at hz
   | some z' => simp [h0] at hz; rw [hz]
 have his : i.size = sz := by unfold qbc at hsz; simpa [hi] using hsz
 have hib : i.bytes = bytes := by unfold qej at hby; simpa [hi] using hby
 have hl : (lim : Int) = 68719476736 := rfl
 have hml : maxLen = 9223372036854775807 := by decide
 refine ⟨fun Γ w s => ?_⟩
 have hrun := run_make (P := P) w t e i z ht hi hiz .i64 .i64 0 n (Int.le_refl _) hn.1 (by rw [hib]; have : (bytes : Int) * n ≤ 2048 * 68719476736 := Int.mul_le_mul (by omega) (by omega) hn.1 (by omega); omega) (by omega)
 refine ⟨_, w.alloc (.cells (madeCells z.cells (n.toNat * i.size)) e), .slice (some ⟨w.heap.size, 0, none⟩) 0 n.toNat, K, _, by simp [M.sem, hrun], .inl rfl, ?_, h w.heap.size⟩
 refine (Sat.push s).mkOwn (css := []) (fun l hl => by cases hl) (fun l hl => by cases hl) ?_ (by simp) (by rw [hml]; omega) (fun j v hj => by simp at hj)
 simp [madeCells, his]
end
open Go
theorem qoi (u : TypeId) (e : Err) : (qc3 u e).cells.toList = [qc3 u e] := by cases e <;> rfl
theorem qrl (u : TypeId) (e : Err) : (qc3 u e).oneCell' = true := by cases e <;> rfl
theorem qpm {P : Program} {t b off : Nat} {T u : TypeId} {e : Err} {cs : List Value} {K : Hp} {H H' : List HProp} {c : VP} (hr : Rem (Cells b T cs) H H') (ht : qbc P t = some 1) (ho : Nat.ble (off + 1) cs.length = true)
  (h : qbx (splice off [qc3 u e] cs) fun cs' => c undef K (Cells b T cs' :: H')) : WStep P (.store t (.pointer (some ⟨b, off, none⟩)) (qc3 u e)) K H c := by
 refine qaa hr ht ?_
 rw [qbm, qoi]
 exact ⟨rfl, by simp [allOne, qrl], Nat.le_of_ble_eq_true ho, h⟩
open Go
section
variable {P : Program} {α : Type} {l : List α} {t sz cap : Nat} {a : Option Addr} {c : Value → Prop}
theorem qsn {e n : Nat} {lo hi : Option Int} {lo' hi' : Int} (hl : loI lo = lo') (hh : hiI l.length hi = hi') (ht : P.underlying t = some (.slice e)) (hsz : qbc P e = some sz) (hn : n = l.length) (hcap : n ≤ cap) (hb : 0 ≤ lo' ∧ lo' ≤ hi' ∧ hi' ≤ l.length)
  (h : c (.slice (subA a cap lo'.toNat sz) (subL l lo' hi').length (cap - lo'.toNat))) : NStep P (.slice t (.slice a n cap) (vI lo) (vI hi) none) c := by
 subst hl; subst hh
 exact qrb ht hsz hn hcap hb h
end
open Go
section
variable {P : Program} {α : Type} {enc : α → List Value} {K K' : Hp} {H : List HProp} {g sz : Nat} {l : List α}
def GlL (enc : α → List Value) (sz g : Nat) (l : List α) (K : Hp) : Prop := ∃ (a : Option Addr) (n cap : Nat), n = l.length ∧ RdS K (some ⟨g, 0, none⟩) 1 [[.slice a n cap]] ∧ RdC enc K a cap sz l
theorem GlL.mono (h : GlL enc sz g l K) (hk : K.Le K') : GlL enc sz g l K' :=
 let ⟨a, n, cap, h1, h2, h3⟩ := h; ⟨a, n, cap, h1, h2.mono hk, h3.mono hk⟩
theorem qnk {t : TypeId} {v : Value} {c : Value → Prop} (hr : RdS K (some ⟨g, 0, none⟩) 1 [[v]]) (ht : tyShape P t = some none) (h : c v) : RStepS P (.load t (.pointer (some ⟨g, 0, none⟩))) K H c := by
 have := qb1 (P := P) (H := H) (k := 0) 0 0 [v] v hr ht rfl rfl rfl h
 rw [qbt] at this
 exact this
end
end Go.SL
