/- The library: facts about walks, over any program. -/
import Derived.Test.YtiaaooopklhobaaGreatDoorLJ
import Derived.Lib.SlicesCompact
import Derived.Lib.RowBridge
import Derived.Shelf.Slices.CompactS
set_option linter.unusedVariables false
set_option linter.unusedSimpArgs false
set_option linter.unusedSectionVars false
namespace Go.SL
open Go
section
variable {P : Program}
abbrev qu3 : Str → Value := fun l => Value.string ⟨l.toArray⟩
def qe0 (l : List Str) : Option (List Str) := if l.length ≤ lim then some (Go.Lib.compact l) else none
theorem qf6 {l r : List Str} (h : qe0 l = some r) : l.length ≤ lim ∧ r = Go.Lib.compact l := by
 unfold qe0 at h; split at h
 ·rename_i h1; cases h; exact ⟨h1, rfl⟩
 ·cases h
theorem qdk {l r : List Str} (h : qe0 l = some r) (hr : 0 < r.length) : 0 < l.length := by
 obtain ⟨_, rfl⟩ := qf6 h
 exact Nat.lt_of_lt_of_le hr (Go.Lib.compact_length_le l)
theorem qmk {f : FuncId} (hc : ∀ a w, (callFunc f a).run P w = .ok (.enter f a) w)
  (h1 : ∀ (blk off cap : Nat) (zs : List Str) (w : World), Sort.Holds qu3 w blk off zs.toArray → zs.length ≤ 9223372036854775807 → zs.length ≤ cap →
   Calls P f #[.slice (some ⟨blk, off, none⟩) zs.length cap] w fun e w' => e = .returned (.slice (some ⟨blk, off, none⟩) (Go.Lib.compact zs).length cap) ∧ ∃ q, w' = Sort.putRow qu3 (Sort.ahead w q) blk off (Go.Lib.compact zs ++ List.replicate (zs.length - (Go.Lib.compact zs).length) []).toArray)
  (h0 : ∀ (a : Option Addr) (cap : Nat) (w : World), Calls P f #[.slice a 0 cap] w fun e w' => e = .returned (.slice a 0 cap) ∧ w' = w)
  {a : Option Addr} {n e cap : Nat} {l r : List Str} {K : Hp} (hm : qe0 l = some r) (hn : n = l.length) :
  Fn P f [.slice a n cap] K [OwnL eS a e 1 cap l] (fun v K' H' => v = .slice a r.length cap ∧ H' = [OwnL eS a e 1 cap r]) := by
 obtain ⟨hl, rfl⟩ := qf6 hm
 subst hn
 refine ⟨hc, fun F Γ w s => ?_⟩
 obtain ⟨hll, hoo, ⟨rfl, rfl, hn, s1⟩ | ⟨b, cur, fz, hfz, rfl, k1, k2, k3, k4, s1⟩⟩ := (show Sat Γ K (OwnA a e 1 cap (l.map eS) :: [F]) w from s).own
 ·have hn : l = [] := by simpa using hn
  subst hn
  refine (h0 none 0 w).mono fun e' w' ⟨g1, g2⟩ => ?_
  subst g2
  exact ⟨_, K, _, g1, .refl _, ⟨rfl, rfl⟩, s⟩
 ·rw [Nat.mul_one] at k1
  have hb := s1.blk
  have hflat : ∀ m : List Str, (m.map eS).flatten = m.map qu3 := fun m => by
   induction m with
   | nil => rfl
   | cons x m ih => simp only [List.map_cons, List.flatten_cons, ih]; rfl
  have k2' : l.length ≤ cap := by simpa using k2
  refine (h1 b 0 cap l w (fun j hj => ?_) (by simp only [lim] at hl; omega) k2').mono fun e' w' ⟨g1, m, g2⟩ => ?_
  ·have hj' : j < l.length := by simpa using hj
   have hc4 := k4 j (qu3 l[j]) (by rw [hflat l]; simp [hj'])
   have hjc : j < cur.size := (Array.getElem?_eq_some_iff.1 hc4).1
   constructor
   ·simp only [World.cell?, hb, Nat.zero_add]
    simp only [Option.isSome_none, Bool.false_eq_true, if_false]
    rw [hc4]
    simp [hj']
   ·simp only [World.frozen?, hb, Nat.zero_add]
    rcases hfz with rfl | h
    ·simp
    ·simp; intro h'; omega
  ·subst g2
   have hcl := Go.Lib.compact_length_le l
   refine ⟨_, K, [OwnL eS (some ⟨b, 0, none⟩) e 1 cap (Go.Lib.compact l)], g1, .refl _, ⟨rfl, rfl⟩, ?_⟩
   have hp := qpe (enc := qu3) (n := m) (os := #[]) (l := l) (l' := Go.Lib.compact l ++ List.replicate (l.length - (Go.Lib.compact l).length) []) hfz k1 k2' k3 s1 (by simp; omega) (fun _ => rfl)
   rw [show ∀ w : World, Sort.grow w #[] = w from fun w => by simp [Sort.grow]] at hp
   have ht := Sat.tk (enc := eS) .here ((Go.Lib.compact l).length : Int) hp
   rw [show subL (Go.Lib.compact l ++ List.replicate (l.length - (Go.Lib.compact l).length) []) 0 ((Go.Lib.compact l).length : Int) = Go.Lib.compact l from by simp [subL]] at ht
   exact ht
theorem RdC.none_nil {α : Type} {enc : α → List Value} {K : Hp} {cap sz : Nat} {l : List α} (h : RdC enc K none cap sz l) : l = [] := by
 cases l with
 | nil => rfl
 | cons x l =>
  obtain ⟨b, off, e⟩ := (RdS.has h.rd (by simp))
  cases e
end
open Go
section
variable {P : Program}
theorem qml {t e : TypeId} {a : Option Addr} {n m : Nat} {xo yo : Operand} {c : Value → Prop} (ha : a ≠ none) (ht : P.underlying t = some (.slice e)) (h : c (.bool false)) : NStep P (.bin .eql t xo yo (.slice a n m) (.slice none 0 0)) c := by
 cases a with
 | none => exact absurd rfl ha
 | some a => exact qky ht h
end
open Go
section
variable {P : Program} {α : Type} {ops : Array Oper} {env : List Value} {K : Hp} {H H' : List HProp} {Q : KP} {enc : α → List Value} {a : Option Addr} {e sz cap : Nat} {l : List α}
theorem DStep.conv (h : ∀ Γ w, Sat Γ K H w → ∃ K' H', Sat Γ K' H' w ∧ DStep P ops env K' H' Q) : DStep P ops env K H Q :=
 ⟨fun Γ w s id Q' hQ => let ⟨_, _, s', h'⟩ := h Γ w s; h'.out Γ w s' id Q' hQ⟩
end
end Go.SL
