/- The library: facts about walks, over any program. -/
import Derived.Test.YtiaaooopklhobaaGreatDoorLM
import Derived.Lib.SlTrimSet
import Derived.Lib.Bytealg
set_option linter.unusedVariables false
set_option linter.unusedSimpArgs false
set_option linter.unusedSectionVars false
namespace Go.SL
open Go Go.RowKit
section
variable {P : Program}
def qmm (s cut : Str) : Option Str := if s.length ≤ 4611686018427387904 ∧ (cut.length ≤ 1000 ∧ (cut.all fun b => decide (b.toNat < 128)) = true) then some (Go.Lib.trimS s cut) else none
theorem qoj {s cut r : Str} (h : qmm s cut = some r) : s.length ≤ 4611686018427387904 ∧ cut.length ≤ 1000 ∧ (cut.all fun b => decide (b.toNat < 128)) = true ∧ r = Go.Lib.trimS s cut := by
 unfold qmm at h; split at h
 ·rename_i h1; cases h; exact ⟨h1.1, h1.2.1, h1.2.2, rfl⟩
 ·cases h
theorem qrm {f : FuncId} (hc : ∀ a w, (callFunc f a).run P w = .ok (.enter f a) w)
  (h1 : ∀ (s cutset : ByteArray) (w : World), s.size ≤ 9223372036854775807 → cutset.size < 4294967281 → (∀ (j : Nat) b, cutset.data.toList[j]? = some b → b.toNat < 128) →
   Calls P f #[.string s, .string cutset] w fun e w' => e = .returned (.string ⟨(Lib.trimS s.data.toList cutset.data.toList).toArray⟩) ∧ Below w.heap.size w w')
  {s cut r : Str} {K : Hp} (hm : qmm s cut = some r) : Fn P f [str s, str cut] K [] (fun v K' H' => v = str r ∧ H' = []) := by
 obtain ⟨h2, h3, h4, rfl⟩ := qoj hm
 refine ⟨hc, fun F Γ w st => ?_⟩
 refine (h1 ⟨s.toArray⟩ ⟨cut.toArray⟩ w (by simp [ByteArray.size]; omega) (by simp [ByteArray.size]; omega) (fun j b hb => ?_)).mono fun e w' ⟨g1, g2⟩ => ?_
 ·have hm := List.mem_of_getElem? (show cut[j]? = some b by simpa using hb)
  exact of_decide_eq_true (List.all_eq_true.1 h4 b hm)
 ·exact ⟨_, K, [], g1, .refl _, ⟨rfl, rfl⟩, st.below g2⟩
def qil (s : Str) (c : UInt8) : Option Int := some (Go.Lib.indexByte s c)
theorem qtv {f : FuncId} (hc : ∀ a w, (callFunc f a).run P w = .ok (.enter f a) w)
  (h1 : ∀ (s : ByteArray) (c : Int) (w : World), Calls P f #[.string s, .int .u8 c] w fun e w' => e = .returned (.int .i64 (Lib.indexByte s.data.toList c.toNat.toUInt8)) ∧ w' = w)
  {s : Str} {c : UInt8} {r : Int} {K : Hp} (hm : qil s c = some r) : Fn P f [str s, .int .u8 (c.toNat : Int)] K [] (fun v K' H' => v = .int .i64 r ∧ H' = []) := by
 unfold qil at hm
 cases hm
 refine ⟨hc, fun F Γ w st => ?_⟩
 refine (h1 ⟨s.toArray⟩ (c.toNat : Int) w).mono fun e w' ⟨g1, g2⟩ => ?_
 subst g2
 refine ⟨_, K, [], g1, .refl _, ⟨?_, rfl⟩, st⟩
 simp
end
open Go
section
variable {P : Program} {α : Type} {sz cap : Nat} {l : List α} {a : Option Addr} {c : Value → Prop}
theorem qtw {t e n : Nat} {hi : Option Int} (ht : P.underlying t = some (.slice e)) (hsz : qbc P e = some sz) (hn : n = l.length) (hcap : l.length ≤ cap) (hb : (0 : Int) ≤ 0 ∧ 0 ≤ hiI l.length hi ∧ hiI l.length hi ≤ l.length)
  (h : c (.slice a (subL l 0 (hiI l.length hi)).length cap)) : NStep P (.slice t (.slice a n cap) none (vI hi) none) c := by
 refine qts (l := l) (lo := none) (hi := hi) ht hsz hn hcap hb ?_
 have e1 : subA a cap (loI none).toNat sz = a := by
  show (if cap = (0 : Int).toNat then a else a.map (·.add ((0 : Int).toNat * sz))) = a
  split
  ·rfl
  ·cases a <;> simp [Addr.add]
 rw [e1]
 exact h
end
open Go
end Go.SL
