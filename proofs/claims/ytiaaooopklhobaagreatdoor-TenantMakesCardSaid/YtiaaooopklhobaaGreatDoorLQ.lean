/- The library: facts about walks, over any program. -/
import Derived.Test.YtiaaooopklhobaaGreatDoorLP
import Derived.Lib.ItoaMem
import Derived.Lib.ItoaNum
import Derived.Lib.Split
import Derived.Lib.SplitLaws
import Derived.Lib.IndexMore
set_option linter.unusedVariables false
set_option linter.unusedSimpArgs false
set_option linter.unusedSectionVars false
namespace Go.SL
open Go Go.RowKit
section
variable {P : Program}
def GlA (g : Nat) (vs : List Value) (K : Hp) : Prop := ∃ t fz, K g = some (.cells vs.toArray t fz)
theorem GlA.mono {g : Nat} {vs : List Value} {K K' : Hp} (h : GlA g vs K) (hk : K.Le K') : GlA g vs K' := let ⟨t, fz, e⟩ := h; ⟨t, fz, hk _ _ e⟩
def GlN (g : Nat) (K : Hp) : Prop := ∃ m cs t fz, K g = some (.cells cs t fz) ∧ cs[0]? = some (.int .i64 m)
theorem GlN.mono {g : Nat} {K K' : Hp} (h : GlN g K) (hk : K.Le K') : GlN g K' := let ⟨m, cs, t, fz, e, q⟩ := h; ⟨m, cs, t, fz, hk _ _ e, q⟩
theorem GlN.cell {g : Nat} {K : Hp} (h : GlN g K) {Γ w : World} {H : List HProp} (s : Sat Γ K H w) : ∃ m, w.cell? ⟨g, 0, none⟩ = some (.int .i64 m) := by
 obtain ⟨m, cs, t, fz, e, q⟩ := h
 have hw := s.know g _ e
 exact ⟨m, by simp only [World.cell?, hw]; simpa using q⟩
theorem qu9 {g : Nat} {W : World} {m : Int} (h : W.cell? ⟨g, 0, none⟩ = some (.int .i64 m)) : GlN g (old W) := by
 unfold World.cell? at h
 cases hw : W.heap[g]? with
 | none => simp only [hw] at h; cases h
 | some o =>
  cases o with
  | cells c T fz => simp only [hw] at h; exact ⟨m, c, T, fz, hw, by simpa using h⟩
  | _ => simp only [hw] at h; cases h
def qol (n : Int) : Option Str := if InI n then some (Go.Lib.itoa n) else none
theorem qrr {f : FuncId} {g : Nat} (hc : ∀ a w, (callFunc f a).run P w = .ok (.enter f a) w) (hg : P.globalNamed "internal/strconv.uint64pow10" = some g)
  (h1 : ∀ (n : Int) (w : World), -9223372036854775808 ≤ n → n ≤ 9223372036854775807 → Lib.TabIs P w "internal/strconv.uint64pow10" .u64 Lib.pow10Tab →
   Calls P f #[.int .i64 n] w fun e w' => e = .returned (.string ⟨(Lib.itoa n).toArray⟩) ∧ ∃ k os, w' = Sort.grow (w.drewN k) os)
  {n : Int} {r : Str} {K : Hp} (hm : qol n = some r) (hG : GlA g (Lib.pow10Tab.map fun z => Value.int .u64 z) K) : Fn P f [.int .i64 n] K [] (fun v K' H' => v = str r ∧ H' = []) := by
 unfold qol at hm
 split at hm
 ·rename_i hi
  cases hm
  refine ⟨hc, fun F Γ w st => ?_⟩
  obtain ⟨t, fz, hk⟩ := hG
  have hw := st.know g _ hk
  refine (h1 n w hi.1 hi.2 ?_).mono fun e w' ⟨g1, k, os, g2⟩ => ?_
  ·unfold Lib.TabIs World.var?
   rw [hg]
   simp only [qx0, hw]
  ·subst g2
   refine ⟨_, K, [], g1, .refl _, ⟨rfl, rfl⟩, st.below ⟨rfl, rfl, rfl, by simp [Sort.grow, World.drewN], fun i hi => ?_⟩⟩
   simp only [Sort.grow, World.drewN]
   rw [Array.getElem?_append_left hi]
 ·cases hm
theorem qrs (w : World) (n : Nat) : Below w.heap.size w (w.drewN n) := ⟨rfl, rfl, rfl, Nat.le_refl _, fun _ _ => rfl⟩
abbrev qlc : Nat := 4294967281
def qf7 (s sub : Str) : Option Bool := if s.length < qlc then some (Go.Lib.contains s sub) else none
theorem qld {f : FuncId} {g : Nat} (hc : ∀ a w, (callFunc f a).run P w = .ok (.enter f a) w)
  (h1 : ∀ (s sub : ByteArray) (m : Int) (w : World), s.size < 4294967281 → w.cell? ⟨g, 0, none⟩ = some (.int .i64 m) → Calls P f #[.string s, .string sub] w fun e w' => e = .returned (.bool (Lib.contains s.data.toList sub.data.toList)) ∧ w' = w)
  {s sub : Str} {r : Bool} {K : Hp} (hm : qf7 s sub = some r) (hG : GlN g K) : Fn P f [str s, str sub] K [] (fun v K' H' => v = .bool r ∧ H' = []) := by
 unfold qf7 at hm
 split at hm
 ·rename_i hi
  cases hm
  refine ⟨hc, fun F Γ w st => ?_⟩
  obtain ⟨m, hm⟩ := hG.cell st
  refine (h1 ⟨s.toArray⟩ ⟨sub.toArray⟩ m w (by simpa [ByteArray.size, qlc] using hi) hm).mono fun e w' ⟨g1, g2⟩ => ?_
  subst g2
  exact ⟨_, K, [], g1, .refl _, ⟨rfl, rfl⟩, st⟩
 ·cases hm
def quq (s sep : Str) : Option (Str × Str × Bool) := if s.length < qlc then some (Go.Lib.cut s sep) else none
theorem qt1 {f : FuncId} {g : Nat} (hc : ∀ a w, (callFunc f a).run P w = .ok (.enter f a) w)
  (h1 : ∀ (s sep : ByteArray) (m : Int) (w : World), s.size < 4294967281 → w.cell? ⟨g, 0, none⟩ = some (.int .i64 m) → Calls P f #[.string s, .string sep] w fun e w' =>
   e = .returned (.tuple #[.string ⟨(Lib.cut s.data.toList sep.data.toList).1.toArray⟩, .string ⟨(Lib.cut s.data.toList sep.data.toList).2.1.toArray⟩, .bool (Lib.cut s.data.toList sep.data.toList).2.2]) ∧ ∃ n, w' = w.drewN n)
  {s sep : Str} {r : Str × Str × Bool} {K : Hp} (hm : quq s sep = some r) (hG : GlN g K) : Fn P f [str s, str sep] K [] (fun v K' H' => v = .tuple #[str r.1, str r.2.1, .bool r.2.2] ∧ H' = []) := by
 unfold quq at hm
 split at hm
 ·rename_i hi
  cases hm
  refine ⟨hc, fun F Γ w st => ?_⟩
  obtain ⟨m, hm⟩ := hG.cell st
  refine (h1 ⟨s.toArray⟩ ⟨sep.toArray⟩ m w (by simpa [ByteArray.size, qlc] using hi) hm).mono fun e w' ⟨g1, n, g2⟩ => ?_
  subst g2
  exact ⟨_, K, [], g1, .refl _, ⟨rfl, rfl⟩, st.below (qrs w n)⟩
 ·cases hm
def qem (s sep : Str) : Option (List Str) := if s.length < qlc ∧ 1 ≤ sep.length then some (Go.Lib.split s sep) else none
theorem qpt {f : FuncId} {g e : Nat} (hc : ∀ a w, (callFunc f a).run P w = .ok (.enter f a) w)
  (h1 : ∀ (s sep : ByteArray) (m : Int) (w : World), s.size < 4294967281 → w.cell? ⟨g, 0, none⟩ = some (.int .i64 m) → 1 ≤ sep.size → Calls P f #[.string s, .string sep] w fun x w' =>
   x = .returned (.slice (some ⟨w.heap.size, 0, none⟩) (Lib.countB s sep + 1) (Lib.countB s sep + 1)) ∧ w' = w.alloc (.cells ((Lib.splitB sep 0 (Lib.countB s sep) s).map Value.string).toArray e))
  {s sep : Str} {r : List Str} {K : Hp} (hm : qem s sep = some r) (hG : GlN g K) :
  Fn P f [str s, str sep] K [] (fun v K' H' => ∃ ar_0 : Option Addr, ∃ cr_0 : Nat, v = .slice ar_0 r.length cr_0 ∧ (0 < r.length → Has ar_0) ∧ H' = [OwnL eS ar_0 e 1 cr_0 r]) := by
 unfold qem at hm
 split at hm
 ·rename_i hi
  cases hm
  refine ⟨hc, fun F Γ w st => ?_⟩
  obtain ⟨m, hm⟩ := hG.cell st
  have hs : (⟨s.toArray⟩ : ByteArray).size < 4294967281 := by simpa [ByteArray.size, qlc] using hi.1
  have h2 : 1 ≤ (⟨sep.toArray⟩ : ByteArray).size := by simpa [ByteArray.size] using hi.2
  refine (h1 ⟨s.toArray⟩ ⟨sep.toArray⟩ m w hs hm h2).mono fun x w' ⟨g1, g2⟩ => ?_
  have hd := Lib.splitB_data ⟨sep.toArray⟩ 0 (Lib.countB ⟨s.toArray⟩ ⟨sep.toArray⟩) ⟨s.toArray⟩
  have hl := Lib.splitB_all ⟨sep.toArray⟩ h2 0 _ ⟨s.toArray⟩ rfl
  have hle := Lib.countB_le ⟨sep.toArray⟩ h2 _ ⟨s.toArray⟩ (Nat.le_refl _)
  have he : (Lib.splitB ⟨sep.toArray⟩ 0 (Lib.countB ⟨s.toArray⟩ ⟨sep.toArray⟩) ⟨s.toArray⟩).map (·.data.toList) = Go.Lib.split s sep := by
   rw [hd]; unfold Go.Lib.split; simp [Lib.countB]
  have hn : (Go.Lib.split s sep).length = Lib.countB ⟨s.toArray⟩ ⟨sep.toArray⟩ + 1 := by rw [← he, List.length_map]; exact hl
  have hv : ((Lib.splitB ⟨sep.toArray⟩ 0 (Lib.countB ⟨s.toArray⟩ ⟨sep.toArray⟩) ⟨s.toArray⟩).map Value.string) = (Go.Lib.split s sep).map str := by
   rw [← he, List.map_map]
   apply List.map_congr_left
   intro b _
   simp [str]
  subst g2
  rw [hv]
  have st2 : Sat Γ K (Cells w.heap.size e ((Go.Lib.split s sep).map str) :: [F]) (w.alloc (.cells ((Go.Lib.split s sep).map str).toArray e)) := (show Sat Γ K [F] w from st).push
  have hf : ((Go.Lib.split s sep).map (eS)).flatten = (Go.Lib.split s sep).map str := by
   generalize Go.Lib.split s sep = l
   induction l with
   | nil => rfl
   | cons x l ih => simp only [List.map_cons, List.flatten_cons, ih]; rfl
  have ho : allOne ((Go.Lib.split s sep).map str) = true := by
   generalize Go.Lib.split s sep = l
   induction l with
   | nil => rfl
   | cons x l ih => exact ih
  have hlim : (Go.Lib.split s sep).length ≤ lim := by rw [hn]; simp only [lim]; omega
  have st3 := st2.lit (enc := eS) (sz := 1) hf (fun _ _ => rfl) ho hlim
  refine ⟨_, K, [OwnL eS (some ⟨w.heap.size, 0, none⟩) e 1 (Go.Lib.split s sep).length (Go.Lib.split s sep)], g1, .refl _, ⟨_, (Go.Lib.split s sep).length, by rw [hn], fun _ => ?_, rfl⟩, st3⟩
  exact ⟨_, _, rfl⟩
 ·cases hm
end
end Go.SL
