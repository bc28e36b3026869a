/- The library: facts about walks, over any program. -/
import Derived.Test.YtkpipkpdnbconaaDoorLN
import Derived.Lib.Atoi
set_option linter.unusedVariables false
set_option linter.unusedSimpArgs false
namespace Go.SL
open Go Go.RowKit
theorem bw_below (w : World) (e : TypeId) (s : ByteArray) : Below w.heap.size w (Lib.bytesWorld w e s) :=
 ⟨by unfold Lib.bytesWorld; rfl, by unfold Lib.bytesWorld; rfl, by unfold Lib.bytesWorld; rfl, by rw [Lib.bytesWorld_size]; omega, fun k hk => Lib.bytesWorld_at_old w e s k hk⟩
def atoiM (s : Str) : Option (Int × Err) := if s.length ≤ 18 then (Go.Lib.atoi s).map fun v => (v, none) else none
theorem atoi_gen {P : Program} {f : FuncId} {T : TypeId} (hc : ∀ a w, (callFunc f a).run P w = .ok (.enter f a) w)
  (h1 : ∀ (s : ByteArray) (n : Int) (w : World), s.size ≤ 18 → Lib.atoi s.data.toList = some n →
   Calls P f #[.string s] w fun e w' => e = .returned (.tuple #[.int .i64 n, .nilIface]) ∧ ∃ t, w' = Lib.bytesWorld w T t)
  {s : Str} {r : Int × Err} {K : Hp} {E : TypeId} (hm : atoiM s = some r) : Fn P f [str s] K [] (fun v K' H' => v = .tuple #[.int .i64 r.1, errV E r.2] ∧ H' = []) := by
 unfold atoiM at hm
 split at hm
 ·rename_i hl
  obtain ⟨n, hn, rfl⟩ := Option.map_eq_some_iff.1 hm
  refine ⟨hc, fun F Γ w st => ?_⟩
  refine (h1 ⟨s.toArray⟩ n w (by simp [ByteArray.size]; exact hl) (by simpa using hn)).mono fun e w' ⟨g1, t, g2⟩ => ?_
  subst g2
  exact ⟨_, K, [], g1, .refl _, ⟨rfl, rfl⟩, st.below (bw_below w T t)⟩
 ·cases hm
end Go.SL
set_option linter.unusedVariables false
set_option linter.unusedSimpArgs false
namespace Go.SL
open Go
end Go.SL
set_option linter.unusedVariables false
set_option linter.unusedSimpArgs false
namespace Go.SL
open Go
section
variable {P : Program} {α : Type} {enc : α → List Value} {e e' sz cap : Nat} {a : Option Addr} {css : List (List Value)} {ls : List (List α)} {K : Hp} {H H1 H2 H3 : List HProp} {c : VP}
theorem ld_arr_l {k : IntKind} {L : List Int} {pre post cs : List Value} {n : Int} {b t T o : Nat} {d : DrI} {c : Value → Prop} (hm : (b, Obj.cells cs.toArray T (0, 0)) ∈ d.priv) (ht : tyShape P t = some none) (ho : o = pre.length + n.toNat) (hc : cs = pre ++ (L.map (.int k) ++ post)) (h0 : 0 ≤ n) (h1 : n < (L.length : Int))
  (h : c (.int k (L.getD n.toNat 0))) : LStep P (.load t (.pointer (some ⟨b, o, none⟩))) d c := by
 subst ho
 exact load1_l hm ht (arr_get hc h0 h1) h
theorem cellsE {K0 : Hp} {F : HProp} {R : VP} {v : Value} {b T : Nat} {cs cs' : List Value} (hr : Rem (Cells b T cs) H H1) (e : cs = cs') (h : EndStep K0 F R v K (Cells b T cs' :: H1)) : EndStep K0 F R v K H :=
 EndStep.conv fun Γ w s => ⟨K, _, by subst e; exact s.rem hr, h⟩
end
end Go.SL
set_option linter.unusedVariables false
set_option linter.unusedSimpArgs false
namespace Go.SL
open Go
end Go.SL
