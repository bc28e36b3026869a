/- An own slice whose room is cut to its length (s[:len(s):len(s)]). -/
import Derived.Test.YtpmdpondlmkojaaSL26
set_option linter.unusedVariables false
set_option linter.unusedSimpArgs false
namespace Go.SL
open Go
section
variable {P : Program} {K K' : Hp} {H H' : List HProp} {α : Type} {R : Rp α} {e sz cap : Nat} {enc : α → List Value} {l : List α} {css : List (List Value)} {a : Option Addr}
theorem Sat.clipA {Γ : World} {w : World} (hr : Rem (OwnA a e sz cap css) H H') (s : Sat Γ K H w) : Sat Γ K (OwnA a e sz css.length css :: H') w := by
  obtain ⟨hl, ho, ⟨rfl, rfl, rfl, s0⟩ | ⟨b, cur, fz, hfz, rfl, k1, k2, k3, k4, s0⟩⟩ := (s.rem hr).own
  · exact s0.mkNil
  · exact s0.mkOwnF hfz hl ho (Nat.le_trans (Nat.mul_le_mul_right _ k2) k1) (Nat.le_refl _) (Nat.le_trans k2 k3) k4
theorem Sat.clip {Γ : World} {w : World} (hr : Rem (OwnL enc a e sz cap l) H H') (s : Sat Γ K H w) : Sat Γ K (OwnL enc a e sz l.length l :: H') w := by
  have := s.clipA (css := l.map enc) hr
  rw [List.length_map] at this
  exact this
theorem clipW {m : M} {c : VP} (hr : Rem (OwnL enc a e sz cap l) H H') (h : WStep P m K (OwnL enc a e sz l.length l :: H') c) : WStep P m K H c :=
  WStep.conv fun Γ w s => ⟨K, _, s.clip hr, h⟩
theorem clipC {root : Code} {n : Nat} {p : List Nat} {env : List Value} {Q : Exit → KP} (hr : Rem (OwnL enc a e sz cap l) H H') (h : CStep P root n p env K (OwnL enc a e sz l.length l :: H') Q) : CStep P root n p env K H Q :=
  CStep.conv fun Γ w s => ⟨K, _, s.clip hr, h⟩
theorem clipE {K0 : Hp} {F : HProp} {R : VP} {v : Value} (hr : Rem (OwnL enc a e sz cap l) H H') (h : EndStep K0 F R v K (OwnL enc a e sz l.length l :: H')) : EndStep K0 F R v K H :=
  EndStep.conv fun Γ w s => ⟨K, _, s.clip hr, h⟩
theorem clipF {f : FuncId} {args : List Value} {c : VP} (hf : ∀ a w, (callFunc f a).run P w = .ok (.enter f a) w) (hr : Rem (OwnL enc a e sz cap l) H H') (h : CallStep P f args K (OwnL enc a e sz l.length l :: H') c) : CallStep P f args K H c :=
  CallStep.conv hf fun Γ w s => ⟨K, _, s.clip hr, h⟩
theorem ownClip {t n : Nat} {a : Option Addr} {cap : Nat} {css : List (List Value)} {c : Value → Prop} (hn : n = l.length) (hr : Rem (OwnA a e sz cap css) H H') (hlc : css.length = l.length) (ht : P.underlying t = some (.slice e)) (hsz : tySize P e = some sz)
    (h : c (.slice a l.length l.length)) : RStep P (.slice t (.slice a n cap) none (some (.int .i64 (l.length : Int))) (some (.int .i64 (l.length : Int)))) K H c := by
  subst hn
  refine RStep.conv' fun Γ w s => ?_
  have hle := (s.rem hr).ownLen
  rw [hlc] at hle
  refine RStep.ofN (NStep.mk _ (fun w => ?_) h)
  have e1 := bound_run (P := P) (x := (l.length : Int)) (y := cap) (code := .slice3Acap) (by omega) (by omega) w
  have e2 := bound_run (P := P) (x := (l.length : Int)) (y := l.length) (code := .slice3B) (by omega) (by omega) w
  have e3 : (if l.length = 0 then a else a.map (·.add (0 * sz))) = a := by
    split
    · rfl
    · cases a <;> simp [Addr.add]
  simp only [M.sem, Instr.sliceAt, Instr.slice, Sem.run_bind, run_underlying ht, Result.andThen_ok, Instr.sliceBounds]
  simp [e1, e2, run_sizeOf' hsz, Addr.add]
end
end Go.SL
