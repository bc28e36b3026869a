/- The beginning of an own slice whose elements hold slices. -/
import Derived.Test.YtpmdpondlmkojaaSL25
set_option linter.unusedVariables false
set_option linter.unusedSimpArgs false
namespace Go.SL
open Go
section
variable {P : Program} {K K' : Hp} {H H' : List HProp} {α : Type} {R : Rp α} {e sz cap : Nat} {l : List α} {css : List (List Value)} {a : Option Addr}
theorem subL_get {β : Type} {l : List β} {hi : Int} {i : Nat} {x : β} (h : (subL l 0 hi)[i]? = some x) : l[i]? = some x := by
  unfold subL at h
  simp only [Int.toNat_zero, List.drop_zero] at h
  rw [List.getElem?_take] at h
  split at h
  · exact h
  · cases h
theorem LR.sub0 (hi : Int) (h : LR R K css l) : LR R K (subL css 0 hi) (subL l 0 hi) :=
  ⟨by unfold subL; simp [h.len], fun i c x h1 h2 => h.all i c x (subL_get h1) (subL_get h2)⟩
theorem Sat.tkA {Γ : World} {w : World} (hr : Rem (OwnA a e sz cap css) H H') (hi : Int) (s : Sat Γ K H w) : Sat Γ K (OwnA a e sz cap (subL css 0 hi) :: H') w := by
  have := (s.rem hr).ownTake (hi - 0).toNat
  have e1 : subL css 0 hi = css.take (hi - 0).toNat := by simp [subL]
  rw [e1]; exact this
theorem tkAW {m : M} {c : VP} (hi : Int) (hr : Rem (OwnA a e sz cap css) H H') (h : WStep P m K (OwnA a e sz cap (subL css 0 hi) :: H') c) : WStep P m K H c :=
  WStep.conv fun Γ w s => ⟨K, _, s.tkA hr hi, h⟩
theorem tkAC {root : Code} {n : Nat} {p : List Nat} {env : List Value} {Q : Exit → KP} (hi : Int) (hr : Rem (OwnA a e sz cap css) H H') (h : CStep P root n p env K (OwnA a e sz cap (subL css 0 hi) :: H') Q) : CStep P root n p env K H Q :=
  CStep.conv fun Γ w s => ⟨K, _, s.tkA hr hi, h⟩
theorem tkAE {K0 : Hp} {F : HProp} {R : VP} {v : Value} (hi : Int) (hr : Rem (OwnA a e sz cap css) H H') (h : EndStep K0 F R v K (OwnA a e sz cap (subL css 0 hi) :: H')) : EndStep K0 F R v K H :=
  EndStep.conv fun Γ w s => ⟨K, _, s.tkA hr hi, h⟩
theorem tkAF {f : FuncId} {args : List Value} {c : VP} (hf : ∀ a w, (callFunc f a).run P w = .ok (.enter f a) w) (hi : Int) (hr : Rem (OwnA a e sz cap css) H H') (h : CallStep P f args K (OwnA a e sz cap (subL css 0 hi) :: H') c) : CallStep P f args K H c :=
  CallStep.conv hf fun Γ w s => ⟨K, _, s.tkA hr hi, h⟩
end
end Go.SL
