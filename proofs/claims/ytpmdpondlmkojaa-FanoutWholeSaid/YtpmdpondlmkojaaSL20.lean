/- Readers of types that hold themselves. -/
import Derived.Test.YtpmdpondlmkojaaSL19
set_option linter.unusedVariables false
set_option linter.unusedSimpArgs false
namespace Go.SL
open Go Go.ChangeShapes Go.WideShapes Go.ChangeAt Go.RowKit
section
variable {P : Program} {α : Type} {Bd : Nat}
theorem Rdr.zero {t : TypeId} {R : Rp α} : Rdr Bd P 0 t R := by
  intro H enc w sp held fuel cs x hf h hz
  have : fuel = 0 := by omega
  subst this; simp [DataW.trod] at h
theorem Rdr.slrM {m : Nat} {t e sz : Nat} {R : Rp α} (ht : P.underlying t = some (.slice e)) (hsz : P.cellsOf e = sz) (h0 : Nat.ble 1 sz = true) (hR : RpOK sz R) (hr : ∀ m', m' < m → Rdr Bd P m' e R) : Rdr Bd P m t (slR sz R) := by
  cases m with
  | zero => exact Rdr.zero
  | succ m => exact Rdr.slice ht hsz (Nat.le_of_ble_eq_true h0) hR (hr m (by omega))
theorem Rdr.slxM {m : Nat} {t e sz : Nat} {R : Rp α} {ok : α → Prop} (ht : P.underlying t = some (.slice e)) (hsz : P.cellsOf e = sz) (h0 : Nat.ble 1 sz = true) (hR : RpOK sz R)
    (hr : ∀ m', m' < m → Rdr Bd P m' e (fun K cs x => R K cs x ∧ ok x)) (hby : Nat.ble 1 (P.bytesOf e) = true) : Rdr Bd P m t (fun K cs l => sliR R sz K cs l ∧ (l.length ≤ Bd ∧ ∀ x ∈ l, ok x)) := fun en w sp held fuel cs x hf h hz => by
  have hR' : RpOK sz (fun K cs x => R K cs x ∧ ok x) := ⟨fun hk h => ⟨hR.mono hk h.1, h.2⟩, fun h => hR.len h.1, fun h => hR.one h.1⟩
  obtain ⟨l, a, cap, e1, e2, e3, e4⟩ := Rdr.slrM ht hsz h0 hR' hr en w sp held fuel cs x hf h hz
  obtain ⟨css, g1, g2, g3⟩ := e4.ex
  refine ⟨l, ⟨a, cap, e1, ⟨css, g1, g2, fun i c x hc hx => (g3 i c x hc hx).1⟩, e2⟩, sl_size ht hby h hz e1, fun y hy => ?_⟩
  obtain ⟨i, hi⟩ := List.getElem?_of_mem hy
  obtain ⟨css, c, _, _, h3⟩ := e4.get hi
  exact h3.2
theorem rd_structM {H : Type} {enc : TypeId × Value → H} {w : World} {sp : Nat → Bool} {held : Bool} {m n : Nat} {t : TypeId} {cs : List Value} {x : DataW H × List MemPlace} {fs : Array Field}
    (ht : P.underlying t = some (.struct fs)) (hn : P.cellsOf t = n) (h : DataW.trod enc P w 0 sp held (m + 1) t cs = some x) (hz : SzOK Bd P t x.1) :
    cs.length = n ∧ ∀ (i off sz : Nat) (ft : TypeId) {β : Type} {R : Rp β}, (match fs[i]? with | some f => f.offset = off ∧ f.type = ft ∧ P.cellsOf f.type = sz | none => False) → Rdr Bd P m ft R → ∃ a, R (old w) ((cs.drop off).take sz) a := by
  have := rd_struct (m := m) ht (Nat.le_refl _) h hz
  refine ⟨by rw [this.1, hn], fun i off sz ft β R hf hr => ?_⟩
  split at hf
  · rename_i f hfi
    obtain ⟨rfl, rfl, rfl⟩ := hf
    exact this.2 i f hfi hr
  · exact hf.elim
/-- From all lesser fuels to this one. -/
theorem RdrA.rec {t : TypeId} {R : Rp α} (h : ∀ m, (∀ m', m' < m + 1 → Rdr Bd P m' t R) → ∀ {H : Type} (enc : TypeId × Value → H) (w : World) (spare : Nat → Bool) (held : Bool) (cs : List Value) (x : DataW H × List MemPlace),
    DataW.trod enc P w 0 spare held (m + 1) t cs = some x → SzOK Bd P t x.1 → ∃ a, R (old w) cs a) : RdrA Bd P t R := by
  intro m
  induction m using Nat.strongRecOn with
  | ind m ih =>
    intro H enc w sp held fuel cs x hf hx hz
    cases fuel with
    | zero => exact (Rdr.zero (P := P) (t := t) (R := R)) enc w sp held 0 cs x (Nat.le_refl _) hx hz
    | succ f => exact h f (fun m' hm => ih m' (by omega)) enc w sp held cs x hx hz
end
end Go.SL
