/- The library: facts about walks, over any program. -/
import Derived.Test.YtmpdebfckeahmaaGreatDoorLL
import Derived.Deep.DeepHandedRow
set_option linter.unusedVariables false
set_option linter.unusedSimpArgs false
set_option linter.unusedSectionVars false
namespace Go.SL
open Go
section
variable {P : Program}
theorem bd_ex : ∀ (l : List Nat), ∃ B, ∀ n ∈ l, n ≤ B
 | [] => ⟨0, fun _ h => by cases h⟩
 | x :: l => by
  obtain ⟨B, h⟩ := bd_ex l
  refine ⟨max x B, fun n hn => ?_⟩
  rcases List.mem_cons.1 hn with rfl | hn
  ·exact Nat.le_max_left _ _
  ·exact Nat.le_trans (h n hn) (Nat.le_max_right _ _)
def txtD {H : Type} (l : List Str) : DataW H := .slice (l.map fun s => .lit (.string s)) []
end
open Go
open Go
section
variable {P : Program} {K : Hp} {H H' : List HProp} {α : Type} {R : Rp α} {e sz b len : Nat} {l : List α} {cl : List Value} {css : List (List Value)}
theorem Sat.litA {Γ : World} {w : World} (s : Sat Γ K (Cells b e cl :: H) w) (hR : RpOK sz R) (hc : css.flatten = cl) (hlr : LR R K css l) (ho : allOne cl = true) (hn : css.length = len) (hlen : len ≤ lim) :
  Sat Γ K (OwnA (some ⟨b, 0, none⟩) e sz len css :: H) w := by
 subst hn
 have hone := allOne_spec ho
 have hl' : ∀ m ∈ css, m.length = sz := fun m hm => by
  obtain ⟨i, hi⟩ := List.getElem?_of_mem hm
  have hil : i < l.length := by rw [← hlr.len]; exact (List.getElem?_eq_some_iff.1 hi).1
  exact hR.len (hlr.all i m _ hi (List.getElem?_eq_getElem hil))
 refine Sat.mkOwn (cur := cl.toArray) s hl' (fun m hm v hv => hone v (by rw [← hc]; exact List.mem_flatten.2 ⟨m, hm, hv⟩)) ?_ (by simp) (by simp only [lim] at hlen; simp only [maxLen]; omega) (fun j v hv => by rw [hc] at hv; simpa using hv)
 rw [← hc]
 have := flat_len hl'
 exact Nat.le_of_eq (by simpa using this.symm)
theorem litAD {ops : Array Oper} {env : List Value} {Q : KP} (hR : RpOK sz R) (hr : Rem (Cells b e cl) H H') (hc : css.flatten = cl) (hlr : LR R K css l) (ho : allOne cl = true) (hn : css.length = len) (hlen : len ≤ lim)
  (h : DStep P ops env K (OwnA (some ⟨b, 0, none⟩) e sz len css :: H') Q) : DStep P ops env K H Q :=
 DStep.conv fun Γ w s => ⟨K, _, (s.rem hr).litA hR hc hlr ho hn hlen, h⟩
theorem litAW {m : M} {c : VP} (hR : RpOK sz R) (hr : Rem (Cells b e cl) H H') (hc : css.flatten = cl) (hlr : LR R K css l) (ho : allOne cl = true) (hn : css.length = len) (hlen : len ≤ lim)
  (h : WStep P m K (OwnA (some ⟨b, 0, none⟩) e sz len css :: H') c) : WStep P m K H c :=
 WStep.conv fun Γ w s => ⟨K, _, (s.rem hr).litA hR hc hlr ho hn hlen, h⟩
end
open Go
theorem r12 {A B0 B1 B2 B3 B4 B5 B6 B7 B8 B9 B10 B11 : HProp} {L : List HProp} : Rem A (B0 :: B1 :: B2 :: B3 :: B4 :: B5 :: B6 :: B7 :: B8 :: B9 :: B10 :: B11 :: A :: L) (B0 :: B1 :: B2 :: B3 :: B4 :: B5 :: B6 :: B7 :: B8 :: B9 :: B10 :: B11 :: L) := .there r11
theorem r13 {A B0 B1 B2 B3 B4 B5 B6 B7 B8 B9 B10 B11 B12 : HProp} {L : List HProp} : Rem A (B0 :: B1 :: B2 :: B3 :: B4 :: B5 :: B6 :: B7 :: B8 :: B9 :: B10 :: B11 :: B12 :: A :: L) (B0 :: B1 :: B2 :: B3 :: B4 :: B5 :: B6 :: B7 :: B8 :: B9 :: B10 :: B11 :: B12 :: L) := .there r12
end Go.SL
