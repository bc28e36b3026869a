/- Lists whose elements are slices of one's own, and which are read alone themselves. -/
import Derived.Test.YtpmdpondlmkojaaSL35
set_option linter.unusedVariables false
set_option linter.unusedSimpArgs false
namespace Go.SL
open Go
section
variable {P : Program} {α : Type} {enc : α → List Value} {e e' sz cap : Nat} {a : Option Addr} {css : List (List Value)} {ls : List (List α)} {K : Hp} {H H1 H2 H3 : List HProp}
def OwnS (enc : α → List Value) (e sz : Nat) (css : List (List Value)) (ls : List (List α)) : HProp := SepH (els enc e sz css ls)
theorem Sat.fzEo {Γ : World} {w : World} (hr : Rem (OwnE enc e' e sz a cap css ls) H H1) (hl : LR hdR K css ls) (s : Sat Γ K H w) : ∃ K', K.Le K' ∧ LiC hdR K' a cap 1 ls ∧ RdS K' a 1 css ∧ Sat Γ K' (OwnS enc e sz css ls :: H1) w := by
  have s1 : Sat Γ K (OwnA a e' 1 cap css :: OwnS enc e sz css ls :: H1) w := (s.rem hr).conv fun h y => sep_tl (fun _ => sep_fold) (sep_flat y)
  have hle := s1.ownLen
  obtain ⟨K', h1, h2, h3⟩ := s1.ownFreeze
  exact ⟨K', h1, ⟨LiR.mk' h2 (hl.mono hdR_ok h1), by rw [← hl.len]; exact hle⟩, h2, h3⟩
theorem Sat.openS {Γ : World} {w : World} {i : Nat} {x : List α} {ai : Option Addr} {ci : Nat} (hr : Rem (OwnS enc e sz css ls) H H1) (hx : ls[i]? = some x) (hc : css[i]? = some [.slice ai x.length ci]) (s : Sat Γ K H w) :
    Sat Γ K (OwnL enc ai e sz ci x :: OwnX enc e sz css ls i :: H1) w := (s.rem hr).conv fun h y => by
  have r : Rem (OwnL enc ai e sz ci x) (els enc e sz css ls ++ H1) ((els enc e sz css ls).eraseIdx i ++ H1) := (rem_at (els_get (enc := enc) (e := e) (sz := sz) hc hx)).app H1
  exact sep_tl (fun _ => sep_fold) (r.sep (sep_flat y))
theorem Sat.closeS {Γ : World} {w : World} {i : Nat} {x : List α} {ai : Option Addr} {ci : Nat} (r1 : Rem (OwnL enc ai e sz ci x) H H1) (r2 : Rem (OwnX enc e sz css ls i) H1 H2) (hx : ls[i]? = some x) (hc : css[i]? = some [.slice ai x.length ci]) (s : Sat Γ K H w) :
    Sat Γ K (OwnS enc e sz css ls :: H2) w := s.conv fun h y => by
  have y1 := sep_tl (fun _ => r2.sep) (r1.sep y)
  have y2 := sep_tl (fun _ => sep_flat) y1
  have r : Rem (OwnL enc ai e sz ci x) (els enc e sz css ls ++ H2) ((els enc e sz css ls).eraseIdx i ++ H2) := (rem_at (els_get (enc := enc) (e := e) (sz := sz) hc hx)).app H2
  exact sep_fold (r.sep' y2)
variable {ops : Array Oper} {env : List Value} {Q : KP} {m : M} {c : VP} {root : Code} {n : Nat} {p : List Nat} {QC : Exit → KP}
theorem fzEoC (hr : Rem (OwnE enc e' e sz a cap css ls) H H1) (hl : LR hdR K css ls) (h : ∀ K', K.Le K' → LiC hdR K' a cap 1 ls → RdS K' a 1 css → CStep P root n p env K' (OwnS enc e sz css ls :: H1) QC) : CStep P root n p env K H QC :=
  CStep.conv fun Γ w s => let ⟨K', h1, h2, h3, h4⟩ := s.fzEo hr hl; ⟨K', _, h4, h K' h1 h2 h3⟩
theorem fzEoD (hr : Rem (OwnE enc e' e sz a cap css ls) H H1) (hl : LR hdR K css ls) (h : ∀ K', K.Le K' → LiC hdR K' a cap 1 ls → RdS K' a 1 css → DStep P ops env K' (OwnS enc e sz css ls :: H1) Q) : DStep P ops env K H Q :=
  DStep.conv fun Γ w s => let ⟨K', h1, h2, h3, h4⟩ := s.fzEo hr hl; ⟨K', _, h4, h K' h1 h2 h3⟩
/-- append onto an element that stays what it is; the list itself is read alone. -/
theorem apEOS {t tx ty k i : Nat} {xv : Value} {x new : List α} {ai : Option Addr} {ci : Nat} {cs : Array Bool} (hr : Rem (OwnS enc e sz css ls) H H1) (hx : ls[i]? = some x) (hc : css[i]? = some [.slice ai x.length ci]) (hn : k = x.length)
    (T : ElT P t e sz) (hs : SrcOK P K H1 sz tx xv (new.map enc)) (hlim : x.length + new.length ≤ lim)
    (h1 : c (.slice ai (x ++ new).length ci) K (OwnL enc ai e sz ci (x ++ new) :: OwnX enc e sz css ls i :: H1))
    (h2 : ∀ a' cap', c (.slice a' (x ++ new).length cap') K (OwnL enc a' e sz cap' (x ++ new) :: OwnL enc ai e sz ci x :: OwnX enc e sz css ls i :: H1)) :
    WStep P (.builtin .append #[t, tx] ty cs [.slice ai k ci, xv]) K H c := by
  refine WStep.conv fun Γ w s => ?_
  exact ⟨K, _, s.openS hr hx hc, apEO hn .here T ⟨fun Γ w s => hs.src Γ w s.drop, hs.len, hs.one⟩ hlim h1 h2⟩
theorem clS1C {i : Nat} {x new : List α} {ai : Option Addr} {ci : Nat} (r1 : Rem (OwnL enc ai e sz ci (x ++ new)) H H1) (r2 : Rem (OwnX enc e sz css ls i) H1 H2) (hx : ls[i]? = some x) (hc : css[i]? = some [.slice ai x.length ci])
    (h : CStep P root n p env K (OwnS enc e sz css ls :: H2) QC) : CStep P root n p env K H QC :=
  CStep.conv fun Γ w s => ⟨K, _, Sat.closeS (H := OwnL enc ai e sz ci x :: H1) .here r2 hx hc (s.rem r1).unap, h⟩
theorem clS2C {i : Nat} {x : List α} {ai : Option Addr} {ci : Nat} (r1 : Rem (OwnL enc ai e sz ci x) H H1) (r2 : Rem (OwnX enc e sz css ls i) H1 H2) (hx : ls[i]? = some x) (hc : css[i]? = some [.slice ai x.length ci])
    (h : CStep P root n p env K (OwnS enc e sz css ls :: H2) QC) : CStep P root n p env K H QC :=
  CStep.conv fun Γ w s => ⟨K, _, s.closeS r1 r2 hx hc, h⟩
end
end Go.SL
