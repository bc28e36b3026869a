import Derived.Test.YtmpdebfckeahmaaGreatDoorRtAm
set_option linter.unusedVariables false
set_option linter.unusedSimpArgs false
open Go Go.SL Go.Proofs Pl Rt Rt.Rc Rt.Rv
namespace Rt.Rv
theorem qpc : Jb6 zR (⟨([] : Str), ([] : Str), [], [], [], 0, 0, 0, false, false⟩ : Jp) = some true := qx9 (k := 0) (r := zR) qzy (by omega)
theorem isF {e : Err} {w : Int} (h : e ≠ some w) (h0 : w ≠ 0) : Jdi e w = some false := by
  rw [qxm]
  cases e with
  | none => rw [decide_eq_false (show ¬ (none : Err).getD 0 = w from fun q => h0 q.symm)]; rfl
  | some v => rw [decide_eq_false (show ¬ (some v : Err).getD 0 = w from fun q => h (congrArg some q))]; rfl
theorem isT : Jdi (some 13) 13 = some true := by rw [qxm]; rfl
end Rt.Rv
theorem Jdg (x : Je) (Ar : Jw) (less : UInt8) (o0 : Je.ok x) (o1 : Jw.ok Ar) (o2 : True) : ∃ n, JbV n x Ar less = some true := by
  refine ⟨2000100 + Ar.Ao.length, ?_⟩
  generalize hN : 2000100 + Ar.Ao.length = n
  have n1 : 2000100 ≤ n := by omega
  obtain ⟨b2, hb2, hi⟩ := qvr (n := n) (i := Ar) (by omega) o1
  have haw := qqo (n := n) (by omega)
  have hlg : ∀ b, JbO n x = some b → JbX n x = some b := fun b h => by unfold JbX; rw [h]; rfl
  have hls : (less.toNat : Int) ≤ 255 := by have := less.toNat_lt; omega
  unfold JbV
  rw [haw, qAz, qA0 (by simp)]
  rcases Large_ok (n := n) o0 (by omega) with hL | ⟨hL, hx⟩
  · rw [hlg _ hL, qAz, qAz, qA1 rfl, qAz, qAz, qA1 rfl]
  · rw [hlg _ hL, qAz, qAz, qA0 (by simp), hb2, qAz, qAz, qAz]
    cases b2 with
    | false => rw [qA1 (by simp)]; rfl
    | true =>
      have hI := hi rfl
      rw [qA0 (by simp)]
      have cN := qpg hL
      obtain ⟨y, hy, cy⟩ := qwz 40 n x hx (by omega)
      have hok := cy.ok hx
      have hcn : cntL 39 y.Aa ≤ 10000 := by
        rw [← cy.cnt, cnt_eq] at cN; omega
      rw [hy, qAz]
      rcases compile_cases hok n1 hcn with ⟨e, hC⟩ | ⟨ρ, hP, hv, hC⟩
      · obtain ⟨r, hr⟩ := qn3 hok n1 hcn
        rw [hC, qAz, hr, qAz, qA1 (show (some e : Err).isSome = true from rfl)]
      rw [hC, qAz, qsy hP hok n1 hv, qAz, qA0 (by simp), qsp hI, qAz]
      have hw := hP.w
      obtain ⟨hinv, _⟩ := qqz hI hok n1 hv hP.s rfl
      have hne := qt6 (j := inp Ar) ⟨Ar, hI, rfl⟩ 39 y.Aa base ρ [] (b0 Ar) hP.g hP.s qyy
      obtain ⟨r1, r2'⟩ := qyo (n := n) (i := Ar) (most := foldW (Rt.wS 39) (stm 39) base y.Aa + 1) hI hP n1 (Int.le_refl _) rfl
      generalize evL (evS (inp Ar) 39) [] (b0 Ar) y.Aa = o at *
      generalize foldW (Rt.wS 39) (stm 39) base y.Aa = W at *
      dsimp only
      cases w : o.1 with
      | some e =>
        rw [w] at hne
        rw [r1 e w, qAz, qA0 (by simp), isF (e := (zR, some e).2) hne.2 (by decide), qAz, qAz, qA0 (by simp), isF (e := (zR, some e).2) hne.1 (by decide), qAz, qAz, qAz, qA0 (by simp), qA1 (show (some e : Err).isSome = true from rfl), qpc]; rfl
      | none =>
        obtain ⟨t, t1, t2, hR, hsame, hless⟩ := r2' w
        have hk := hinv.1
        have hk2 : ROK 512 (stp o.2.1 t) := ⟨hk.h, hk.v, hk.t⟩
        have et : (stp o.2.1 t).Aj = t := rfl
        rw [hR, qAz, qA0 (by simp), isF (e := (stp o.2.1 t, (none : Err)).2) (by simp) (by decide), qAz, qAz, qA0 (by simp), isF (e := (stp o.2.1 t, (none : Err)).2) (by simp) (by decide), qAz, qAz, qAz, qA0 (by simp), qA0 (by simp)]
        dsimp only
        rw [et, qA0 (by simp; omega), qAz, hsame t (Int.le_refl _), qAz, qAz, qaa (by constructor <;> omega), qaa (by constructor <;> omega), hless _ (by omega), qAz, qA1 (by simp), qyd hk2 (by omega), qAz]
        dsimp only
        rw [qx9 hk2 (by omega), qAz, qAz, qA1 rfl, isT, qAz, qAz, qA1 rfl, qpc]; rfl
