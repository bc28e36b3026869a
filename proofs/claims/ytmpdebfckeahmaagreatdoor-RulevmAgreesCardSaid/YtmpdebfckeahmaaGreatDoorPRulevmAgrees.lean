import Derived.Test.YtmpdebfckeahmaaGreatDoorRtAm
set_option linter.unusedVariables false
set_option linter.unusedSimpArgs false
open Go Go.SL Go.Proofs Pl Rt Rt.Rc Rt.Rv
theorem Jdg (x : Je) (Ar : Jw) (o0 : Je.ok x) (o1 : Jw.ok Ar) : ∃ n, JbS n x Ar = some true := by
  refine ⟨2000100 + Ar.Ao.length, ?_⟩
  generalize hN : 2000100 + Ar.Ao.length = n
  have n1 : 2000100 ≤ n := by omega
  obtain ⟨b2, hb2, hi⟩ := qvi (n := n) (i := Ar) (by omega) o1
  have haw := qqb (n := n) (by omega)
  have hlg : ∀ b, JbL n x = some b → JbU n x = some b := fun b h => by unfold JbU; rw [h]; rfl
  unfold JbS
  rw [haw, qAq, qAr (by simp)]
  rcases Large_ok (n := n) o0 (by omega) with hL | ⟨hL, hx⟩
  · rw [hlg _ hL, qAq, qAq, qAs rfl, qAq, qAq, qAs rfl]
  · rw [hlg _ hL, qAq, qAq, qAr (by simp), hb2, qAq, qAq, qAq]
    cases b2 with
    | false => rw [qAs (by simp)]; rfl
    | true =>
      have hI := hi rfl
      rw [qAr (by simp)]
      have cN := qo1 hL
      obtain ⟨y, hy, cy⟩ := qwo 40 n x hx (by omega)
      have hok := cy.ok hx
      have hcn : cntL 39 y.Aa ≤ 10000 := by
        rw [← cy.cnt, cnt_eq] at cN; omega
      rw [hy, qAq]
      rcases compile_cases hok n1 hcn with ⟨e, hC⟩ | ⟨ρ, hP, hv, hC⟩
      · rw [hC, qAq, qAs (show (some e : Err).isSome = true from rfl)]
      rw [hC, qAq, qAr (by simp), qsh hI, qAq]
      obtain ⟨hinv, hE⟩ := qqn hI hok n1 hv hP.s rfl
      have hst := qqm (j := inp Ar) 39 y.Aa [] (b0 Ar)
      have hw := hP.w
      obtain ⟨r1, r2'⟩ := qyd (n := n) (i := Ar) (most := 1073741824) hI hP n1 (by omega) rfl
      generalize evL (evS (inp Ar) 39) [] (b0 Ar) y.Aa = o at *
      cases w : o.1 with
      | some e =>
        rw [w] at hE
        rw [r1 e w, qAq, qAq, hE, qAq, qAr (by simp [zR1]), Rt.num_eq, qAq, qAq, decide_eq_false (by simp), qAq, qAr (by simp), qtw (k := 0) (r := zR1) qye (by omega), qAq]
        rw [show JbO (⟨zR.Ae, zR.Af, zR.Ag, zR.Vary, zR.Ah, zR.TTL, zR.Ai, 0, zR.Ak, zR.Al⟩ : Jk) (r2 zR1) = some true from qxy (k := 0) (r := zR) qye (by omega)]; rfl
      | none =>
        rw [w] at hE
        obtain ⟨t, _, _, hR, _⟩ := r2' w
        have h0 : o.2.1.Aj = 0 := hst
        have hk := hinv.1
        have e1 : (⟨o.2.1.Ae, o.2.1.Af, o.2.1.Ag, o.2.1.Vary, o.2.1.Ah, o.2.1.TTL, o.2.1.Ai, 0, o.2.1.Ak, o.2.1.Al⟩ : Jk) = o.2.1 := by rw [← h0]
        rw [hR, qAq, qAq, hE, qAq]
        dsimp only
        rw [h0, qAr (by simp), Rt.num_eq, qAq, qAq, decide_eq_false (by simp), qAq, qAr (by simp), qtw hk (by omega), qAq]
        rw [show JbO (⟨(stp o.2.1 t).Ae, (stp o.2.1 t).Af, (stp o.2.1 t).Ag, (stp o.2.1 t).Vary, (stp o.2.1 t).Ah, (stp o.2.1 t).TTL, (stp o.2.1 t).Ai, 0, (stp o.2.1 t).Ak, (stp o.2.1 t).Al⟩ : Jk) (r2 o.2.1) = some true from by
          show JbO (⟨o.2.1.Ae, o.2.1.Af, o.2.1.Ag, o.2.1.Vary, o.2.1.Ah, o.2.1.TTL, o.2.1.Ai, 0, o.2.1.Ak, o.2.1.Al⟩ : Jk) (r2 o.2.1) = some true
          rw [e1]; exact qxy hk (by omega)]
        rfl
