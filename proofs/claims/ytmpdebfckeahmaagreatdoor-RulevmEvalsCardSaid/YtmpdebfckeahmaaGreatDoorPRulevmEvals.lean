import Derived.Test.YtmpdebfckeahmaaGreatDoorRtAm
set_option linter.unusedVariables false
set_option linter.unusedSimpArgs false
open Go Go.SL Go.Proofs Pl Rt Rt.Rc Rt.Rv
namespace Rt.Rv
def zR1 : R1 := ⟨[], [], [], [], [], 0, 0, 0, false, false⟩
theorem qta : Jb6 zR1 zR2 = some true := qxj (k := 0) (r := zR1) ⟨⟨Nat.le_refl _, (fun x hx => by cases hx)⟩, Nat.le_refl _, Nat.le_refl _⟩ (by omega)
def b0 (i : In2) : WSt := (⟨i.Ae, i.Af, [], [], [], -1, 0, 0, false, false⟩, false)
theorem quw (i : In2) : qt3 0 (b0 i) := ⟨⟨⟨Nat.le_refl _, (fun x hx => by cases hx)⟩, Nat.le_refl _, Nat.le_refl _⟩, rfl⟩
theorem qyf : TyV base (sgV []) := by
  rw [qvq]
  exact ⟨(fun s v h => by cases h), fun s _ => rfl⟩
/-- The whole of both evaluators, of a program that passes the check. -/
theorem qo9 {n : Nat} {i : In2} {x : N} {y : M} {ρ : Env} (hI : IOK i) (hx : OkN 40 x) (cy : Cvd 40 x y) (hn : 2000100 ≤ n) (hv : Jau n y = some true) (hf : foldS (stm 39) base y.Aa = .ok ρ) :
    ∃ o : Err × WSt, o = evL (evS (inp i) 39) [] (b0 i) y.Aa ∧ qy3 512 o ∧ JE n (⟨inp i, (b0 i).1, false⟩ : Jo) y.Aa [] = some (o.1, W (inp i) o.2) ∧ Jal n x.Aa [] (r2 (b0 i).1) i = some (outB o) := by
  have hok := cy.ok hx
  have hsm := qk8 hv 40
  obtain ⟨c1, c2, c3, c4⟩ := cy
  have hg : ∀ q ∈ y.Aa, Gd 39 q := fun q hq => ⟨hok.2.2 q hq, n, qgx hv q hq⟩
  have hl := hok.2.1
  have hc : Rt.cntL 39 y.Aa ≤ 512 := by rw [Rt.cnt_eq] at hsm; omega
  have hj : ∃ i', IOK i' ∧ inp i = inp i' := ⟨i, hI, rfl⟩
  have li := qiy hj 39 y.Aa 0 base ρ [] (b0 i) hg hf qyf (quw i)
  refine ⟨_, rfl, ⟨li.1.up (by omega), li.2⟩, ?_, ?_⟩
  · exact qt4 hj 39 n (by omega) y.Aa 0 base ρ [] (b0 i) hg hl hf qyf (by simp only [List.length_nil]; omega) (quw i) (by omega)
  · exact qxs hI 39 n (by omega) x.Aa y.Aa 0 base ρ [] (b0 i) c4 hg hl hf qyf (by simp only [List.length_nil]; omega) (quw i) (by omega)
end Rt.Rv
theorem Jek (x : Jb) (Ar : Ju) (o0 : Jb.ok x) (o1 : Ju.ok Ar) : ∃ n, JcI n x Ar = some true := by
  refine ⟨2000100 + Ar.Ao.length, ?_⟩
  generalize hN : 2000100 + Ar.Ao.length = n
  have n1 : 2000100 ≤ n := by omega
  obtain ⟨b2, hb2, hi⟩ := qvp (n := n) (i := Ar) (by omega) o1
  have haw := qqq (n := n) (by omega)
  have hlg : ∀ b, Jce n x = some b → Jcr n x = some b := fun b h => by unfold Jcr; rw [h]; rfl
  unfold JcI
  rw [haw, qzt, qzu (by simp)]
  rcases Large_ok (n := n) o0 (by omega) with hL | ⟨hL, hx⟩
  · rw [hlg _ hL, qzt, qzt, qzv rfl, qzt, qzt, qzv rfl]
  · rw [hlg _ hL, qzt, qzt, qzu (by simp), hb2, qzt, qzt, qzt]
    cases b2 with
    | false => rw [qzv (by simp)]; rfl
    | true =>
      have hI := hi rfl
      rw [qzu (by simp)]
      have cN := qpb hL
      obtain ⟨y, hy, cy⟩ := qwh 40 n x hx (by omega)
      obtain ⟨b, b1, bv⟩ := qpi (n := n) (d := 39) hx cy (by omega) (by omega) (Nat.le_trans cN (by omega))
      have ck1 := qnu (n := n) (d := 39) (cy.ok hx) (by omega) (by omega) bv
      have ck2 := qk4 (n := n) (d := 39) hx cy (by omega) (by omega) b1 bv
      rw [hy, qzt, qsj hI, qzt]
      have bad : ∀ (l e : Int), e ≠ 0 → Jbu n y = some (l, some e) → Jcy n x = some ⟨l, e⟩ → ((JbB n y (inp Ar)).bind fun x27 =>
          (Jcy n x).bind fun x31 =>
          if decide (x31.Code ≠ 0) then
          (Jdb x27.2).bind fun x36 =>
          (if decide (x36 = x31.Code) then (Jb6 x27.1 (⟨([] : Str), ([] : Str), [], [], [], 0, 0, 0, false, false⟩ : Jg)).bind fun x43 =>
          some x43 else some false).bind fun x44 =>
          some x44
          else
          (JdA n x Ar).bind fun x48 =>
          (Jdb x27.2).bind fun x52 =>
          (if decide (x52 = x48.2) then (Jb6 x27.1 x48.1).bind fun x58 =>
          some x58 else some false).bind fun x59 =>
          some x59) = some true := fun l e he h1 h2 => by
        have ev : JbB n y (inp Ar) = some (zR1, some e) := by unfold JbB; rw [h1]; rfl
        rw [ev, qzt, h2, qzt, qzv (decide_eq_true he), qtf, qzt]
        dsimp only [Option.getD_some]
        rw [qzv (decide_eq_true rfl), show Jb6 zR1 (⟨([] : Str), ([] : Str), [], [], [], 0, 0, 0, false, false⟩ : Jg) = some true from qta]; rfl
      cases b with
      | false => exact bad 0 2 (by decide) ck1 ck2
      | true =>
        rw [qzv rfl] at ck1 ck2
        unfold qyg at ck1
        cases q : foldS (stm 39) base y.Aa with
        | error e =>
          rw [q] at ck1 ck2
          exact bad e.1 e.2 (qmq q) ck1 ck2
        | ok ρ =>
          rw [q] at ck1 ck2
          obtain ⟨o, ho, hinv, hw, hr⟩ := qo9 (n := n) hI hx cy n1 bv q
          have ev2 : JdA n x Ar = some (outB o) := by
            unfold JdA JdH
            rw [qzt]
            rw [show Jal n x.Aa [] (⟨Ar.Ae, Ar.Af, [], [], [], (-1), 0, 0, false, false⟩ : Jg) Ar = some (outB o) from hr]; rfl
          have ev1 : JbB n y (inp Ar) = some (match o.1 with | some e => (zR1, some e) | none => (o.2.1, none)) := by
            unfold JbB
            rw [ck1, qzt, qzu (by simp)]
            rw [show JE n (⟨inp Ar, (⟨(inp Ar).Ae, (inp Ar).Af, [], [], [], (-1), 0, 0, false, false⟩ : Jh), false⟩ : Jo) y.Aa [] = some (o.1, W (inp Ar) o.2) from hw, qzt]
            cases w : o.1 with
            | some e => rfl
            | none => rfl
          rw [ev1, qzt, ck2, qzt, qzu (by simp [fl2]), ev2, qzt, qtf, qzt]
          unfold outB
          cases w : o.1 with
          | some e =>
            dsimp only [Option.getD_some]
            rw [qzv (decide_eq_true rfl), qta]; rfl
          | none =>
            dsimp only [Option.getD_none]
            rw [qzv (decide_eq_true rfl), qxj hinv.1 (by omega)]; rfl
