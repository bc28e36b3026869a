import Derived.Test.YtmpdebfckeahmaaGreatDoorRtAm
set_option linter.unusedVariables false
set_option linter.unusedSimpArgs false
open Go Go.SL Go.Proofs Pl Vary Rt Rt.Rc Rt.Rv
namespace Rt.Rv
theorem qne : ∀ (f j : Nat) (r : R1), j ≤ r.Ag.length → r.Ag.length - j < f → r.Ag.length ≤ 100000 → (∀ (q : Nat) (h : q < r.Ag.length), j ≤ q → r.Ag[q].Value.length ≤ 100000) → ∃ t, Jaq f (j : Int) r = some t ∧ t.2.Vary = r.Vary ∧ t.2.Ah = r.Ah
  | 0, j, r, _, h, _, _ => by omega
  | f + 1, j, r, hj, hf, hl, hv => by
    rw [Jaq]
    by_cases q : j < r.Ag.length
    · have hx := hv j q (Nat.le_refl _)
      rw [qwx (by simpa using q), qiv q, qwv, qaa (by simp only [lim, List.length_singleton]; omega), qwv, qaa (by constructor <;> omega), Int.toNat_natCast]
      obtain ⟨t, h1, h2, h3⟩ := qne f (j + 1) (⟨r.Ae, r.Af, (r.Ag.set j (⟨r.Ag[j].Name, r.Ag[j].Value ++ [120]⟩ : Jc)), r.Vary, r.Ah, r.TTL, r.Ai, r.Aj, r.Ak, r.Al⟩ : R1)
        (by show j + 1 ≤ (r.Ag.set _ _).length; rw [List.length_set]; omega) (by show (r.Ag.set _ _).length - (j + 1) < f; rw [List.length_set]; omega) (by show (r.Ag.set _ _).length ≤ _; rw [List.length_set]; omega) (fun p hp hjp => by
          have hp' : p < r.Ag.length := by have : p < (r.Ag.set j _).length := hp; rwa [List.length_set] at this
          show ((r.Ag.set j _)[p]'hp).Value.length ≤ 100000
          rw [List.getElem_set_ne (by omega)]
          exact hv p hp' (by omega))
      exact ⟨t, h1, h2, h3⟩
    · rw [qww (by simpa using q)]; exact ⟨_, rfl, rfl, rfl⟩
theorem qnf : ∀ (f j : Nat) (r : R1), j ≤ r.Ah.length → r.Ah.length - j < f → r.Ah.length ≤ 100000 → ∃ t, Jar f (j : Int) r = some t ∧ t.2.Vary = r.Vary
  | 0, j, r, _, h, _ => by omega
  | f + 1, j, r, hj, hf, hl => by
    rw [Jar]
    by_cases q : j < r.Ah.length
    · rw [qwx (by simpa using q), qiv q, qwv, qaa (by constructor <;> omega), Int.toNat_natCast]
      obtain ⟨t, h1, h2⟩ := qnf f (j + 1) (⟨r.Ae, r.Af, r.Ag, r.Vary, (r.Ah.set j [120]), r.TTL, r.Ai, r.Aj, r.Ak, r.Al⟩ : R1)
        (by show j + 1 ≤ (r.Ah.set _ _).length; rw [List.length_set]; omega) (by show (r.Ah.set _ _).length - (j + 1) < f; rw [List.length_set]; omega) (by show (r.Ah.set _ _).length ≤ _; rw [List.length_set]; omega)
      exact ⟨t, h1, h2⟩
    · rw [qww (by simpa using q)]; exact ⟨_, rfl, rfl⟩
theorem qng : ∀ (f j : Nat) (r : R1), j ≤ r.Vary.length → r.Vary.length - j < f → r.Vary.length ≤ 100000 → ∃ t, Jas f (j : Int) r = some t
  | 0, j, r, _, h, _ => by omega
  | f + 1, j, r, hj, hf, hl => by
    rw [Jas]
    by_cases q : j < r.Vary.length
    · rw [qwx (by simpa using q), qiv q, qwv, qaa (by constructor <;> omega), Int.toNat_natCast]
      exact qng f (j + 1) (⟨r.Ae, r.Af, r.Ag, (r.Vary.set j [120]), r.Ah, r.TTL, r.Ai, r.Aj, r.Ak, r.Al⟩ : R1)
        (by show j + 1 ≤ (r.Vary.set _ _).length; rw [List.length_set]; omega) (by show (r.Vary.set _ _).length - (j + 1) < f; rw [List.length_set]; omega) (by show (r.Vary.set _ _).length ≤ _; rw [List.length_set]; omega)
    · rw [qww (by simpa using q)]; exact ⟨_, rfl⟩
theorem qpn {n : Nat} {i : In2} {y : M} (hI : IOK i) (hok : Ok 40 y) (hn : 2000100 ≤ n) : ∃ (r : R1) (e : Err), ROK 512 r ∧ JaL n y (inp i) = some (r, e) := by
  obtain ⟨b, b2⟩ := qpp (n := n) hok (by omega)
  have ck1 := qha (n := n) (d := 39) hok (by omega) (by omega) b2
  have z : ROK 512 zR1 := ⟨⟨Nat.zero_le _, (fun x hx => by cases hx)⟩, Nat.zero_le _, Nat.zero_le _⟩
  have bad : ∀ (l e : Int), Ja5 n y = some (l, some e) → ∃ (r : R1) (e : Err), ROK 512 r ∧ JaL n y (inp i) = some (r, e) := fun l e h => ⟨zR1, some e, z, by unfold JaL; rw [h]; rfl⟩
  cases b with
  | false => exact bad _ _ ck1
  | true =>
    rw [qwx rfl] at ck1
    unfold quy at ck1
    cases q : foldS (stm 39) base y.Aa with
    | error e => rw [q] at ck1; exact bad _ _ ck1
    | ok ρ =>
      obtain ⟨h1, h2⟩ := qoo hI hok hn b2 q rfl
      generalize evL (evS (inp i) 39) [] (b0 i) y.Aa = o at *
      cases w : o.1 with
      | some e => rw [w] at h2; exact ⟨zR1, some e, z, h2⟩
      | none => rw [w] at h2; exact ⟨o.2.1, none, h1.1, h2⟩
theorem qse (l : List RF) : uff (ffs l) = l := by unfold ffs uff; rw [List.map_map]; exact List.map_id l
end Rt.Rv
theorem Jdj (x : Jb) (Ar : Js) (o0 : Jb.ok x) (o1 : Js.ok Ar) : ∃ n, JbQ n x Ar = some true := by
  refine ⟨2000100 + Ar.Ao.length, ?_⟩
  generalize hN : 2000100 + Ar.Ao.length = n
  have n1 : 2000100 ≤ n := by omega
  obtain ⟨b2, hb2, hi⟩ := qs2 (n := n) (i := Ar) (by omega) o1
  have haw := qoj (n := n) (by omega)
  have hlg : ∀ b, Jb0 n x = some b → Jbx n x = some b := fun b h => by unfold Jbx; rw [h]; rfl
  unfold JbQ
  rw [haw, qwv, qww (by simp)]
  rcases Large_ok (n := n) o0 (by omega) with hL | ⟨hL, hx⟩
  · rw [hlg _ hL, qwv, qwv, qwx rfl, qwv, qwv, qwx rfl]
  · rw [hlg _ hL, qwv, qwv, qww (by simp), hb2, qwv, qwv, qwv]
    cases b2 with
    | false => rw [qwx (by simp)]; rfl
    | true =>
      have hI := hi rfl
      rw [qww (by simp)]
      obtain ⟨y, hy, cy⟩ := qtx 40 n x hx (by omega)
      obtain ⟨r, e, hr, hE⟩ := qpn hI (cy.ok hx) n1
      have h1 := hr.h.1
      have h3 := hr.v
      have h4 := hr.t
      have hb : Jcu r = some (r2 r) := quq hr (by omega)
      have hul : (uff r.Ag).length = r.Ag.length := qod _
      have hfl := qey Ar.Ao
      have hff := hI.f
      rw [hy, qwv, qqa hI, qwv, hE, qwv, hb, qwv]
      dsimp only
      rw [qaa (by show ([] : List Jh).length + (uff r.Ag).length ≤ lim; rw [hul]; simp only [lim, List.length_nil]; omega), qaa (by simp only [lim]; omega), qaa (by simp only [lim]; omega)]
      obtain ⟨t0, k0, k1, k2⟩ := qne n 0 r (by omega) (by omega) (by omega) fun q hq _ => by have := (hr.h.2 _ (List.getElem_mem hq)).2; omega
      obtain ⟨t2, k3, k4⟩ := qnf n 0 t0.2 (by omega) (by rw [k2]; omega) (by rw [k2]; omega)
      obtain ⟨t4, k5⟩ := qng n 0 t2.2 (by omega) (by rw [k4, k1]; omega) (by rw [k4, k1]; omega)
      rw [show (0 : Int) = ((0 : Nat) : Int) from rfl, k0, qwv, k3, qwv, k5, qwv, qwv, Rt.num_eq, qwv, qwv, qwx (by simp)]
      dsimp only
      rw [show JbG r (⟨(r2 r).Ae, (r2 r).Af, ([] : List Jh) ++ (r2 r).Ag, r.Vary, r.Ah, (r2 r).TTL, (r2 r).Ai, (r2 r).Aj, (r2 r).Ak, (r2 r).Al⟩ : Ji) = some true from qvp hr (by omega), qwv, qwv, qwx rfl]
      have ha := qrh (l := (inp Ar).Ao) (by show (ffs Ar.Ao).length ≤ 100000; unfold ffs; rw [List.length_map]; omega)
      rw [show uff (inp Ar).Ao = Ar.Ao from qse _] at ha
      rw [ha, qwv, qwv]
      show some (true && decide (Ar.Ae = Ar.Ae)) = some true
      simp
