import Derived.Test.YtmpdebfckeahmaaGreatDoorRtAm
set_option linter.unusedVariables false
set_option linter.unusedSimpArgs false
open Go Go.SL Go.Proofs Pl Rt Rt.Rc Rt.Rv
namespace Rt.Rv
theorem len_cnt {d : Nat} : ∀ l : List N, l.length ≤ cntNL (d + 1) l
  | [] => by simp
  | x :: l => by
    have := len_cnt (d := d) l
    rw [cntNL_cons, cntN_eq, List.length_cons]; omega
theorem A2_split {d : Nat} {a b : N} : ∀ {l : List N} {k m : List M}, A2 (Cvd d) l k → A2 (Cvd d) (l ++ [a, b]) m → ∃ u v, m = k ++ [u, v] ∧ Cvd d a u ∧ Cvd d b v := by
  intro l
  induction l with
  | nil =>
    intro k m h h'
    cases h
    cases h' with
    | cons h1 h2 => cases h2 with
      | cons h3 h4 => cases h4; exact ⟨_, _, rfl, h1, h3⟩
  | cons x l ih =>
    intro k m h h'
    cases h with
    | cons p t => cases h' with
      | cons p' t' =>
        obtain ⟨u, v, e, h1, h2⟩ := ih t t'
        exact ⟨u, v, by rw [Rt.Cvd.func p p', e]; rfl, h1, h2⟩
theorem digits_eq {v : Int} (h : 0 ≤ v ∧ v ≤ 999) : ∃ s, Jc0 v = some s ∧ numP s = v ∧ s.length = 3 := by
  have e1 : Int.tdiv v 100 = v / 100 := Int.tdiv_eq_ediv_of_nonneg h.1
  have e2 : Int.tdiv v 10 = v / 10 := Int.tdiv_eq_ediv_of_nonneg h.1
  have e3 : Int.tmod (v / 10) 10 = v / 10 % 10 := Int.tmod_eq_emod_of_nonneg (by omega)
  have e4 : Int.tmod v 10 = v % 10 := Int.tmod_eq_emod_of_nonneg h.1
  refine ⟨[u8of (48 + v / 100), u8of (48 + v / 10 % 10), u8of (48 + v % 10)], ?_, ?_, rfl⟩
  · unfold Jc0
    rw [e1, e2, e3, e4, chk_bind ⟨by decide, by constructor <;> omega⟩, chk_bind (by constructor <;> omega), chk_bind ⟨by decide, by constructor <;> omega⟩, chk_bind (by constructor <;> omega), chk_bind (by constructor <;> omega)]
  · rw [digs_val (by omega) (by omega) (by omega)]; omega
end Rt.Rv
theorem JdF (x : Jb) (Ar : Jw) (status : Int) (o0 : Jb.ok x) (o1 : Jw.ok Ar) (o2 : InK .u16 status) : ∃ n, Jb7 n x Ar status = some true := by
  refine ⟨2000100 + Ar.Ao.length, ?_⟩
  generalize hN : 2000100 + Ar.Ao.length = n
  have n1 : 2000100 ≤ n := by omega
  obtain ⟨b2, hb2, hi⟩ := fits_eq (n := n) (i := Ar) (by omega) o1
  have haw := awake_eq' (n := n) (by omega)
  have hlg : ∀ b, JbY n x = some b → Jb9 n x = some b := fun b h => by unfold Jb9; rw [h]; rfl
  simp only [InK] at o2
  have e0 : Int.tmod status 1000 = status % 1000 := Int.tmod_eq_emod_of_nonneg o2.1
  have hv : 0 ≤ status % 1000 ∧ status % 1000 ≤ 999 := by omega
  unfold Jb7
  rw [haw, Option.bind_some, if_neg (by simp)]
  rcases Large_ok (n := n) o0 (by omega) with hL | ⟨hL, hx⟩
  · rw [hlg _ hL, Option.bind_some, Option.bind_some, if_pos rfl, Option.bind_some, Option.bind_some, if_pos rfl]
  · rw [hlg _ hL, Option.bind_some, Option.bind_some, if_neg (by simp), hb2, Option.bind_some, Option.bind_some, Option.bind_some]
    cases b2 with
    | false => rw [if_pos (by simp)]; rfl
    | true =>
      have hI := hi rfl
      rw [if_neg (by simp)]
      have cN := Large_cnt hL
      obtain ⟨y, hy, cy⟩ := Of_ok 40 n x hx (by omega)
      rw [hy, Option.bind_some, input_eq hI, Option.bind_some]
      rcases eval_one (n := n) hI hx cy n1 (by omega) with ⟨e, l, _, h1, _⟩ | ⟨bv, ρ, o, _, _, ho, hinv, h1⟩
      · rw [h1, Option.bind_some, if_pos (by rfl)]
      · rw [h1, Option.bind_some]
        cases w : o.1 with
        | some e => rw [if_pos (by rfl)]
        | none =>
          dsimp only
          rw [if_neg (by simp)]
          have hdi : DI o.2.1 := by rw [ho]; exact evL_di 39 _ _ _ (.inl rfl)
          have hen : o.2.2 = decide (o.2.1.Ai ≠ 0) := hinv.2.2 w
          have hD : (if decide (o.2.1.Ai ≠ 0) = true then some (decide (o.2.1.Ai < 400) || decide (o.2.1.Ai > 499)) else some false : Option Bool) = some false := by
            rcases hdi with h | h
            · rw [if_neg (by simp [h])]
            · rw [if_pos (by simp; omega)]; simp; omega
          rw [hD, Option.bind_some, if_neg (by simp), e0, chk_bind (by constructor <;> omega)]
          obtain ⟨s3, hs3, hs4, hs5⟩ := digits_eq hv
          obtain ⟨_, _, hc5, _, _⟩ := Valid_fwd (d := 39) hx cy (by omega) bv
          have hlen : x.Aa.length ≤ cntNL 39 x.Aa := len_cnt (d := 38) x.Aa
          rw [cntN_eq] at hc5
          have hx2 : OkN 40 (⟨x.Ab, x.Ac, x.Aa ++ [denyN s3, passN], x.Ad⟩ : N) := by
            obtain ⟨a1, a2, a3⟩ := hx
            refine ⟨a1, by simp only [List.length_append, List.length_cons, List.length_nil]; omega, fun k hk => ?_⟩
            rcases List.mem_append.1 hk with h | h
            · exact a3 k h
            · simp only [List.mem_cons, List.not_mem_nil, or_false] at h
              rcases h with rfl | rfl
              · refine ⟨by simp [denyN], by simp [denyN], fun k hk => ?_⟩
                simp only [denyN, List.mem_singleton] at hk
                subst hk
                exact ⟨by show s3.length ≤ 3000; omega, by simp, fun k hk => by cases hk⟩
              · exact ⟨by simp [passN], by simp [passN], fun k hk => by cases hk⟩
          have hc2 : cntN 40 (⟨x.Ab, x.Ac, x.Aa ++ [denyN s3, passN], x.Ad⟩ : N) ≤ 10000 := by
            rw [cntN_eq]
            show 1 + cntNL 39 (x.Aa ++ [denyN s3, passN]) ≤ 10000
            rw [cntNL_append]
            have : cntNL 39 [denyN s3, passN] = 3 := rfl
            omega
          obtain ⟨y2, hy2, cy2⟩ := Of_ok 40 n _ hx2 (by omega)
          rw [hs3, Option.bind_some, chk_bind (by simp only [lim]; omega), chk_bind (by simp only [lim, List.length_cons, List.length_nil]; omega)]
          rw [show Jb6 n (⟨x.Ab, x.Ac, (x.Aa ++ [(⟨9, ([] : Str), [(⟨20, s3, [], 1⟩ : Jb)], 1⟩ : Jb), (⟨10, ([] : Str), [], 1⟩ : Jb)]), x.Ad⟩ : Jb) = some y2 from hy2, Option.bind_some, Option.bind_some]
          rcases eval_one (n := n) hI hx2 cy2 n1 hc2 with ⟨e, l, he, g1, g2⟩ | ⟨bv2, ρ2, o2', g0, g2, ho2, hinv2, g1⟩
          · rw [g1, Option.bind_some, show JbP n (⟨x.Ab, x.Ac, (x.Aa ++ [(⟨9, ([] : Str), [(⟨20, s3, [], 1⟩ : Jb)], 1⟩ : Jb), (⟨10, ([] : Str), [], 1⟩ : Jb)]), x.Ad⟩ : Jb) = some ⟨l, e⟩ from g2, Option.bind_some, if_pos (decide_eq_true he)]; rfl
          · rw [g1, Option.bind_some, show JbP n (⟨x.Ab, x.Ac, (x.Aa ++ [(⟨9, ([] : Str), [(⟨20, s3, [], 1⟩ : Jb)], 1⟩ : Jb), (⟨10, ([] : Str), [], 1⟩ : Jb)]), x.Ad⟩ : Jb) = some ⟨0, 0⟩ from g2, Option.bind_some, if_neg (by decide)]
            obtain ⟨u, v, hk2, cu, _⟩ := A2_split cy.2.2.2 cy2.2.2.2
            obtain ⟨E', hap⟩ := (evL_append (g := evS (inp Ar) 39) [u, v] y.Aa [] (b0 Ar)).1 (by rw [← ho]; exact w)
            rw [hk2, hap, ← ho, evL_deny (d := 37) cu hs4 hv hen] at ho2
            have hr2 := ref_eq (r := o2'.2.1) hinv2.1 (by omega)
            have his := is_r2 (r := o2'.2.1) hinv2.1 (by omega)
            have w2 : o2'.1 = none := by rw [ho2]
            have fin : (((if decide (o.2.1.Ai = 0) then
                (if decide (status % 1000 ≥ 400) then some (decide (status % 1000 ≤ 499)) else some false).bind fun x89 =>
                if x89 then
                (chk (InI (status % 1000))).bind fun _ =>
                some (⟨o.2.1.Ae, o.2.1.Af, o.2.1.Ag, o.2.1.Vary, o.2.1.Ah, o.2.1.TTL, (status % 1000), o.2.1.Aj, o.2.1.Ak, o.2.1.Al⟩ : Jf)
                else
                some (⟨o.2.1.Ae, o.2.1.Af, o.2.1.Ag, o.2.1.Vary, o.2.1.Ah, o.2.1.TTL, 403, o.2.1.Aj, o.2.1.Ak, o.2.1.Al⟩ : Jf)
                else
                some o.2.1 : Option (Jf)))) = some o2'.2.1 := by
              rw [ho2]
              by_cases q : o.2.1.Ai = 0
              · rw [if_pos (decide_eq_true q), if_pos q]
                by_cases q4 : status % 1000 ≥ 400
                · rw [if_pos (decide_eq_true q4), Option.bind_some]
                  by_cases q5 : status % 1000 ≤ 499
                  · rw [if_pos (decide_eq_true q5), chk_bind (by constructor <;> omega), if_neg (by omega)]
                  · rw [if_neg (by rw [decide_eq_true_eq]; exact q5), if_pos (by omega)]
                · rw [if_neg (by rw [decide_eq_true_eq]; exact q4), Option.bind_some, if_neg (by simp), if_pos (by omega)]
              · rw [if_neg (by rw [decide_eq_true_eq]; exact q), if_neg q]
            rw [fin, Option.bind_some, w2]
            dsimp only
            rw [if_pos (by rfl), hr2, Option.bind_some, his]; rfl
