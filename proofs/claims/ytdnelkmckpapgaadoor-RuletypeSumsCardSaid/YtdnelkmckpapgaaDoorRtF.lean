/- Ruletype: the steps of an expression that is right, in any environment that holds its names. -/
import Derived.Test.YtdnelkmckpapgaaDoorRtE
set_option linter.unusedVariables false
set_option linter.unusedSimpArgs false
open Go Go.SL Go.Proofs Pl
namespace Rt
theorem kids_ps {d : Nat} {f : M → List Bd → Option (Int × Int)} {E : List Bd → Prop} {Q : M → Int → Prop} : ∀ {l : List M} {ts : List Int}, A2 Q l ts → (∀ k ∈ l, ∀ t, Q k t → ∃ s, Gp d f E k (t, s)) → ∃ ps, A2 (Gp d f E) l ps ∧ ps.map (·.1) = ts
  | [], _, .nil, _ => ⟨[], .nil, rfl⟩
  | k :: l, t :: ts, .cons hq h, hk => by
    obtain ⟨s, hs⟩ := hk k (by simp) t hq
    obtain ⟨ps, h1, h2⟩ := kids_ps h fun q hq => hk q (by simp [hq])
    exact ⟨(t, s) :: ps, .cons hs h1, by simp [h2]⟩
def EE (env : List Bd) (e : List Bd) : Prop := Ev env e ∧ e.length ≤ 100000
theorem fail_none {c : Ck} {x : M} {e : Int} {r : Ck} (h : ruletype_checker_fail c x (some e) = some r) : r.err ≠ none := by
  unfold ruletype_checker_fail at h
  cases q : c.err with
  | none => rw [q, if_pos (by simp)] at h; cases h; simp
  | some a => rw [q, if_neg (by simp)] at h; cases h; rw [q]; simp
theorem steps_ok {env : List Bd} (hel : env.length ≤ 100000) : ∀ (d n n2 : Nat) (x : M) (l0 t : Int) (c' : Ck), Ok d x → (∃ m, ruletree_expression m x = some true) → cnt d x ≤ 10000 → d + 200000 ≤ n → d + 200000 ≤ n2 →
    ruletype_checker_expr n ⟨l0, none⟩ x env = some (t, c') → c'.err = none → ∃ s, Gp d (ruletype_steps n2) (EE env) x (t, s)
  | 0, _, _, x, _, _, _, h, _, _, _, _, _, _ => h.elim
  | d + 1, 0, _, x, _, _, _, h, _, _, hn, _, _, _ => by omega
  | d + 1, n + 1, 0, x, _, _, _, h, _, _, _, hn, _, _ => by omega
  | d + 1, n + 1, n2 + 1, x, l0, t, c', h, ⟨m, hv⟩, hc, hn, hn2, hx, he => by
    obtain ⟨h1, h2, h3⟩ := h
    obtain ⟨m', k, _, hk, k2, k3, k4⟩ := expression_inv hv
    rw [cnt_eq] at hc
    rw [ruletype_checker_expr] at hx
    obtain ⟨_, hx1⟩ := chkb hx
    obtain ⟨r, hr, hx2⟩ := bnd hx1
    obtain ⟨g1, g2⟩ := cexpr_L0_inv x.Kids 0 [] l0 r hr
    cases r with
    | ret z =>
      rw [el_ret] at hx2
      cases hx2
      exact absurd he (g1 _ rfl)
    | go z =>
      obtain ⟨z1, ts, z2, z3⟩ := g2 z rfl
      rw [el_go] at hx2
      obtain ⟨ps, p1, p2⟩ := kids_ps (d := d) (f := ruletype_steps n2) (E := EE env) z3 fun q hq t' ⟨a, c, e1, e2⟩ =>
        steps_ok hel d n n2 q a t' c (h3 q hq) ⟨m', k4 q hq⟩ (by have := cnt_mem (d := d) hq; omega) (by omega) (by omega) e1 e2
      have hsum := gp_sum p1
      have hhead : ∀ e, EE env e → ruletype_steps_L0 (ruletype_steps n2) e x.Kids 0 [] 0 0 = some (ts, fst0 ps, sums ps) := fun e he => by
        have := (steps_head he p1 (by omega) (by omega)).1
        rw [p2] at this; exact this
      have hz : z.1 = ts := by rw [z2]; rfl
      have htl : ts.length ≤ 700 := by have := z3.len; omega
      have hf : 0 ≤ fst0 ps ∧ fst0 ps ≤ sums ps := (steps_head (e := env) ⟨Ev.refl _, hel⟩ p1 (by omega) (by omega)).2
      have fin : ∀ s : Int, 0 ≤ s → s ≤ sums ps + 64 → (∀ e, EE env e → ruletype_steps (n2 + 1) x e = some (t, s)) → ∃ s, Gp (d + 1) (ruletype_steps (n2 + 1)) (EE env) x (t, s) := fun s s0 s1 hs => ⟨s, s0, by rw [cnt_eq]; show s ≤ _; omega, hs⟩
      by_cases q20 : x.Kind = 20
      · rw [if_pos (by simpa using q20)] at hx2
        cases hx2
        refine fin 1 (by omega) (by omega) fun e he => ?_
        rw [ruletype_steps, chk_bind (by simp only [szMax]; omega), hhead e he, Option.bind_some, if_pos (by simpa using q20)]
      rw [if_neg (by simpa using q20)] at hx2
      by_cases q21 : x.Kind = 21
      · rw [if_pos (by simpa using q21)] at hx2
        cases hx2
        refine fin 1 (by omega) (by omega) fun e he => ?_
        rw [ruletype_steps, chk_bind (by simp only [szMax]; omega), hhead e he, Option.bind_some, if_neg (by simpa using q20), if_pos (by simpa using q21)]
      rw [if_neg (by simpa using q21)] at hx2
      by_cases q22 : x.Kind = 22
      · rw [if_pos (by simpa using q22)] at hx2
        cases hx2
        refine fin 3 (by omega) (by omega) fun e he => ?_
        rw [ruletype_steps, chk_bind (by simp only [szMax]; omega), hhead e he, Option.bind_some, if_neg (by simpa using q20), if_neg (by simpa using q21), if_pos (by simpa using q22)]
      rw [if_neg (by simpa using q22)] at hx2
      by_cases q23 : x.Kind = 23
      · rw [if_pos (by simpa using q23), lookup_eq hel (by omega), Option.bind_some] at hx2
        by_cases q0 : lk x.Text env = 0
        · rw [if_pos (by simpa using q0)] at hx2
          obtain ⟨u, hu, hx3⟩ := bnd hx2
          cases hx3
          exact absurd he (fail_none hu)
        · rw [if_neg (by simpa using q0)] at hx2
          cases hx2
          refine fin 1 (by omega) (by omega) fun e he => ?_
          rw [ruletype_steps, chk_bind (by simp only [szMax]; omega), hhead e he, Option.bind_some, if_neg (by simpa using q20), if_neg (by simpa using q21), if_neg (by simpa using q22), if_pos (by simpa using q23), lookup_eq he.2 (by have := he.2; omega), Option.bind_some, he.1 _ q0]
      rw [if_neg (by simpa using q23)] at hx2
      by_cases q24 : x.Kind = 24
      · rw [if_pos (by simpa using q24)] at hx2
        obtain ⟨u, hu, hx3⟩ := bnd hx2
        cases hx3
        rw [hz] at hu
        obtain ⟨c2, hc2⟩ := call_t (c0 := ⟨0, none⟩) (t := u.1) (c1 := u.2) hu
        by_cases q1 : u.1 = 1
        · refine fin (sums ps + 32 + 1) (by omega) (by omega) fun e he => ?_
          rw [ruletype_steps, chk_bind (by simp only [szMax]; omega), hhead e he, Option.bind_some, if_neg (by simpa using q20), if_neg (by simpa using q21), if_neg (by simpa using q22), if_neg (by simpa using q23), if_pos (by simpa using q24), hc2, Option.bind_some, if_pos (by simpa using q1), chk_bind (by constructor <;> simp only <;> omega), chk_bind (by constructor <;> simp only <;> omega)]
        · refine fin (sums ps + 1) (by omega) (by omega) fun e he => ?_
          rw [ruletype_steps, chk_bind (by simp only [szMax]; omega), hhead e he, Option.bind_some, if_neg (by simpa using q20), if_neg (by simpa using q21), if_neg (by simpa using q22), if_neg (by simpa using q23), if_pos (by simpa using q24), hc2, Option.bind_some, if_neg (by simpa using q1), chk_bind (by constructor <;> simp only <;> omega)]
      rw [if_neg (by simpa using q24)] at hx2
      obtain ⟨t1, ht1, hx3⟩ := bnd hx2
      rw [hz] at ht1
      by_cases q0 : t1 = 0
      · rw [if_pos (by simpa using q0)] at hx3
        obtain ⟨u, hu, hx4⟩ := bnd hx3
        cases hx4
        exact absurd he (fail_none hu)
      rw [if_neg (by simpa using q0)] at hx3
      cases hx3
      have three : ∀ {o : Option Bool}, (o.bind fun b => if b = true then some (3 : Int) else some 0) = some t → t = 3 := fun {o} h => by
        obtain ⟨b, _, h⟩ := bnd h
        cases b with
        | true => rw [if_pos rfl] at h; cases h; rfl
        | false => rw [if_neg (by simp)] at h; cases h; exact absurd rfl q0
      by_cases q14 : x.Kind = 14
      · have ht : t = 3 := by
          unfold ruletype_operator at ht1
          rw [q14, if_neg (by decide), if_neg (by decide), if_neg (by decide), if_neg (by decide), if_pos (by decide)] at ht1
          exact three ht1
        subst ht
        refine fin ((fst0 ps + 1) + max 3 ((sums ps - fst0 ps) + 1)) (by omega) (by omega) fun e he => ?_
        rw [ruletype_steps, chk_bind (by simp only [szMax]; omega), hhead e he, Option.bind_some, if_neg (by simpa using q20), if_neg (by simpa using q21), if_neg (by simpa using q22), if_neg (by simpa using q23), if_neg (by simpa using q24), if_pos (by simpa using q14), if_pos (by simpa using q14),
          chk_bind (by constructor <;> simp only <;> omega), chk_bind (by constructor <;> simp only <;> omega), chk_bind (by constructor <;> simp only <;> omega), chk_bind (by constructor <;> simp only <;> omega)]
      by_cases q13 : x.Kind = 13
      · have ht : t = 3 := by
          unfold ruletype_operator at ht1
          rw [q13, if_neg (by decide), if_neg (by decide), if_neg (by decide), if_pos (by decide)] at ht1
          exact three ht1
        subst ht
        refine fin ((fst0 ps + 1) + max 4 (sums ps - fst0 ps)) (by omega) (by omega) fun e he => ?_
        rw [ruletype_steps, chk_bind (by simp only [szMax]; omega), hhead e he, Option.bind_some, if_neg (by simpa using q20), if_neg (by simpa using q21), if_neg (by simpa using q22), if_neg (by simpa using q23), if_neg (by simpa using q24), if_neg (by simpa using q14), if_pos (by simpa using q13), if_neg (by simpa using q14),
          chk_bind (by constructor <;> simp only <;> omega), chk_bind (by constructor <;> simp only <;> omega), chk_bind (by constructor <;> simp only <;> omega)]
      by_cases q1 : t = 1
      · refine fin (sums ps + 32 + 1) (by omega) (by omega) fun e he => ?_
        rw [ruletype_steps, chk_bind (by simp only [szMax]; omega), hhead e he, Option.bind_some, if_neg (by simpa using q20), if_neg (by simpa using q21), if_neg (by simpa using q22), if_neg (by simpa using q23), if_neg (by simpa using q24), if_neg (by simpa using q14), if_neg (by simpa using q13), ht1, Option.bind_some, if_pos (by simpa using q1), chk_bind (by constructor <;> simp only <;> omega), chk_bind (by constructor <;> simp only <;> omega)]
      · refine fin (sums ps + 1) (by omega) (by omega) fun e he => ?_
        rw [ruletype_steps, chk_bind (by simp only [szMax]; omega), hhead e he, Option.bind_some, if_neg (by simpa using q20), if_neg (by simpa using q21), if_neg (by simpa using q22), if_neg (by simpa using q23), if_neg (by simpa using q24), if_neg (by simpa using q14), if_neg (by simpa using q13), ht1, Option.bind_some, if_neg (by simpa using q1), chk_bind (by constructor <;> simp only <;> omega)]
end Rt
