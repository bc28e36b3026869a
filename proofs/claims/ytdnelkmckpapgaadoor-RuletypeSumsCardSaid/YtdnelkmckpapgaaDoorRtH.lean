/- Ruletype: the worst case of statements that are right, in any environment that holds their names. -/
import Derived.Test.YtdnelkmckpapgaaDoorRtG
set_option linter.unusedVariables false
set_option linter.unusedSimpArgs false
open Go Go.SL Go.Proofs Pl
namespace Rt
theorem branch_cnt {d : Nat} {k : M} {q : List M} (h : Ok d k) (hb : ruletype_branch k = some q) : cntL d q ≤ cnt d k := by
  unfold ruletype_branch at hb
  split at hb
  · cases hb
    cases d with
    | zero => exact h.elim
    | succ d =>
      have : ∀ l : List M, (∀ k ∈ l, Ok d k) → cntL (d + 1) l = cntL d l := by
        intro l
        induction l with
        | nil => intro _; rfl
        | cons a l ih => intro hl; rw [cntL_cons, cntL_cons, ih fun k hk => hl k (by simp [hk]), cnt_succ (hl a (by simp))]
      rw [this _ h.2.2, cnt_eq]; omega
  · cases hb
    simp [cntL]
theorem L3_inv {f : Ck → List M → List Bd → Option Ck} {env : List Bd} (hstay : ∀ c l env r, f c l env = some r → c.err ≠ none → r.err ≠ none) : ∀ (l : List M) (i : Nat) (a : Int) (e : Err) (t : Int × Err), ruletype_checker_block_L3 f env l i a e = some t → t.2 = none → e = none ∧ ∀ k ∈ l, ∃ q a c, ruletype_branch k = some q ∧ f ⟨a, none⟩ q env = some c ∧ c.err = none
  | [], i, a, e, t, h, ht => by cases h; exact ⟨ht, fun k hk => by cases hk⟩
  | k :: l, i, a, e, t, h, ht => by
    rw [ruletype_checker_block_L3] at h
    obtain ⟨q, hq, h1⟩ := bnd h
    obtain ⟨c, hc, h2⟩ := bnd h1
    obtain ⟨g1, g2⟩ := L3_inv hstay l (i + 1) _ _ t h2 ht
    have he : e = none := by
      cases e with
      | none => rfl
      | some e' => exact absurd g1 (hstay _ _ _ _ hc (by simp))
    subst he
    refine ⟨rfl, fun k' hk => ?_⟩
    rcases List.mem_cons.1 hk with rfl | hk
    · exact ⟨q, a, c, hq, hc, g1⟩
    · exact g2 k' hk
set_option maxRecDepth 100000 in
theorem block_L0_worst {n n2 d : Nat} {f : Ck → List M → List Bd → Option Ck} {f2 : List M → List Bd → Option Int} (hn : d + 200000 ≤ n) (hn2 : d + 200000 ≤ n2)
    (hstay : ∀ c l env r, f c l env = some r → c.err ≠ none → r.err ≠ none)
    (hf : ∀ (l : List M) (env : List Bd) (a : Int) (c' : Ck), (∀ x ∈ l, Gd d x) → l.length ≤ 700 → cntL d l ≤ 10000 → env.length + 701 * (d + 1) ≤ 90000 → f ⟨a, none⟩ l env = some c' → c'.err = none →
      ∃ w : Int, 0 ≤ w ∧ w ≤ 200 * (cntL d l : Int) ∧ ∀ e, Ev env e → e.length + 701 * (d + 1) ≤ 90000 → f2 l e = some w) :
    ∀ (l : List M) (i : Nat) (env : List Bd) (a : Int) (z : List Bd × Int × Err), (∀ x ∈ l, Gd (d + 1) x) → cntL (d + 1) l ≤ 10000 → env.length + l.length + 701 * (d + 1) ≤ 90000 → ruletype_checker_block_L0 n f l i env a none = some (Fl.go z) → z.2.2 = none →
    ∃ w : Int, (l.length : Int) ≤ w ∧ w ≤ 200 * (cntL (d + 1) l : Int) ∧ Ev env z.1 ∧ ∀ (j : Nat) (e : List Bd) (y : Int), Ev env e → e.length + l.length + 701 * (d + 1) ≤ 90000 → 0 ≤ y → y + 200 * (cntL (d + 1) l : Int) ≤ 100000000 →
      ∃ e1, ruletype_worst_L0 n2 f2 l j e y = some (e1, y + w) ∧ Ev z.1 e1 ∧ e1.length ≤ e.length + l.length
  | [], i, env, a, z, _, _, _, h, _ => by
    cases h
    exact ⟨0, by simp, by simp [cntL], Ev.refl _, fun j e y he _ _ _ => ⟨e, by simp [ruletype_worst_L0], he, by simp⟩⟩
  | x :: l, i, env, a, z, hg, hc, hl, h, hz => by
    simp only [List.length_cons] at hl
    rw [cntL_cons] at hc
    have hgl : ∀ y ∈ l, Gd (d + 1) y := fun y hy => hg y (by simp [hy])
    obtain ⟨⟨o1, o2, o3⟩, m0, hm⟩ := hg x (by simp)
    obtain ⟨m, _, k0, k2⟩ := stated_inv hm
    have hcx : cnt (d + 1) x = 1 + cntL d x.Kids := cnt_eq d x
    -- what follows, once the statement itself is done: its own worst case is v, the environment behind it is env'
    have fin : ∀ (env' : List Bd) (a' : Int) (v : Int), 1 ≤ v → v ≤ 200 * (cnt (d + 1) x : Int) → env'.length ≤ env.length + 1 → Ev env env' → ruletype_checker_block_L0 n f l (i + 1) env' a' none = some (Fl.go z) →
        (∀ (j : Nat) (e : List Bd) (y : Int), Ev env e → e.length + (l.length + 1) + 701 * (d + 1) ≤ 90000 → 0 ≤ y → y + 200 * (cnt (d + 1) x : Int) ≤ 100000000 → ∃ e', Ev env' e' ∧ e'.length ≤ e.length + 1 ∧ ruletype_worst_L0 n2 f2 (x :: l) j e y = ruletype_worst_L0 n2 f2 l (j + 1) e' (y + v)) →
        ∃ w : Int, ((x :: l).length : Int) ≤ w ∧ w ≤ 200 * (cntL (d + 1) (x :: l) : Int) ∧ Ev env z.1 ∧ ∀ (j : Nat) (e : List Bd) (y : Int), Ev env e → e.length + (x :: l).length + 701 * (d + 1) ≤ 90000 → 0 ≤ y → y + 200 * (cntL (d + 1) (x :: l) : Int) ≤ 100000000 →
          ∃ e1, ruletype_worst_L0 n2 f2 (x :: l) j e y = some (e1, y + w) ∧ Ev z.1 e1 ∧ e1.length ≤ e.length + (x :: l).length := fun env' a' v v1 v2 hle hev hb hw => by
      obtain ⟨w, w1, w2, w3, w4⟩ := block_L0_worst hn hn2 hstay hf l (i + 1) env' a' z hgl (by omega) (by omega) hb hz
      refine ⟨v + w, by rw [List.length_cons]; omega, by rw [cntL_cons]; omega, hev.trans w3, fun j e y he hle2 y0 y1 => ?_⟩
      rw [List.length_cons] at hle2
      rw [cntL_cons] at y1
      obtain ⟨e', q1, q2, q3⟩ := hw j e y he hle2 y0 (by omega)
      obtain ⟨e1, r1, r2, r3⟩ := w4 (j + 1) e' (y + v) q1 (by omega) (by omega) (by omega)
      exact ⟨e1, by rw [q3, r1, Int.add_assoc], r2, by rw [List.length_cons]; omega⟩
    rw [ruletype_checker_block_L0] at h
    by_cases hk0 : (x.Kids.length : Int) = 0
    · rw [if_pos (by simpa using hk0)] at h
      refine fin env a 1 (by omega) (by omega) (by omega) (Ev.refl _) h fun j e y he hle y0 y1 => ⟨e, he, by omega, ?_⟩
      rw [ruletype_worst_L0, chk_bind (by constructor <;> omega), if_pos (by simpa using hk0)]
    · rw [if_neg (by simpa using hk0)] at h
      obtain ⟨q0, rest, hkids⟩ : ∃ q0 rest, x.Kids = q0 :: rest := by
        cases hx : x.Kids with
        | nil => rw [hx] at hk0; exact absurd rfl hk0
        | cons q0 rest => exact ⟨q0, rest, rfl⟩
      have hi0 : ix x.Kids 0 = some q0 := by rw [hkids]; rfl
      rw [hi0, Option.bind_some] at h
      obtain ⟨t, ht, h1⟩ := bnd h
      obtain ⟨nd, hnd, h2⟩ := bnd h1
      have he0 : t.2.err = none := by
        cases q : t.2.err with
        | none => rfl
        | some e' =>
          rw [q, if_neg (by simp), if_pos (by simp)] at h2
          cases h2
      rw [he0] at h2
      have hm0 : q0 ∈ x.Kids := by rw [hkids]; simp
      have hc0 : cnt d q0 + cntL d rest = cntL d x.Kids := by rw [hkids, cntL_cons]
      obtain ⟨s, s0, s1, s2⟩ := steps_ok (env := env) (by omega) d n n2 q0 a t.1 t.2 (o3 q0 hm0) ⟨m, k0 q0 (by rw [hkids]; rfl)⟩ (by omega) hn hn2 (by rw [ht]) he0
      simp only at s0 s1
      -- the first steps of worst
      have hw0 : ∀ (j : Nat) (e : List Bd) (y : Int), Ev env e → e.length + (l.length + 1) + 701 * (d + 1) ≤ 90000 → 0 ≤ y → y + 200 * (cnt (d + 1) x : Int) ≤ 100000000 → ruletype_worst_L0 n2 f2 (x :: l) j e y =
          (if decide (x.Kind = 3) then
    (ruletype_extended e x.Text t.1).bind fun x43 =>
    ruletype_worst_L0 n2 f2 l (j + 1) x43 ((y + 1) + s)
    else
    if decide (x.Kind = 2) then
    (ix x.Kids 1).bind fun x48 =>
    (ruletype_branch x48).bind fun x50 =>
    (f2 x50 e).bind fun x52 =>
    if decide ((x.Kids.length : Int) > 2) then
    (chk (InI (x52 + 1))).bind fun _ =>
    (ix x.Kids 2).bind fun x61 =>
    (ruletype_branch x61).bind fun x63 =>
    (f2 x63 e).bind fun x65 =>
    (chk (InI (((y + 1) + s) + (max (x52 + 1) x65)))).bind fun _ =>
    ruletype_worst_L0 n2 f2 l (j + 1) e (((y + 1) + s) + (max (x52 + 1) x65))
    else
    (chk (InI (((y + 1) + s) + x52))).bind fun _ =>
    ruletype_worst_L0 n2 f2 l (j + 1) e (((y + 1) + s) + x52)
    else
    ruletype_worst_L0 n2 f2 l (j + 1) e ((y + 1) + s)) := fun j e y he hle y0 y1 => by
        rw [ruletype_worst_L0, chk_bind (by constructor <;> omega), if_neg (by simpa using hk0), hi0, Option.bind_some, s2 e ⟨he, by omega⟩, Option.bind_some, chk_bind (by constructor <;> simp only <;> omega)]
      cases hcond : ((Option.isNone (none : Err) && decide (nd ≠ 0)) && decide (t.1 ≠ nd)) with
      | true =>
        rw [hcond, if_pos rfl] at h2
        obtain ⟨u, hu, h3⟩ := bnd h2
        have := fail_none hu
        cases q : u.err with
        | none => exact absurd q this
        | some e' => rw [q, if_pos (by simp)] at h3; cases h3
      | false =>
        rw [hcond, if_neg (by simp), if_neg (by simp)] at h2
        by_cases q3 : x.Kind = 3
        · rw [if_pos (by simpa using q3)] at h2
          unfold ruletype_declared at h2
          rw [lookup_eq (by omega) (by omega), Option.bind_some, Option.bind_some] at h2
          by_cases ql : lk x.Text env = 0
          · rw [if_neg (by simpa using ql), extended_eq (by omega), Option.bind_some, if_neg (by simp)] at h2
            refine fin _ _ (1 + s) (by omega) (by omega) (by simp) (Ev.ext ql) h2 fun j e y he hle y0 y1 => ⟨e ++ [⟨x.Text, t.1⟩], he.snoc _, by simp, ?_⟩
            rw [hw0 j e y he hle y0 y1, if_pos (by simpa using q3), extended_eq (by omega), Option.bind_some, Int.add_assoc]
          · rw [if_pos (by simpa using ql)] at h2
            obtain ⟨u, hu, h3⟩ := bnd h2
            have hu' := fail_none hu
            rw [extended_eq (by omega), Option.bind_some] at h3
            cases q : u.err with
            | none => exact absurd q hu'
            | some e' => rw [q, if_pos (by simp)] at h3; cases h3
        · rw [if_neg (by simpa using q3)] at h2
          by_cases q2 : x.Kind = 2
          · rw [if_pos (by simpa using q2)] at h2
            obtain ⟨g1, g2⟩ := k2 q2
            have hsub : subL x.Kids (1 : Int) (x.Kids.length : Int) = x.Kids.drop 1 := by
              unfold subL
              rw [show ((1 : Int)).toNat = 1 from rfl]
              exact List.take_of_length_le (by rw [List.length_drop]; omega)
            obtain ⟨_, h3⟩ := chkb h2
            obtain ⟨_, h4⟩ := chkb h3
            rw [hsub] at h4
            obtain ⟨t3, ht3, h5⟩ := bnd h4
            cases q : t3.2 with
            | some e' => rw [q, if_pos (by simp)] at h5; cases h5
            | none =>
              rw [q, if_neg (by simp)] at h5
              obtain ⟨_, hks⟩ := L3_inv hstay _ _ _ _ _ ht3 q
              -- what a branch takes
              have br : ∀ k ∈ rest, ∃ p w, ruletype_branch k = some p ∧ 0 ≤ w ∧ w ≤ 200 * (cnt d k : Int) ∧ ∀ e, Ev env e → e.length + 701 * (d + 1) ≤ 90000 → f2 p e = some w := fun k hk => by
                have hkd : k ∈ x.Kids.drop 1 := by rw [hkids]; exact hk
                have hkm : k ∈ x.Kids := by rw [hkids]; simp [hk]
                obtain ⟨p, pa, pc, e1, e2, e3⟩ := hks k hkd
                obtain ⟨p', e1', pl, pg⟩ := branch_ok (o3 k hkm) (by
                  rcases g2 k hkd with ⟨a1, a2⟩ | ⟨a1, a2⟩
                  · exact .inl ⟨a1, fun q hq => ⟨m, a2 q hq⟩⟩
                  · exact .inr ⟨a1, m, a2⟩)
                rw [e1] at e1'
                cases e1'
                have hbc := branch_cnt (o3 k hkm) e1
                have hkc := cnt_mem (d := d) hk
                obtain ⟨w, w1, w2, w3⟩ := hf p env pa pc pg pl (by omega) (by omega) e2 e3
                exact ⟨p, w, e1, w1, by omega, w3⟩
              obtain ⟨k1, rest1, hr1⟩ : ∃ k1 rest1, rest = k1 :: rest1 := by
                cases hx : rest with
                | nil => rw [hkids, hx] at g1; simp at g1
                | cons k1 rest1 => exact ⟨k1, rest1, rfl⟩
              obtain ⟨p1, w1, b1, v1, v2, v3⟩ := br k1 (by rw [hr1]; simp)
              have hi1 : ix x.Kids 1 = some k1 := by rw [hkids, hr1]; rfl
              have hcr : cnt d k1 + cntL d rest1 = cntL d rest := by rw [hr1, cntL_cons]
              cases hx2 : rest1 with
              | nil =>
                have hl2 : ¬ (x.Kids.length : Int) > 2 := by rw [hkids, hr1, hx2]; simp
                refine fin env t3.1 (1 + s + w1) (by omega) (by omega) (by omega) (Ev.refl _) h5 fun j e y he hle y0 y1 => ⟨e, he, by omega, ?_⟩
                rw [hw0 j e y he hle y0 y1, if_neg (by simpa using q3), if_pos (by simpa using q2), hi1, Option.bind_some, b1, Option.bind_some, v3 e he (by omega), Option.bind_some, if_neg (by simpa using hl2), chk_bind (by constructor <;> omega)]
                congr 1; omega
              | cons k3 rest2 =>
                obtain ⟨p2, w2, b2, u1, u2, u3⟩ := br k3 (by rw [hr1, hx2]; simp)
                have hi2 : ix x.Kids 2 = some k3 := by rw [hkids, hr1, hx2]; rfl
                have hl2 : (x.Kids.length : Int) > 2 := by rw [hkids, hr1, hx2]; simp; omega
                have hcr2 : cnt d k3 + cntL d rest2 = cntL d rest1 := by rw [hx2, cntL_cons]
                refine fin env t3.1 (1 + s + max (w1 + 1) w2) (by omega) (by omega) (by omega) (Ev.refl _) h5 fun j e y he hle y0 y1 => ⟨e, he, by omega, ?_⟩
                rw [hw0 j e y he hle y0 y1, if_neg (by simpa using q3), if_pos (by simpa using q2), hi1, Option.bind_some, b1, Option.bind_some, v3 e he (by omega), Option.bind_some, if_pos (by simpa using hl2), chk_bind (by constructor <;> omega), hi2, Option.bind_some, b2, Option.bind_some, u3 e he (by omega), Option.bind_some, chk_bind (by constructor <;> omega)]
                congr 1; omega
          · rw [if_neg (by simpa using q2), if_neg (by simp)] at h2
            refine fin env t.2.line (1 + s) (by omega) (by omega) (by omega) (Ev.refl _) h2 fun j e y he hle y0 y1 => ⟨e, he, by omega, ?_⟩
            rw [hw0 j e y he hle y0 y1, if_neg (by simpa using q3), if_neg (by simpa using q2), Int.add_assoc]
end Rt
