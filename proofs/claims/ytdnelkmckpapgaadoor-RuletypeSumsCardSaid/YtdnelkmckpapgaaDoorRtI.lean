/- Ruletype: Worst of programs. -/
import Derived.Test.YtdnelkmckpapgaaDoorRtH
set_option linter.unusedVariables false
set_option linter.unusedSimpArgs false
open Go Go.SL Go.Proofs Pl
namespace Rt
theorem isr {σ : Type} {u z : Ck} {A : Option (Fl Ck σ)} (h : (if u.err.isSome = true then some (Fl.ret u) else A) = some (Fl.ret z)) : z.err ≠ none ∨ A = some (Fl.ret z) := by
  cases q : u.err with
  | none => rw [q, if_neg (by simp)] at h; exact .inr h
  | some e => rw [q, if_pos (by simp)] at h; cases h; left; rw [q]; simp
theorem block_L0_ret {n : Nat} {f : Ck → List M → List Bd → Option Ck} {z : Ck} : ∀ (l : List M) (i : Nat) (env : List Bd) (a : Int) (e : Err), ruletype_checker_block_L0 n f l i env a e = some (Fl.ret z) → z.err ≠ none
  | [], i, env, a, e, h => by cases h
  | x :: l, i, env, a, e, h => by
    have tl : ∀ (c1 : Ck) (t : Int), (if decide (x.Kind = 3) then
        (ruletype_declared n x.Text env).bind fun x61 =>
        if x61 then
        (ruletype_checker_fail c1 x (some 4)).bind fun x65 =>
        (ruletype_extended env x.Text t).bind fun x70 =>
        if x65.err.isSome then
        some (Fl.ret x65)
        else
        ruletype_checker_block_L0 n f l (i + 1) x70 x65.line x65.err
        else
        (ruletype_extended env x.Text t).bind fun x70 =>
        if c1.err.isSome then
        some (Fl.ret c1)
        else
        ruletype_checker_block_L0 n f l (i + 1) x70 c1.line c1.err
        else
        if decide (x.Kind = 2) then
        (chk (0 ≤ (1 : Int) ∧ (1 : Int) ≤ (x.Kids.length : Int) ∧ (x.Kids.length : Int) ≤ (x.Kids.length : Int))).bind fun _ =>
        (chk ((subL x.Kids (1 : Int) (x.Kids.length : Int)).length ≤ szMax)).bind fun _ =>
        (ruletype_checker_block_L3 f env (subL x.Kids (1 : Int) (x.Kids.length : Int)) 0 c1.line c1.err).bind fun t3 =>
        if t3.2.isSome then
        some (Fl.ret (⟨t3.1, t3.2⟩ : Ck))
        else
        ruletype_checker_block_L0 n f l (i + 1) env t3.1 t3.2
        else
        if c1.err.isSome then
        some (Fl.ret c1)
        else
        ruletype_checker_block_L0 n f l (i + 1) env c1.line c1.err : Option (Fl Ck (List Bd × Int × Err))) = some (Fl.ret z) → z.err ≠ none := fun c1 t h => by
      by_cases q3 : x.Kind = 3
      · rw [if_pos (by simpa using q3)] at h
        obtain ⟨b, _, h1⟩ := bnd h
        cases b with
        | true =>
          rw [if_pos rfl] at h1
          obtain ⟨u, _, h2⟩ := bnd h1
          obtain ⟨v, _, h3⟩ := bnd h2
          rcases isr h3 with g | g
          · exact g
          · exact block_L0_ret l _ _ _ _ g
        | false =>
          rw [if_neg (by simp)] at h1
          obtain ⟨v, _, h3⟩ := bnd h1
          rcases isr h3 with g | g
          · exact g
          · exact block_L0_ret l _ _ _ _ g
      · rw [if_neg (by simpa using q3)] at h
        by_cases q2 : x.Kind = 2
        · rw [if_pos (by simpa using q2)] at h
          obtain ⟨_, h1⟩ := chkb h
          obtain ⟨_, h2⟩ := chkb h1
          obtain ⟨t3, _, h3⟩ := bnd h2
          rcases isr (u := ⟨t3.1, t3.2⟩) h3 with g | g
          · exact g
          · exact block_L0_ret l _ _ _ _ g
        · rw [if_neg (by simpa using q2)] at h
          rcases isr h with g | g
          · exact g
          · exact block_L0_ret l _ _ _ _ g
    rw [ruletype_checker_block_L0] at h
    cases q : decide ((x.Kids.length : Int) = 0) with
    | true => rw [q, if_pos rfl] at h; exact block_L0_ret l _ _ _ _ h
    | false =>
      rw [q, if_neg (by simp)] at h
      obtain ⟨k, _, h1⟩ := bnd h
      obtain ⟨t, _, h2⟩ := bnd h1
      obtain ⟨nd, _, h3⟩ := bnd h2
      cases q2 : ((t.2.err.isNone && decide (nd ≠ 0)) && decide (t.1 ≠ nd)) with
      | true =>
        rw [q2, if_pos rfl] at h3
        obtain ⟨u, _, h4⟩ := bnd h3
        rcases isr h4 with g | g
        · exact g
        · exact tl u t.1 g
      | false =>
        rw [q2, if_neg (by simp)] at h3
        rcases isr h3 with g | g
        · exact g
        · exact tl t.2 t.1 g
set_option maxRecDepth 100000 in
theorem block_worst : ∀ (d n n2 : Nat) (l : List M) (env : List Bd) (a : Int) (c' : Ck), (∀ x ∈ l, Gd d x) → l.length ≤ 700 → cntL d l ≤ 10000 → env.length + 701 * (d + 1) ≤ 90000 → d + 300000 ≤ n → d + 300000 ≤ n2 → ruletype_checker_block n ⟨a, none⟩ l env = some c' → c'.err = none →
    ∃ w : Int, 0 ≤ w ∧ w ≤ 200 * (cntL d l : Int) ∧ ∀ e, Ev env e → e.length + 701 * (d + 1) ≤ 90000 → ruletype_worst n2 l e = some w
  | d, 0, _, l, env, a, c', _, _, _, _, hn, _, _, _ => by omega
  | d, n + 1, 0, l, env, a, c', _, _, _, _, _, hn, _, _ => by omega
  | 0, n + 1, n2 + 1, l, env, a, c', hg, hl, hc, he, hn, hn2, h, hz => by
    have : l = [] := by
      cases l with
      | nil => rfl
      | cons x l => exact (hg x (by simp)).1.elim
    subst this
    exact ⟨0, by omega, by simp [cntL], fun e _ _ => by rw [ruletype_worst, chk_bind (by simp [szMax])]; rfl⟩
  | d + 1, n + 1, n2 + 1, l, env, a, c', hg, hl, hc, he, hn, hn2, h, hz => by
    rw [ruletype_checker_block] at h
    obtain ⟨_, h1⟩ := chkb h
    obtain ⟨s, hs, h2⟩ := bnd h1
    cases s with
    | ret z => rw [el_ret] at h2; cases h2; exact absurd hz (block_L0_ret l _ _ _ _ hs)
    | go z =>
      rw [el_go] at h2
      cases h2
      obtain ⟨w, w1, w2, _, w4⟩ := block_L0_worst (n := n) (n2 := n2) (d := d) (f := ruletype_checker_block n) (f2 := ruletype_worst n2) (by omega) (by omega) (fun c l env r => block_stays n c l env r)
        (fun l' env' a' c1 g1 g2 g3 g4 g5 g6 => block_worst d n n2 l' env' a' c1 g1 g2 g3 g4 (by omega) (by omega) g5 g6) l 0 env a z hg hc (by omega) hs hz
      refine ⟨w, by omega, w2, fun e he1 he2 => ?_⟩
      obtain ⟨e1, r1, _, _⟩ := w4 0 e 0 he1 (by omega) (by omega) (by omega)
      rw [ruletype_worst, chk_bind (by simp only [szMax]; omega), r1, Option.bind_some]
      simp
theorem worst_append {n : Nat} {f : List M → List Bd → Option Int} : ∀ (A B : List M) (i : Nat) (e : List Bd) (y : Int) (e1 : List Bd) (y1 : Int), ruletype_worst_L0 n f A i e y = some (e1, y1) → ruletype_worst_L0 n f (A ++ B) i e y = ruletype_worst_L0 n f B (i + A.length) e1 y1
  | [], B, i, e, y, e1, y1, h => by cases h; rfl
  | x :: A, B, i, e, y, e1, y1, h => by
    have ih : ∀ e' y', ruletype_worst_L0 n f A (i + 1) e' y' = some (e1, y1) → ruletype_worst_L0 n f (A ++ B) (i + 1) e' y' = ruletype_worst_L0 n f B (i + (x :: A).length) e1 y1 := fun e' y' h => by
      rw [worst_append A B (i + 1) e' y' e1 y1 h, List.length_cons, show i + 1 + A.length = i + (A.length + 1) from by omega]
    rw [List.cons_append]
    rw [ruletype_worst_L0] at h ⊢
    obtain ⟨c0, h1⟩ := chkb h
    rw [chk_bind c0]
    by_cases q : (x.Kids.length : Int) = 0
    · rw [if_pos (by simpa using q)] at h1 ⊢
      exact ih _ _ h1
    · rw [if_neg (by simpa using q)] at h1 ⊢
      obtain ⟨k, hk, h2⟩ := bnd h1
      obtain ⟨t, ht, h3⟩ := bnd h2
      obtain ⟨c1, h4⟩ := chkb h3
      rw [hk, Option.bind_some, ht, Option.bind_some, chk_bind c1]
      by_cases q3 : x.Kind = 3
      · rw [if_pos (by simpa using q3)] at h4 ⊢
        obtain ⟨v, hv, h5⟩ := bnd h4
        rw [hv, Option.bind_some]
        exact ih _ _ h5
      · rw [if_neg (by simpa using q3)] at h4 ⊢
        by_cases q2 : x.Kind = 2
        · rw [if_pos (by simpa using q2)] at h4 ⊢
          obtain ⟨k1, hk1, h5⟩ := bnd h4
          obtain ⟨b1, hb1, h6⟩ := bnd h5
          obtain ⟨w1, hw1, h7⟩ := bnd h6
          rw [hk1, Option.bind_some, hb1, Option.bind_some, hw1, Option.bind_some]
          by_cases ql : (x.Kids.length : Int) > 2
          · rw [if_pos (by simpa using ql)] at h7 ⊢
            obtain ⟨c2, h8⟩ := chkb h7
            obtain ⟨k2, hk2, h9⟩ := bnd h8
            obtain ⟨b2, hb2, h10⟩ := bnd h9
            obtain ⟨w2, hw2, h11⟩ := bnd h10
            obtain ⟨c3, h12⟩ := chkb h11
            rw [chk_bind c2, hk2, Option.bind_some, hb2, Option.bind_some, hw2, Option.bind_some, chk_bind c3]
            exact ih _ _ h12
          · rw [if_neg (by simpa using ql)] at h7 ⊢
            obtain ⟨c2, h8⟩ := chkb h7
            rw [chk_bind c2]
            exact ih _ _ h8
        · rw [if_neg (by simpa using q2)] at h4 ⊢
          exact ih _ _ h4
end Rt
