/- Ruletype: the worst case of statements that are right. -/
import Derived.Test.YtdnelkmckpapgaaDoorRtF
set_option linter.unusedVariables false
set_option linter.unusedSimpArgs false
open Go Go.SL Go.Proofs Pl
namespace Rt
/-! ### an error stays -/
theorem fail_stays {c : Ck} {x : M} {e : Int} {r : Ck} (h : ruletype_checker_fail c x (some e) = some r) : r.err ≠ none := fail_none h
theorem cexpr_L0_stays {f : Ck → M → List Bd → Option (Int × Ck)} {env : List Bd} (hf : ∀ c k r, f c k env = some r → c.err ≠ none → r.2.err ≠ none) : ∀ (l : List M) (i : Nat) (y : List Int) (a : Int) (e : Err) (r : Fl (Int × Ck) (List Int × Int × Err)), e ≠ none → ruletype_checker_expr_L0 f env l i y a e = some r →
    (∀ z, r = Fl.ret z → z.2.err ≠ none) ∧ ∀ z, r = Fl.go z → z.2.2 ≠ none
  | [], i, y, a, e, r, he, h => by
    cases h
    exact ⟨fun z q => (by cases q), fun z q => by cases q; exact he⟩
  | k :: l, i, y, a, e, r, he, h => by
    rw [ruletype_checker_expr_L0] at h
    obtain ⟨x, hx, h1⟩ := bnd h
    obtain ⟨_, h2⟩ := chkb h1
    have hs := hf _ _ _ hx he
    cases q : x.2.err with
    | none => exact absurd q hs
    | some e' =>
      rw [q, if_pos (by simp)] at h2
      cases h2
      exact ⟨fun z q2 => (by cases q2; exact hs), fun z q => by cases q⟩
theorem call_stays {c : Ck} {x : M} {l : List Int} {r : Int × Ck} (h : ruletype_checker_call c x l = some r) (hc : c.err ≠ none) : r.2.err ≠ none := by
  unfold ruletype_checker_call at h
  obtain ⟨f, hf, h1⟩ := bnd h
  cases q : decide (f.2 = 0) with
  | true =>
    rw [q, if_pos rfl] at h1
    obtain ⟨u, hu, h2⟩ := bnd h1
    cases h2; exact fail_none hu
  | false =>
    rw [q, if_neg (by simp)] at h1
    obtain ⟨b, hb, h2⟩ := bnd h1
    cases b with
    | true =>
      rw [if_pos rfl] at h2
      obtain ⟨u, hu, h3⟩ := bnd h2
      cases h3; exact fail_none hu
    | false => rw [if_neg (by simp)] at h2; cases h2; exact hc
theorem cexpr_stays {env : List Bd} : ∀ (n : Nat) (c : Ck) (x : M) (r : Int × Ck), ruletype_checker_expr n c x env = some r → c.err ≠ none → r.2.err ≠ none
  | 0, c, x, r, h, _ => by rw [ruletype_checker_expr] at h; cases h
  | n + 1, c, x, r, h, hc => by
    rw [ruletype_checker_expr] at h
    obtain ⟨_, h1⟩ := chkb h
    obtain ⟨s, hs, h2⟩ := bnd h1
    obtain ⟨g1, g2⟩ := cexpr_L0_stays (fun c k r => cexpr_stays n c k r) x.Kids 0 [] _ _ s hc hs
    cases s with
    | ret z => rw [el_ret] at h2; cases h2; exact g1 _ rfl
    | go z =>
      have hz := g2 z rfl
      rw [el_go] at h2
      by_cases q20 : x.Kind = 20
      · rw [if_pos (by simpa using q20)] at h2; cases h2; exact hz
      rw [if_neg (by simpa using q20)] at h2
      by_cases q21 : x.Kind = 21
      · rw [if_pos (by simpa using q21)] at h2; cases h2; exact hz
      rw [if_neg (by simpa using q21)] at h2
      by_cases q22 : x.Kind = 22
      · rw [if_pos (by simpa using q22)] at h2; cases h2; exact hz
      rw [if_neg (by simpa using q22)] at h2
      by_cases q23 : x.Kind = 23
      · rw [if_pos (by simpa using q23)] at h2
        obtain ⟨u, hu, h3⟩ := bnd h2
        split at h3
        · obtain ⟨v, hv, h4⟩ := bnd h3
          cases h4; exact fail_none hv
        · cases h3; exact hz
      rw [if_neg (by simpa using q23)] at h2
      by_cases q24 : x.Kind = 24
      · rw [if_pos (by simpa using q24)] at h2
        obtain ⟨u, hu, h3⟩ := bnd h2
        cases h3; exact call_stays hu hz
      rw [if_neg (by simpa using q24)] at h2
      obtain ⟨u, hu, h3⟩ := bnd h2
      split at h3
      · obtain ⟨v, hv, h4⟩ := bnd h3
        cases h4; exact fail_none hv
      · cases h3; exact hz
theorem block_L0_stays {n : Nat} {f : Ck → List M → List Bd → Option Ck} : ∀ (l : List M) (i : Nat) (env : List Bd) (a : Int) (e : Err) (r : Fl Ck (List Bd × Int × Err)), e ≠ none → ruletype_checker_block_L0 n f l i env a e = some r →
    (∀ z, r = Fl.ret z → z.err ≠ none) ∧ ∀ z, r = Fl.go z → z.2.2 ≠ none
  | [], i, env, a, e, r, he, h => by
    cases h
    exact ⟨fun z q => (by cases q), fun z q => by cases q; exact he⟩
  | x :: l, i, env, a, e, r, he, h => by
    rw [ruletype_checker_block_L0] at h
    cases q : decide ((x.Kids.length : Int) = 0) with
    | true => rw [q, if_pos rfl] at h; exact block_L0_stays l (i + 1) env a e r he h
    | false =>
      rw [q, if_neg (by simp)] at h
      obtain ⟨k, hk, h1⟩ := bnd h
      obtain ⟨t, ht, h2⟩ := bnd h1
      obtain ⟨nd, _, h3⟩ := bnd h2
      have hs := cexpr_stays n _ _ _ ht he
      cases q2 : t.2.err with
      | none => exact absurd q2 hs
      | some e' =>
        rw [q2] at h3
        rw [if_neg (by simp), if_pos (by simp)] at h3
        cases h3
        exact ⟨fun z q3 => (by cases q3; exact hs), fun z q => by cases q⟩
theorem block_stays : ∀ (n : Nat) (c : Ck) (l : List M) (env : List Bd) (r : Ck), ruletype_checker_block n c l env = some r → c.err ≠ none → r.err ≠ none
  | 0, c, l, env, r, h, _ => by rw [ruletype_checker_block] at h; cases h
  | n + 1, c, l, env, r, h, hc => by
    rw [ruletype_checker_block] at h
    obtain ⟨_, h1⟩ := chkb h
    obtain ⟨s, hs, h2⟩ := bnd h1
    obtain ⟨g1, g2⟩ := block_L0_stays l 0 env _ _ s hc hs
    cases s with
    | ret z => rw [el_ret] at h2; cases h2; exact g1 _ rfl
    | go z => rw [el_go] at h2; cases h2; exact g2 z rfl
end Rt
