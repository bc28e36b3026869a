/- Ruletype: statements; Check returns. -/
import Derived.Test.YtdnelkmckpapgaaDoorRtC
set_option linter.unusedVariables false
set_option linter.unusedSimpArgs false
open Go Go.SL Go.Proofs Pl
namespace Rt
def Gd (d : Nat) (x : M) : Prop := Ok d x ∧ ∃ m, ruletree_stated m x = some true
theorem branch_ok {d : Nat} {k : M} (h : Ok d k) (hv : (k.Kind = 12 ∧ ∀ q ∈ k.Kids, ∃ m, ruletree_stated m q = some true) ∨ (k.Kind ≠ 12 ∧ ∃ m, ruletree_stated m k = some true)) :
    ∃ l, ruletype_branch k = some l ∧ l.length ≤ 700 ∧ ∀ x ∈ l, Gd d x := by
  unfold ruletype_branch
  rcases hv with ⟨h1, h2⟩ | ⟨h1, h2⟩
  · refine ⟨_, if_pos (by simpa using h1), ?_, ?_⟩
    · cases d with
      | zero => exact h.elim
      | succ d => exact h.2.1
    · cases d with
      | zero => exact h.elim
      | succ d => exact fun x hx => ⟨(h.2.2 x hx).succ, h2 x hx⟩
  · refine ⟨_, if_neg (by simpa using h1), by simp, fun x hx => ?_⟩
    simp at hx; subst hx
    exact ⟨h, h2⟩
theorem block_L3 {f : Ck → List M → List Bd → Option Ck} {env : List Bd} : ∀ (l : List M) (i : Nat) (a : Int) (e : Err), (∀ k ∈ l, ∃ q, ruletype_branch k = some q ∧ ∀ c, ∃ r, f c q env = some r) → ∃ r, ruletype_checker_block_L3 f env l i a e = some r
  | [], i, a, e, _ => ⟨_, rfl⟩
  | k :: l, i, a, e, h => by
    obtain ⟨q, hq, hr⟩ := h k (by simp)
    rw [ruletype_checker_block_L3, hq, Option.bind_some]
    exact bind_ex (hr _) fun _ _ => block_L3 l (i + 1) _ _ fun k hk => h k (by simp [hk])
set_option maxRecDepth 100000 in
theorem block_L0 {n d : Nat} {f : Ck → List M → List Bd → Option Ck} (hn : d + 200000 ≤ n) (hf : ∀ (l : List M) (env : List Bd) (c : Ck), (∀ x ∈ l, Gd d x) → l.length ≤ 700 → env.length + 701 * (d + 1) ≤ 90000 → ∃ r, f c l env = some r) :
    ∀ (l : List M) (i : Nat) (env : List Bd) (a : Int) (e : Err), (∀ x ∈ l, Gd (d + 1) x) → env.length + l.length + 701 * (d + 1) ≤ 90000 → ∃ r, ruletype_checker_block_L0 n f l i env a e = some r
  | [], i, env, a, e, _, _ => ⟨_, rfl⟩
  | x :: l, i, env, a, e, h, hl => by
    simp only [List.length_cons] at hl
    have ih : ∀ (env' : List Bd) (a' : Int) (e' : Err), env'.length ≤ env.length + 1 → ∃ r, ruletype_checker_block_L0 n f l (i + 1) env' a' e' = some r := fun env' a' e' he => block_L0 hn hf l (i + 1) env' a' e' (fun y hy => h y (by simp [hy])) (by omega)
    obtain ⟨⟨h1, h2, h3⟩, m0, hm⟩ := h x (by simp)
    obtain ⟨m, rfl, k0, k2⟩ := stated_inv hm
    rw [ruletype_checker_block_L0]
    refine ite_ex (fun _ => ih _ _ _ (by omega)) fun hk => ?_
    have hk := of_decide_eq_false hk
    have hg0 : x.Kids[0]? = some (x.Kids[0]'(by omega)) := List.getElem?_eq_getElem (by omega)
    have hi0 : ix x.Kids 0 = some (x.Kids[0]'(by omega)) := by unfold ix; rw [if_pos (by omega)]; exact hg0
    rw [hi0, Option.bind_some]
    have tl : ∀ c1 : Ck, ∀ t : Int, ∃ r, (if decide (x.Kind = 3) then
        (ruletype_declared n x.Text env).bind fun x61 =>
        if x61 then
        (ruletype_checker_fail c1 x (some 4)).bind fun x65 =>
        (ruletype_extended env x.Text t).bind fun x70 =>
        if x65.err.isSome then
        some (Fl.ret x65)
        else
        ruletype_checker_block_L0 n f l (i + 1) x70 x65.line x65.err
        else
        (ruletype_extended env x.Text t).bind fun x70 =>
        if c1.err.isSome then
        some (Fl.ret c1)
        else
        ruletype_checker_block_L0 n f l (i + 1) x70 c1.line c1.err
        else
        if decide (x.Kind = 2) then
        (chk (0 ≤ (1 : Int) ∧ (1 : Int) ≤ (x.Kids.length : Int) ∧ (x.Kids.length : Int) ≤ (x.Kids.length : Int))).bind fun _ =>
        (chk ((subL x.Kids (1 : Int) (x.Kids.length : Int)).length ≤ szMax)).bind fun _ =>
        (ruletype_checker_block_L3 f env (subL x.Kids (1 : Int) (x.Kids.length : Int)) 0 c1.line c1.err).bind fun t3 =>
        if t3.2.isSome then
        some (Fl.ret (⟨t3.1, t3.2⟩ : Ck))
        else
        ruletype_checker_block_L0 n f l (i + 1) env t3.1 t3.2
        else
        if c1.err.isSome then
        some (Fl.ret c1)
        else
        ruletype_checker_block_L0 n f l (i + 1) env c1.line c1.err : Option (Fl Ck (List Bd × Int × Err))) = some r := fun c1 t => by
      refine ite_ex (fun _ => ?_) fun _ => ?_
      · refine bind_ex (declared_ok (by omega) (by omega)) fun _ _ => ite_ex (fun _ => ?_) fun _ => ?_
        · refine bind_ex (fail_ok _ _ _) fun _ _ => ?_
          rw [extended_eq (by omega), Option.bind_some]
          exact ite_ex (fun _ => ⟨_, rfl⟩) fun _ => ih _ _ _ (by simp)
        · rw [extended_eq (by omega), Option.bind_some]
          exact ite_ex (fun _ => ⟨_, rfl⟩) fun _ => ih _ _ _ (by simp)
      · refine ite_ex (fun hk2 => ?_) fun _ => ite_ex (fun _ => ⟨_, rfl⟩) fun _ => ih _ _ _ (by omega)
        obtain ⟨g1, g2⟩ := k2 (of_decide_eq_true hk2)
        have hsub : subL x.Kids (1 : Int) (x.Kids.length : Int) = x.Kids.drop 1 := by
          unfold subL
          rw [show ((1 : Int)).toNat = 1 from rfl]
          exact List.take_of_length_le (by rw [List.length_drop]; omega)
        rw [chk_bind (by omega), hsub, chk_bind (by rw [List.length_drop]; simp only [szMax]; omega)]
        refine bind_ex (block_L3 _ 0 _ _ fun k hk => ?_) fun _ _ => ite_ex (fun _ => ⟨_, rfl⟩) fun _ => ih _ _ _ (by omega)
        have hkm : k ∈ x.Kids := List.mem_of_mem_drop hk
        obtain ⟨q, hq, ql, qg⟩ := branch_ok (h3 k hkm) (by
          rcases g2 k hk with ⟨a1, a2⟩ | ⟨a1, a2⟩
          · exact .inl ⟨a1, fun q hq => ⟨m, a2 q hq⟩⟩
          · exact .inr ⟨a1, m, a2⟩)
        exact ⟨q, hq, fun c => hf q env c qg ql (by omega)⟩
    refine bind_ex (cexpr_ok (env := env) (by omega) d n m _ _ (h3 _ (List.getElem_mem _)) (k0 _ hg0) (by omega)) fun t ht => ?_
    refine bind_ex (needs_ok x) fun nd _ => ?_
    refine ite_ex (fun _ => ?_) fun _ => ?_
    · refine bind_ex (fail_ok _ _ _) fun c1 _ => ?_
      exact ite_ex (fun _ => ⟨_, rfl⟩) fun _ => tl c1 t.1
    · exact ite_ex (fun _ => ⟨_, rfl⟩) fun _ => tl t.2 t.1
set_option maxRecDepth 100000 in
theorem block_ok : ∀ (d n : Nat) (l : List M) (env : List Bd) (c : Ck), (∀ x ∈ l, Gd d x) → l.length ≤ 700 → env.length + 701 * (d + 1) ≤ 90000 → d + 300000 ≤ n → ∃ r, ruletype_checker_block n c l env = some r
  | d, 0, l, env, c, _, _, _, hn => by omega
  | 0, n + 1, l, env, c, h, hl, he, hn => by
    have : l = [] := by
      cases l with
      | nil => rfl
      | cons x l => exact (h x (by simp)).1.elim
    subst this
    rw [ruletype_checker_block, chk_bind (by simp [szMax])]
    exact ⟨_, rfl⟩
  | d + 1, n + 1, l, env, c, h, hl, he, hn => by
    obtain ⟨r, hr⟩ := block_L0 (n := n) (d := d) (f := ruletype_checker_block n) (by omega) (fun l' env' c' h1 h2 h3 => block_ok d n l' env' c' h1 h2 h3 (by omega)) l 0 env c.line c.err h (by omega)
    rw [ruletype_checker_block, chk_bind (by simp only [szMax]; omega), hr, Option.bind_some]
    cases r <;> exact ⟨_, rfl⟩
theorem Check_ok {d n : Nat} {x : M} (h : Ok (d + 1) x) (hd : d ≤ 100) (hn : 400000 ≤ n) : ∃ r, ruletype_Check n x = some r := by
  unfold ruletype_Check
  refine bind_ex (Valid_ok h (by omega)) fun b hb => ite_ex (fun _ => ⟨_, rfl⟩) fun hv => ?_
  have hb' : b = true := by simpa using hv
  subst hb'
  have hs := Valid_inv hb
  exact bind_ex (block_ok d n x.Kids [] _ (fun k hk => ⟨h.2.2 k hk, n, hs k hk⟩) h.2.1 (by simp <;> omega) (by omega)) fun _ _ => ⟨_, rfl⟩
end Rt
