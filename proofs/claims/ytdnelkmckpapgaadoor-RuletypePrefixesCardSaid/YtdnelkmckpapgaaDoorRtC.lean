/- Ruletype: the checker returns on what is valid. -/
import Derived.Test.YtdnelkmckpapgaaDoorRtV
set_option linter.unusedVariables false
set_option linter.unusedSimpArgs false
open Go Go.SL Go.Proofs Pl
namespace Rt
abbrev Ck := S_ruletype_checker
abbrev Bd := S_ruletype_Binding
theorem lookup_L0 {env : List Bd} {s : Str} (hl : env.length ≤ 100000) : ∀ (n : Nat) (i : Int), -1 ≤ i → i < (env.length : Int) → i + 1 < n → ∃ r, ruletype_lookup_L0 env s n i = some r
  | 0, i, _, _, h => by omega
  | n + 1, i, h0, h1, h => by
    rw [ruletype_lookup_L0]
    refine ite_ex (fun hi => ?_) fun _ => ⟨_, rfl⟩
    have hi := of_decide_eq_true hi
    obtain ⟨b, hb⟩ := ix_ok (s := env) (i := i) (by omega) (by omega)
    rw [hb, Option.bind_some]
    refine ite_ex (fun _ => ⟨_, rfl⟩) fun _ => ?_
    rw [chk_bind (by constructor <;> omega)]
    exact lookup_L0 hl n (i - 1) (by omega) (by omega) (by omega)
theorem lookup_ok {env : List Bd} {s : Str} {n : Nat} (hl : env.length ≤ 100000) (hn : env.length + 1 ≤ n) : ∃ t, ruletype_lookup n s env = some t := by
  unfold ruletype_lookup
  obtain ⟨r, hr⟩ := lookup_L0 (s := s) hl n ((env.length : Int) - 1) (by omega) (by omega) (by omega)
  rw [chk_bind (by constructor <;> omega), hr, Option.bind_some]
  cases r with
  | ret z => exact ⟨_, rfl⟩
  | go z => rw [el_go]; exact bind_ex ⟨_, rfl⟩ fun _ _ => ite_ex (fun _ => ⟨_, rfl⟩) fun _ => ⟨_, rfl⟩
theorem op1_L0 (t : Int) : ∀ (l : List Int) (i : Nat), ∃ r, ruletype_operator_1_L0 t l i = some r
  | [], i => ⟨_, rfl⟩
  | x :: l, i => by
    rw [ruletype_operator_1_L0]
    exact ite_ex (fun _ => ⟨_, rfl⟩) fun _ => op1_L0 t l (i + 1)
theorem op1_ok (t : Int) {l : List Int} (h : l.length ≤ 1000) : ∃ b, ruletype_operator_1 t l = some b := by
  obtain ⟨r, hr⟩ := op1_L0 t l 0
  unfold ruletype_operator_1
  rw [chk_bind (by simp only [szMax]; omega), hr, Option.bind_some]
  cases r <;> exact ⟨_, rfl⟩
theorem operator_ok {x : M} {l : List Int} (h : l.length ≤ 1000) (h16 : x.Kind = 16 → l.length = 2) : ∃ t, ruletype_operator x l = some t := by
  have one : ∀ (t a : Int), ∃ r, (ruletype_operator_1 t l).bind (fun x => if x = true then some a else some 0) = some r := fun t a => bind_ex (op1_ok t h) fun _ _ => ite_ex (fun _ => ⟨_, rfl⟩) fun _ => ⟨_, rfl⟩
  unfold ruletype_operator
  refine ite_ex (fun _ => bind_ex (op1_ok 1 h) fun _ _ => ite_ex (fun _ => ⟨_, rfl⟩) fun _ => one 2 2) fun _ => ?_
  refine ite_ex (fun _ => one 2 2) fun _ => ?_
  refine ite_ex (fun _ => one 2 2) fun _ => ?_
  refine ite_ex (fun _ => one 3 3) fun _ => ?_
  refine ite_ex (fun _ => one 3 3) fun _ => ?_
  refine ite_ex (fun _ => one 3 3) fun _ => ?_
  refine ite_ex (fun hk => ?_) fun _ => ⟨_, rfl⟩
  have h2 := h16 (of_decide_eq_true hk)
  have cmp : ∃ r, (ix l 0).bind (fun x36 => (ix l 1).bind fun x39 => if decide (x36 = x39) = true then some (3 : Int) else some 0) = some r := bind_ex (ix_ok (by omega) (by omega)) fun _ _ => bind_ex (ix_ok (by omega) (by omega)) fun _ _ => ite_ex (fun _ => ⟨_, rfl⟩) fun _ => ⟨_, rfl⟩
  refine ite_ex (fun _ => cmp) fun _ => ?_
  refine ite_ex (fun _ => cmp) fun _ => ?_
  refine ite_ex (fun _ => one 2 3) fun _ => ?_
  refine ite_ex (fun _ => one 2 3) fun _ => ?_
  exact one 1 3
theorem fail_ok (c : Ck) (x : M) (e : Err) : ∃ r, ruletype_checker_fail c x e = some r := by
  unfold ruletype_checker_fail
  exact ite_ex (fun _ => ⟨_, rfl⟩) fun _ => ⟨_, rfl⟩
theorem function_ok (s : Str) : ∃ r, ruletype_function s = some r := by
  unfold ruletype_function
  repeat (refine ite_ex (fun _ => ⟨_, rfl⟩) fun _ => ?_)
  exact ⟨_, rfl⟩
theorem call_ok (c : Ck) (x : M) (l : List Int) : ∃ r, ruletype_checker_call c x l = some r := by
  unfold ruletype_checker_call
  refine bind_ex (function_ok _) fun f _ => ite_ex (fun _ => bind_ex (fail_ok _ _ _) fun _ _ => ⟨_, rfl⟩) fun _ => ?_
  refine bind_ex (ite_ex (fun _ => ⟨_, rfl⟩) fun h => ?_) fun _ _ => ite_ex (fun _ => bind_ex (fail_ok _ _ _) fun _ _ => ⟨_, rfl⟩) fun _ => ⟨_, rfl⟩
  have h := of_decide_eq_false h
  exact bind_ex (ix_ok (by omega) (by omega)) fun _ _ => ⟨_, rfl⟩
theorem cexpr_L0 {f : Ck → M → List Bd → Option (Int × Ck)} {env : List Bd} : ∀ (l : List M) (i : Nat) (y : List Int) (a : Int) (e : Err), (∀ k ∈ l, ∀ c, ∃ r, f c k env = some r) → y.length + l.length ≤ 1000 →
    ∃ r, ruletype_checker_expr_L0 f env l i y a e = some r ∧ ∀ z, r = Fl.go z → z.1.length = y.length + l.length
  | [], i, y, a, e, _, _ => ⟨_, rfl, fun z h => by cases h; rfl⟩
  | k :: l, i, y, a, e, h, hy => by
    simp only [List.length_cons] at hy
    obtain ⟨r, hr⟩ := h k (by simp) ⟨a, e⟩
    rw [ruletype_checker_expr_L0, hr, Option.bind_some, chk_bind (by simp only [lim, List.length_cons, List.length_nil]; omega)]
    cases q : r.2.err.isSome with
    | true => exact ⟨_, if_pos rfl, fun z h => by cases h⟩
    | false =>
      rw [if_neg (by simp)]
      obtain ⟨r', hr', hl⟩ := cexpr_L0 (f := f) (env := env) l (i + 1) (y ++ [r.1]) r.2.line r.2.err (fun k hk => h k (by simp [hk])) (by simp only [List.length_append, List.length_cons, List.length_nil]; omega)
      exact ⟨r', hr', fun z hz => by rw [hl z hz]; simp only [List.length_append, List.length_cons, List.length_nil]; omega⟩
theorem operands_16 {m : Nat} {x : M} {k : Int} (hk : x.Kind = 16) (h : ruletree_operands m x = some k) : k = 2 ∨ k = -2 := by
  unfold ruletree_operands at h
  rw [hk] at h
  rw [if_neg (by decide), if_neg (by decide), if_neg (by decide), if_neg (by decide), if_neg (by decide), if_neg (by decide), if_pos (by decide)] at h
  obtain ⟨a, _, h⟩ := bnd h
  obtain ⟨b, _, h⟩ := bnd h
  split at h <;> cases h <;> simp
theorem cexpr_ok {env : List Bd} (he : env.length ≤ 100000) : ∀ (d n m : Nat) (x : M) (c : Ck), Ok d x → ruletree_expression m x = some true → d + 200000 ≤ n → ∃ r, ruletype_checker_expr n c x env = some r
  | d + 1, 0, m, x, c, _, _, hn => by omega
  | d + 1, n + 1, m, x, c, h, hv, hn => by
    obtain ⟨h1, h2, h3⟩ := h
    obtain ⟨m', k, rfl, hk, k2, k3, k4⟩ := expression_inv hv
    obtain ⟨r, hr, hl⟩ := cexpr_L0 (f := ruletype_checker_expr n) (env := env) x.Kids 0 [] c.line c.err (fun q hq c' => cexpr_ok he d n m' q c' (h3 q hq) (k4 q hq) (by omega)) (by simp <;> omega)
    rw [ruletype_checker_expr, chk_bind (by simp only [szMax]; omega), hr, Option.bind_some]
    cases r with
    | ret z => exact ⟨_, rfl⟩
    | go z =>
      have hz := hl z rfl
      simp only [List.length_nil, Nat.zero_add] at hz
      rw [el_go]
      refine ite_ex (fun _ => ⟨_, rfl⟩) fun _ => ?_
      refine ite_ex (fun _ => ⟨_, rfl⟩) fun _ => ?_
      refine ite_ex (fun _ => ⟨_, rfl⟩) fun _ => ?_
      refine ite_ex (fun _ => bind_ex (lookup_ok he (by omega)) fun _ _ => ite_ex (fun _ => bind_ex (fail_ok _ _ _) fun _ _ => ⟨_, rfl⟩) fun _ => ⟨_, rfl⟩) fun _ => ?_
      refine ite_ex (fun _ => bind_ex (call_ok _ _ _) fun _ _ => ⟨_, rfl⟩) fun _ => ?_
      refine bind_ex (operator_ok (by omega) fun h16 => ?_) fun _ _ => ite_ex (fun _ => bind_ex (fail_ok _ _ _) fun _ _ => ⟨_, rfl⟩) fun _ => ⟨_, rfl⟩
      rcases operands_16 h16 hk with rfl | rfl
      · have := k3 (by omega); omega
      · exact absurd rfl k2
theorem needs_ok (x : M) : ∃ t, ruletype_needs x = some t := by
  unfold ruletype_needs
  repeat (refine ite_ex (fun _ => ⟨_, rfl⟩) fun _ => ?_)
  exact ⟨_, rfl⟩
theorem declared_ok {env : List Bd} {s : Str} {n : Nat} (hl : env.length ≤ 100000) (hn : env.length + 1 ≤ n) : ∃ t, ruletype_declared n s env = some t := by
  unfold ruletype_declared
  exact bind_ex (lookup_ok hl hn) fun _ _ => ⟨_, rfl⟩
theorem extended_eq {env : List Bd} {s : Str} {t : Int} (hl : env.length ≤ 100000) : ruletype_extended env s t = some (env ++ [⟨s, t⟩]) := by
  unfold ruletype_extended
  rw [chk_bind (by constructor <;> omega), chk_bind (by simp only [lim]; omega), chk_bind (by simp only [lim, List.length_nil]; omega), chk_bind (by simp only [lim, List.length_append, List.length_cons, List.length_nil]; omega)]; rfl
/-- A statement that is valid. -/
theorem stated_inv {n : Nat} {x : M} (h : ruletree_stated n x = some true) : ∃ m, n = m + 1 ∧ (∀ c, x.Kids[0]? = some c → ruletree_expression m c = some true) ∧
    (x.Kind = 2 → 2 ≤ x.Kids.length ∧ ∀ c ∈ x.Kids.drop 1, (c.Kind = 12 ∧ ∀ k ∈ c.Kids, ruletree_stated m k = some true) ∨ (c.Kind ≠ 12 ∧ ruletree_stated m c = some true)) := by
  cases n with
  | zero => rw [ruletree_stated] at h; cases h
  | succ m =>
    have one : (if decide ((x.Kids.length : Int) = 1) then (ix x.Kids 0).bind fun x121 => (ruletree_expression m x121).bind fun x123 => some x123 else some false).bind (fun x124 => some x124) = some true → ∀ c, x.Kids[0]? = some c → ruletree_expression m c = some true := fun h c hc => by
      obtain ⟨b, hb, h⟩ := bnd h
      cases h
      split at hb
      · have hx : ix x.Kids 0 = some c := by unfold ix; rw [if_pos (by omega)]; exact hc
        rw [hx, Option.bind_some] at hb
        obtain ⟨b2, hb2, hb⟩ := bnd hb
        cases hb; exact hb2
      · cases hb
    have nil : (x.Kids.length : Int) = 0 → ∀ c, x.Kids[0]? = some c → ruletree_expression m c = some true := fun h c hc => by
      rw [List.getElem?_eq_none (by omega)] at hc; cases hc
    refine ⟨m, rfl, ?_⟩
    rw [ruletree_stated] at h
    by_cases k2 : x.Kind = 2
    · rw [if_pos (by simpa using k2)] at h
      obtain ⟨a, ha, g⟩ := bnd h
      obtain ⟨b, hb, gg⟩ := bnd g
      cases b with
      | true => rw [if_pos rfl] at gg; cases gg
      | false =>
        rw [if_neg (by simp)] at gg
        cases a with
        | true => rw [if_pos rfl] at hb; cases hb
        | false =>
          cases q : ((decide (x.Text ≠ ([] : Str)) || decide ((x.Kids.length : Int) < 2)) || decide ((x.Kids.length : Int) > 3)) with
          | true => rw [q, if_pos rfl] at ha; cases ha
          | false =>
            rw [q, if_neg (by simp)] at ha
            simp only [Bool.or_eq_false_iff, decide_eq_false_iff_not] at q
            rw [if_neg (by simp)] at hb
            obtain ⟨c0, hc0, ha⟩ := bnd ha
            obtain ⟨e0, he0, ha⟩ := bnd ha
            obtain ⟨c1, hc1, hb⟩ := bnd hb
            obtain ⟨e1, he1, hb⟩ := bnd hb
            have ha : e0 = true := by simpa using ha
            have hb : e1 = true := by simpa using hb
            subst ha; subst hb
            have g0 : x.Kids[0]? = some c0 := by unfold ix at hc0; rw [if_pos (by omega)] at hc0; exact hc0
            have g1 : x.Kids[1]? = some c1 := by unfold ix at hc1; rw [if_pos (by omega)] at hc1; exact hc1
            obtain ⟨i1, i2⟩ := blocked_inv he1
            refine ⟨fun c hc => by rw [g0] at hc; cases hc; exact he0, fun _ => ⟨by omega, fun c hc => ?_⟩⟩
            obtain ⟨i, hi⟩ := List.getElem?_of_mem hc
            rw [List.getElem?_drop] at hi
            have hil : 1 + i < x.Kids.length := (List.getElem?_eq_some_iff.1 hi).1
            by_cases z : i = 0
            · subst z
              rw [g1] at hi; cases hi
              exact .inl ⟨i1, i2⟩
            · have : i = 1 := by omega
              subst this
              have hx2 : ix x.Kids 2 = some c := by unfold ix; rw [if_pos (by omega)]; exact hi
              rw [if_neg (by simp <;> omega), hx2, Option.bind_some] at gg
              obtain ⟨e, he, g3⟩ := bnd gg
              obtain ⟨e', he', he2⟩ := bnd he
              cases he2
              cases e with
              | true => have := blocked_inv he'; exact .inl ⟨this.1, this.2⟩
              | false =>
                rw [if_neg (by simp), Option.bind_some] at g3
                obtain ⟨e2, he2, g4⟩ := bnd g3
                cases g4
                split at he2
                · rename_i hk
                  have hk := of_decide_eq_true hk
                  rw [Option.bind_some] at he2
                  obtain ⟨e3, he3, g5⟩ := bnd he2
                  cases g5
                  exact .inr ⟨by omega, he3⟩
                · cases he2
    · rw [if_neg (by simpa using k2)] at h
      refine ⟨?_, fun h2 => absurd h2 k2⟩
      by_cases q6 : x.Kind = 6
      · rw [if_pos (by simpa using q6)] at h
        obtain ⟨_, _, g⟩ := bnd h
        exact nil (of_decide_eq_true (Bool.and_eq_true_iff.1 (Option.some.inj g)).2)
      rw [if_neg (by simpa using q6)] at h
      by_cases q10 : x.Kind = 10
      · rw [if_pos (by simpa using q10)] at h
        exact nil (of_decide_eq_true (Bool.and_eq_true_iff.1 (Option.some.inj h)).2)
      rw [if_neg (by simpa using q10)] at h
      by_cases q11 : x.Kind = 11
      · rw [if_pos (by simpa using q11)] at h
        exact nil (of_decide_eq_true (Bool.and_eq_true_iff.1 (Option.some.inj h)).2)
      rw [if_neg (by simpa using q11)] at h
      have fin : ∀ {b : Bool} {p : Option Bool}, (if b = true then some false else p) = some true → p = some true := fun {b p} h => by
        cases b with
        | true => rw [if_pos rfl] at h; cases h
        | false => rw [if_neg (by simp)] at h; exact h
      by_cases q3 : x.Kind = 3
      · rw [if_pos (by simpa using q3)] at h
        obtain ⟨_, _, g⟩ := bnd h
        exact one (fin g)
      rw [if_neg (by simpa using q3)] at h
      by_cases q4 : x.Kind = 4
      · rw [if_pos (by simpa using q4)] at h; exact one (fin h)
      rw [if_neg (by simpa using q4)] at h
      by_cases q5 : x.Kind = 5
      · rw [if_pos (by simpa using q5)] at h
        obtain ⟨_, _, g⟩ := bnd h
        exact one (fin g)
      rw [if_neg (by simpa using q5)] at h
      by_cases q7 : x.Kind = 7
      · rw [if_pos (by simpa using q7)] at h; exact one (fin h)
      rw [if_neg (by simpa using q7)] at h
      by_cases q8 : x.Kind = 8
      · rw [if_pos (by simpa using q8)] at h; exact one (fin h)
      rw [if_neg (by simpa using q8)] at h
      by_cases q9 : x.Kind = 9
      · rw [if_pos (by simpa using q9)] at h; exact one (fin h)
      rw [if_neg (by simpa using q9)] at h
      cases h
end Rt
