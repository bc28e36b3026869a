import Derived.Test.YtdnelkmckpapgaaDoorR
import Derived.Test.YtdnelkmckpapgaaDoorPlain
/- Ruletype: the lexer's functions return. -/
set_option linter.unusedVariables false
set_option linter.unusedSimpArgs false
open Go Go.SL Go.Proofs Pl
namespace Rt
theorem el_go {ρ σ γ : Type} {y : σ} {f : ρ → Option γ} {g : σ → Option γ} : (Fl.go y : Fl ρ σ).el f g = g y := rfl
theorem el_ret {ρ σ γ : Type} {y : ρ} {f : ρ → Option γ} {g : σ → Option γ} : (Fl.ret y : Fl ρ σ).el f g = f y := rfl
theorem ix_ok {α : Type} {s : List α} {i : Int} (h0 : 0 ≤ i) (h1 : i < (s.length : Int)) : ∃ x, ix s i = some x := by
  unfold ix
  rw [if_pos h0]
  exact ⟨s[i.toNat]'(by omega), List.getElem?_eq_getElem (by omega)⟩
theorem ite_ex {α : Type} {b : Bool} {x y : Option α} (h1 : b = true → ∃ r, x = some r) (h2 : b = false → ∃ r, y = some r) : ∃ r, (if b = true then x else y) = some r := by
  cases b with
  | true => exact h1 rfl
  | false => exact h2 rfl
theorem quoted_L0 {s : Str} (hs : s.length ≤ 5000) : ∀ (n : Nat) (y : Str) (i : Int), 0 ≤ i → i ≤ (s.length : Int) → (s.length : Int) - i < n → (y.length : Int) + (s.length - i) ≤ 100000 → ∃ r, rulelex_quoted_L0 s n y i = some r ∧ ∀ a b, r = Fl.ret (a, b) → a = 0 ∨ (0 < a ∧ a ≤ (s.length : Int))
  | 0, y, i, h0, h3, h1, h2 => by omega
  | n + 1, y, i, h0, h3, h1, h2 => by
    rw [rulelex_quoted_L0]
    by_cases hi : i < (s.length : Int)
    · obtain ⟨c, hc⟩ := ix_ok h0 hi
      rw [if_pos (by simpa using hi), hc, Option.bind_some]
      by_cases q : (c.toNat : Int) = 34
      · rw [if_pos (by simpa using q), chk_bind (by constructor <;> omega)]
        exact ⟨_, rfl, fun a b e => by cases e; right; omega⟩
      · rw [if_neg (by simpa using q)]
        by_cases q2 : (c.toNat : Int) = 92
        · rw [if_pos (by simpa using q2), chk_bind (by constructor <;> omega)]
          by_cases q3 : i + 1 = (s.length : Int)
          · rw [if_pos (by simpa using q3)]; exact ⟨_, rfl, fun a b e => by cases e; left; rfl⟩
          · obtain ⟨d, hd⟩ := ix_ok (s := s) (i := i + 1) (by omega) (by omega)
            rw [if_neg (by simpa using q3), hd, Option.bind_some]
            have e2 : ∃ b, (if decide ((d.toNat : Int) ≠ 34) = true then (some d).bind fun x40 => some (decide ((x40.toNat : Int) ≠ 92)) else some false) = some b := ite_ex (fun _ => ⟨_, rfl⟩) (fun _ => ⟨_, rfl⟩)
            obtain ⟨b, hb⟩ := e2
            rw [hb, Option.bind_some]
            cases b with
            | true => exact ⟨_, if_pos rfl, fun a b e => by cases e; left; rfl⟩
            | false =>
              rw [if_neg (by simp), Option.bind_some, chk_bind (by simp only [lim, List.length_cons, List.length_nil]; omega), chk_bind (by constructor <;> omega)]
              exact quoted_L0 hs n _ _ (by omega) (by omega) (by omega) (by simp only [List.length_append, List.length_cons, List.length_nil]; omega)
        · rw [if_neg (by simpa using q2)]
          refine (fun (h : ∀ b : Bool, b = (decide ((c.toNat : Int) < 32) || decide ((c.toNat : Int) > 126)) → _) => h _ rfl) fun b hb => ?_
          rw [← hb]
          cases b with
          | true => exact ⟨_, if_pos rfl, fun a b e => by cases e; left; rfl⟩
          | false =>
            rw [if_neg (by simp), chk_bind (by simp only [lim, List.length_cons, List.length_nil]; omega), chk_bind (by constructor <;> omega)]
            exact quoted_L0 hs n _ _ (by omega) (by omega) (by omega) (by simp only [List.length_append, List.length_cons, List.length_nil]; omega)
    · rw [if_neg (by simpa using hi)]; exact ⟨_, rfl, fun a b e => by cases e⟩
theorem token_L1 {s : Str} (hs : s.length ≤ 5000) : ∀ (n : Nat) (i : Int), 0 < i → i ≤ (s.length : Int) → (s.length : Int) - i < n → ∃ r, rulelex_token_L1 s n i = some r ∧ 0 < r ∧ r ≤ (s.length : Int)
  | 0, i, h0, h1, h2 => by omega
  | n + 1, i, h0, h1, h2 => by
    rw [rulelex_token_L1]
    by_cases hi : i < (s.length : Int)
    · obtain ⟨c, hc⟩ := ix_ok (by omega) hi
      rw [if_pos (by simpa using hi), hc, Option.bind_some]
      unfold rulelex_letter rulelex_digit
      rw [Option.bind_some]
      have e : ∀ b : Bool, ∃ d, (if b = true then some true else (some c).bind fun x28 => (some (decide ((x28.toNat : Int) ≥ 48) && decide ((x28.toNat : Int) ≤ 57))).bind fun x29 => some x29) = some d := fun b => ite_ex (fun _ => ⟨_, rfl⟩) (fun _ => ⟨_, rfl⟩)
      obtain ⟨d, hd⟩ := e _
      rw [hd, Option.bind_some]
      cases d with
      | true => rw [if_pos rfl, chk_bind (by constructor <;> omega)]; exact token_L1 hs n (i + 1) (by omega) (by omega) (by omega)
      | false => exact ⟨i, if_neg (by simp), h0, h1⟩
    · exact ⟨i, if_neg (by simpa using hi), h0, h1⟩
theorem token_L3 {s : Str} (hs : s.length ≤ 5000) : ∀ (n : Nat) (i : Int), 0 < i → i ≤ (s.length : Int) → (s.length : Int) - i < n → ∃ r, rulelex_token_L3 s n i = some r ∧ 0 < r ∧ r ≤ (s.length : Int)
  | 0, i, h0, h1, h2 => by omega
  | n + 1, i, h0, h1, h2 => by
    rw [rulelex_token_L3]
    by_cases hi : i < (s.length : Int)
    · obtain ⟨c, hc⟩ := ix_ok (by omega) hi
      rw [if_pos (by simpa using hi), hc, Option.bind_some]
      unfold rulelex_digit
      rw [Option.bind_some, Option.bind_some]
      refine (fun (h : ∀ b : Bool, b = (decide ((c.toNat : Int) ≥ 48) && decide ((c.toNat : Int) ≤ 57)) → _) => h _ rfl) fun b hb => ?_
      rw [← hb]
      cases b with
      | true => rw [if_pos rfl, chk_bind (by constructor <;> omega)]; exact token_L3 hs n (i + 1) (by omega) (by omega) (by omega)
      | false => exact ⟨i, if_neg (by simp), h0, h1⟩
    · rw [if_neg (by simpa using hi), Option.bind_some]
      exact ⟨i, if_neg (by simp), h0, h1⟩
theorem prefix_ok (s p : Str) : strings_HasPrefix s p = some (decide ((s.length : Int) ≥ (p.length : Int)) && decide (subL s (0 : Int) (p.length : Int) = p)) := by
  unfold strings_HasPrefix internal_stringslite_HasPrefix
  by_cases h : (s.length : Int) ≥ (p.length : Int)
  · rw [if_pos (by simpa using h), chk_bind (by omega)]; simp [h]
  · rw [if_neg (by simpa using h)]
    have : ¬ p.length ≤ s.length := by omega
    simp [this]
theorem token_L5 {s : Str} : ∀ (k i : Nat), i + k = 14 → ∃ r, rulelex_token_L5 s k i = some r ∧ ∀ a b c, r = Fl.ret (a, b, c) → 0 ≤ b ∧ b ≤ (s.length : Int)
  | 0, i, h => ⟨_, rfl, fun a b c e => by cases e⟩
  | k + 1, i, h => by
    rw [rulelex_token_L5]
    obtain ⟨p, hp⟩ := ix_ok (s := ([([61, 61] : Str), ([33, 61] : Str), ([60, 61] : Str), ([60] : Str), ([43] : Str), ([45] : Str), ([42] : Str), ([40] : Str), ([41] : Str), ([123] : Str), ([125] : Str), ([44] : Str), ([59] : Str), ([61] : Str)])) (i := (i : Int)) (by omega) (by simp; omega)
    rw [hp, Option.bind_some, prefix_ok, Option.bind_some]
    by_cases q : (decide ((s.length : Int) ≥ (p.length : Int)) && decide (subL s (0 : Int) (p.length : Int) = p)) = true
    · rw [if_pos q]
      simp only [Bool.and_eq_true, decide_eq_true_eq] at q
      exact ⟨_, rfl, fun a b c e => by cases e; omega⟩
    · rw [if_neg q]; exact token_L5 k (i + 1) (by omega)
theorem token_ok {n : Nat} {s : Str} (hn : 10000 ≤ n) (h0 : 0 < s.length) (hs : s.length ≤ 5000) : ∃ a b c, rulelex_token n s = some (a, b, c) ∧ 0 ≤ b ∧ b ≤ (s.length : Int) := by
  unfold rulelex_token
  obtain ⟨c, hc⟩ := ix_ok (s := s) (i := 0) (by omega) (by omega)
  rw [hc, Option.bind_some]
  unfold rulelex_letter
  rw [Option.bind_some]
  split
  · obtain ⟨r, hr, h1, h2⟩ := token_L1 hs n 1 (by omega) (by omega) (by omega)
    rw [hr, Option.bind_some, chk_bind (by omega)]
    exact ⟨_, _, _, rfl, by omega, h2⟩
  · unfold rulelex_digit
    rw [Option.bind_some]
    split
    · obtain ⟨r, hr, h1, h2⟩ := token_L3 hs n 1 (by omega) (by omega) (by omega)
      rw [hr, Option.bind_some]
      split
      · exact ⟨_, _, _, rfl, by omega, by omega⟩
      · rw [chk_bind (by omega)]; exact ⟨_, _, _, rfl, by omega, h2⟩
    · split
      · unfold rulelex_quoted
        obtain ⟨r, hr, h1⟩ := quoted_L0 hs n [] 1 (by omega) (by omega) (by omega) (by simp; omega)
        rw [hr, Option.bind_some]
        cases r with
        | ret z =>
          obtain ⟨a, b⟩ := z
          rw [el_ret, Option.bind_some]
          have := h1 a b rfl
          exact ⟨_, _, _, rfl, by omega, by omega⟩
        | go z => rw [el_go, Option.bind_some]; exact ⟨_, _, _, rfl, by omega, by omega⟩
      · obtain ⟨r, hr, h1⟩ := token_L5 (s := s) 14 0 rfl
        rw [chk_bind (by constructor <;> omega), show ((14 : Int)).toNat = 14 from rfl, hr, Option.bind_some]
        cases r with
        | ret z =>
          obtain ⟨a, b, c⟩ := z
          have := h1 a b c rfl
          exact ⟨_, _, _, rfl, this.1, this.2⟩
        | go z => exact ⟨_, _, _, rfl, by omega, by omega⟩
theorem split_L3 {s : Str} (hs : s.length ≤ 5000) : ∀ (n : Nat) (i : Int), 0 ≤ i → i ≤ (s.length : Int) → (s.length : Int) - i < n → ∃ r, rulelex_Split_L3 s n i = some r ∧ i ≤ r ∧ r ≤ (s.length : Int) ∧ (∀ c, ix s i = some c → (c.toNat : Int) ≠ 10 → i < r)
  | 0, i, h0, h1, h2 => by omega
  | n + 1, i, h0, h1, h2 => by
    rw [rulelex_Split_L3]
    by_cases hi : i < (s.length : Int)
    · obtain ⟨c, hc⟩ := ix_ok h0 hi
      rw [if_pos (by simpa using hi), hc, Option.bind_some, Option.bind_some]
      by_cases q : (c.toNat : Int) = 10
      · exact ⟨i, if_neg (by simpa using q), by omega, h1, fun d e => by cases e; exact fun h => absurd q h⟩
      · obtain ⟨r, hr, h3, h4, _⟩ := split_L3 hs n (i + 1) (by omega) (by omega) (by omega)
        rw [if_pos (by simpa using q), chk_bind (by constructor <;> omega)]
        exact ⟨r, hr, by omega, h4, fun _ _ _ => by omega⟩
    · rw [if_neg (by simpa using hi), Option.bind_some]
      refine ⟨i, if_neg (by simp), by omega, h1, fun c e => ?_⟩
      unfold ix at e
      rw [if_pos h0, List.getElem?_eq_none (by omega)] at e; cases e
theorem split_L0 {s : Str} {m : Nat} (hm : 10000 ≤ m) (hs : s.length ≤ 5000) : ∀ (n : Nat) (y : List S_rulelex_Token) (a b i : Int), 0 ≤ i → i ≤ (s.length : Int) → (s.length : Int) - i < n → (y.length : Int) + (s.length - i) ≤ 100000 → 0 ≤ a → a + (s.length - i) ≤ 100000 → 0 ≤ b → b ≤ i →
    ∃ r, rulelex_Split_L0 s m n y a b i = some r ∧ ∀ p q u v, r = Fl.go (p, q, u, v) → p.length ≤ 100000 ∧ 0 ≤ u ∧ u ≤ (s.length : Int)
  | 0, y, a, b, i, h0, h1, h2, h3, h4, h5, h6, h7 => by omega
  | n + 1, y, a, b, i, h0, h1, h2, h3, h4, h5, h6, h7 => by
    rw [rulelex_Split_L0]
    by_cases hi : i < (s.length : Int)
    · obtain ⟨c, hc⟩ := ix_ok h0 hi
      rw [if_pos (by simpa using hi), hc, Option.bind_some]
      split
      · rw [chk_bind (by constructor <;> omega), chk_bind (by constructor <;> omega)]
        exact split_L0 hm hs n _ _ _ _ (by omega) (by omega) (by omega) (by omega) (by omega) (by omega) (by omega) (by omega)
      · rename_i h10
        split
        · rw [chk_bind (by constructor <;> omega)]
          exact split_L0 hm hs n _ _ _ _ (by omega) (by omega) (by omega) (by omega) (by omega) (by omega) (by omega) (by omega)
        · split
          · rw [chk_bind (by constructor <;> omega)]
            exact split_L0 hm hs n _ _ _ _ (by omega) (by omega) (by omega) (by omega) (by omega) (by omega) (by omega) (by omega)
          · split
            · rw [chk_bind (by constructor <;> omega)]
              exact split_L0 hm hs n _ _ _ _ (by omega) (by omega) (by omega) (by omega) (by omega) (by omega) (by omega) (by omega)
            · split
              · obtain ⟨r, hr, g1, g2, g3⟩ := split_L3 hs m i h0 h1 (by omega)
                have := g3 c hc (by simpa using h10)
                rw [hr, Option.bind_some]
                exact split_L0 hm hs n _ _ _ _ (by omega) (by omega) (by omega) (by omega) (by omega) (by omega) (by omega) (by omega)
              · have hsl : (subL s i (s.length : Int)).length = s.length - i.toNat := by
                  unfold subL
                  rw [List.length_take, List.length_drop]; omega
                rw [chk_bind (by omega)]
                obtain ⟨u, v, w, hr, g1, g2⟩ := token_ok (n := m) (s := subL s i (s.length : Int)) hm (by omega) (by omega)
                rw [hr, Option.bind_some]
                split
                · exact ⟨_, rfl, fun p q u v e => by cases e⟩
                · rename_i hz
                  have hz' : v ≠ 0 := by simpa using hz
                  rw [chk_bind (by constructor <;> omega), chk_bind (by constructor <;> omega), chk_bind (by simp only [lim, List.length_cons, List.length_nil]; omega), chk_bind (by constructor <;> simp only <;> omega)]
                  exact split_L0 hm hs n _ _ _ _ (by simp only; omega) (by simp only; omega) (by simp only; omega) (by simp only [List.length_append, List.length_cons, List.length_nil]; omega) (by omega) (by simp only; omega) (by omega) (by simp only; omega)
    · rw [if_neg (by simpa using hi)]
      exact ⟨_, rfl, fun p q u v e => by cases e; omega⟩
theorem split_ok {n : Nat} {s : Str} (hn : 10000 ≤ n) : ∃ r, rulelex_Split n s = some r := by
  unfold rulelex_Split
  by_cases h : (s.length : Int) > 4096
  · exact ⟨_, if_pos (by simpa using h)⟩
  · obtain ⟨r, hr, h1⟩ := split_L0 hn (s := s) (by omega) n [] 1 0 0 (by omega) (by omega) (by omega) (by simp; omega) (by omega) (by omega) (by omega) (by omega)
    rw [if_neg (by simpa using h), hr, Option.bind_some]
    cases r with
    | ret z => rw [el_ret]; exact ⟨_, rfl⟩
    | go z =>
      obtain ⟨p, q, u, v⟩ := z
      obtain ⟨g1, g2, g3⟩ := h1 p q u v rfl
      rw [el_go, chk_bind (by constructor <;> simp only <;> omega), chk_bind (by constructor <;> simp only <;> omega), chk_bind (by simp only [lim, List.length_cons, List.length_nil]; omega)]
      exact ⟨_, rfl⟩
theorem bind_ex {α β : Type} {o : Option α} {f : α → Option β} (h1 : ∃ a, o = some a) (h2 : ∀ a, o = some a → ∃ r, f a = some r) : ∃ r, o.bind f = some r := by
  obtain ⟨a, ha⟩ := h1
  rw [ha, Option.bind_some]; exact h2 a ha
end Rt
/- Ruletype: validity returns, and what it says. -/
set_option linter.unusedVariables false
set_option linter.unusedSimpArgs false
open Go Go.SL Go.Proofs Pl
namespace Rt
abbrev M := S_ruletree_Node
abbrev N := S_ref43_Node
def Ok : Nat → M → Prop
  | 0, _ => False
  | d + 1, x => x.Text.length ≤ 3000 ∧ x.Kids.length ≤ 700 ∧ ∀ k ∈ x.Kids, Ok d k
theorem Ok.succ : ∀ {d : Nat} {x : M}, Ok d x → Ok (d + 1) x
  | d + 1, x, h => ⟨h.1, h.2.1, fun k hk => (h.2.2 k hk).succ⟩
theorem expression_L0_inv {f : M → Option Bool} : ∀ (l : List M) (i : Nat), (ruletree_expression_L0 f l i).bind (fun s0 => s0.el some fun t0 => some true) = some true → ∀ k ∈ l, f k = some true
  | [], i, _, k, hk => by cases hk
  | a :: l, i, h, k, hk => by
    rw [ruletree_expression_L0] at h
    cases ha : f a with
    | none => rw [ha] at h; cases h
    | some b =>
      rw [ha, Option.bind_some] at h
      cases b with
      | false => simp [Fl.el] at h
      | true =>
        rw [if_neg (by simp)] at h
        rcases List.mem_cons.1 hk with rfl | hk
        · exact ha
        · exact expression_L0_inv l (i + 1) h k hk
theorem expression_inv {n : Nat} {x : M} (h : ruletree_expression n x = some true) : ∃ m k, n = m + 1 ∧ ruletree_operands m x = some k ∧ k ≠ -2 ∧ (0 ≤ k → (x.Kids.length : Int) = k) ∧ ∀ c ∈ x.Kids, ruletree_expression m c = some true := by
  cases n with
  | zero => rw [ruletree_expression] at h; cases h
  | succ m =>
    rw [ruletree_expression] at h
    obtain ⟨k, hk, h⟩ := bnd h
    refine ⟨m, k, rfl, hk, ?_⟩
    cases q : decide (k = -2) with
    | true => rw [q, if_pos rfl] at h; cases h
    | false =>
      rw [q, if_neg (by simp)] at h
      refine ⟨of_decide_eq_false q, ?_⟩
      cases q2 : (decide (k ≥ 0) && decide ((x.Kids.length : Int) ≠ k)) with
      | true => rw [q2, if_pos rfl] at h; cases h
      | false =>
        rw [q2, if_neg (by simp)] at h
        obtain ⟨_, h⟩ := chkb h
        refine ⟨fun h0 => ?_, expression_L0_inv x.Kids 0 h⟩
        simp only [Bool.and_eq_false_iff, decide_eq_false_iff_not] at q2
        omega
theorem blocked_L0_inv {f : M → Option Bool} : ∀ (l : List M) (i : Nat), (ruletree_blocked_L0 f l i).bind (fun s0 => s0.el some fun t0 => some true) = some true → ∀ k ∈ l, f k = some true
  | [], i, _, k, hk => by cases hk
  | a :: l, i, h, k, hk => by
    rw [ruletree_blocked_L0] at h
    cases ha : f a with
    | none => rw [ha] at h; cases h
    | some b =>
      rw [ha, Option.bind_some] at h
      cases b with
      | false => simp [Fl.el] at h
      | true =>
        rw [if_neg (by simp)] at h
        rcases List.mem_cons.1 hk with rfl | hk
        · exact ha
        · exact blocked_L0_inv l (i + 1) h k hk
theorem blocked_inv {f : M → Option Bool} {n : Nat} {x : M} (h : ruletree_blocked f n x = some true) : x.Kind = 12 ∧ ∀ k ∈ x.Kids, f k = some true := by
  unfold ruletree_blocked at h
  cases q : (decide (x.Kind ≠ 12) || decide (x.Text ≠ ([] : Str))) with
  | true => rw [q, if_pos rfl] at h; cases h
  | false =>
    rw [q, if_neg (by simp)] at h
    obtain ⟨_, h⟩ := chkb h
    simp only [Bool.or_eq_false_iff, decide_eq_false_iff_not, Classical.not_not] at q
    exact ⟨q.1, blocked_L0_inv x.Kids 0 h⟩
theorem Valid_L0_inv {n : Nat} : ∀ (l : List M) (i : Nat), (ruletree_Valid_L0 n l i).bind (fun s0 => s0.el some fun t0 => some true) = some true → ∀ k ∈ l, ruletree_stated n k = some true
  | [], i, _, k, hk => by cases hk
  | a :: l, i, h, k, hk => by
    rw [ruletree_Valid_L0] at h
    cases ha : ruletree_stated n a with
    | none => rw [ha] at h; cases h
    | some b =>
      rw [ha, Option.bind_some] at h
      cases b with
      | false => simp [Fl.el] at h
      | true =>
        rw [if_neg (by simp)] at h
        rcases List.mem_cons.1 hk with rfl | hk
        · exact ha
        · exact Valid_L0_inv l (i + 1) h k hk
theorem Valid_inv {n : Nat} {x : M} (h : ruletree_Valid n x = some true) : ∀ k ∈ x.Kids, ruletree_stated n k = some true := by
  unfold ruletree_Valid at h
  split at h
  · cases h
  · obtain ⟨s, hs, h⟩ := bnd h
    split at h
    · cases h
    · obtain ⟨_, h⟩ := chkb h
      exact Valid_L0_inv x.Kids 0 h
end Rt
/- Ruletype: the checker returns on what is valid. -/
set_option linter.unusedVariables false
set_option linter.unusedSimpArgs false
open Go Go.SL Go.Proofs Pl
namespace Rt
abbrev Ck := S_ruletype_checker
abbrev Bd := S_ruletype_Binding
theorem lookup_L0 {env : List Bd} {s : Str} (hl : env.length ≤ 100000) : ∀ (n : Nat) (i : Int), -1 ≤ i → i < (env.length : Int) → i + 1 < n → ∃ r, ruletype_lookup_L0 env s n i = some r
  | 0, i, _, _, h => by omega
  | n + 1, i, h0, h1, h => by
    rw [ruletype_lookup_L0]
    refine ite_ex (fun hi => ?_) fun _ => ⟨_, rfl⟩
    have hi := of_decide_eq_true hi
    obtain ⟨b, hb⟩ := ix_ok (s := env) (i := i) (by omega) (by omega)
    rw [hb, Option.bind_some]
    refine ite_ex (fun _ => ⟨_, rfl⟩) fun _ => ?_
    rw [chk_bind (by constructor <;> omega)]
    exact lookup_L0 hl n (i - 1) (by omega) (by omega) (by omega)
theorem lookup_ok {env : List Bd} {s : Str} {n : Nat} (hl : env.length ≤ 100000) (hn : env.length + 1 ≤ n) : ∃ t, ruletype_lookup n s env = some t := by
  unfold ruletype_lookup
  obtain ⟨r, hr⟩ := lookup_L0 (s := s) hl n ((env.length : Int) - 1) (by omega) (by omega) (by omega)
  rw [chk_bind (by constructor <;> omega), hr, Option.bind_some]
  cases r with
  | ret z => exact ⟨_, rfl⟩
  | go z => rw [el_go]; exact bind_ex ⟨_, rfl⟩ fun _ _ => ite_ex (fun _ => ⟨_, rfl⟩) fun _ => ⟨_, rfl⟩
theorem op1_L0 (t : Int) : ∀ (l : List Int) (i : Nat), ∃ r, ruletype_operator_1_L0 t l i = some r
  | [], i => ⟨_, rfl⟩
  | x :: l, i => by
    rw [ruletype_operator_1_L0]
    exact ite_ex (fun _ => ⟨_, rfl⟩) fun _ => op1_L0 t l (i + 1)
theorem op1_ok (t : Int) {l : List Int} (h : l.length ≤ 1000) : ∃ b, ruletype_operator_1 t l = some b := by
  obtain ⟨r, hr⟩ := op1_L0 t l 0
  unfold ruletype_operator_1
  rw [chk_bind (by simp only [szMax]; omega), hr, Option.bind_some]
  cases r <;> exact ⟨_, rfl⟩
theorem operator_ok {x : M} {l : List Int} (h : l.length ≤ 1000) (h16 : x.Kind = 16 → l.length = 2) : ∃ t, ruletype_operator x l = some t := by
  have one : ∀ (t a : Int), ∃ r, (ruletype_operator_1 t l).bind (fun x => if x = true then some a else some 0) = some r := fun t a => bind_ex (op1_ok t h) fun _ _ => ite_ex (fun _ => ⟨_, rfl⟩) fun _ => ⟨_, rfl⟩
  unfold ruletype_operator
  refine ite_ex (fun _ => bind_ex (op1_ok 1 h) fun _ _ => ite_ex (fun _ => ⟨_, rfl⟩) fun _ => one 2 2) fun _ => ?_
  refine ite_ex (fun _ => one 2 2) fun _ => ?_
  refine ite_ex (fun _ => one 2 2) fun _ => ?_
  refine ite_ex (fun _ => one 3 3) fun _ => ?_
  refine ite_ex (fun _ => one 3 3) fun _ => ?_
  refine ite_ex (fun _ => one 3 3) fun _ => ?_
  refine ite_ex (fun hk => ?_) fun _ => ⟨_, rfl⟩
  have h2 := h16 (of_decide_eq_true hk)
  have cmp : ∃ r, (ix l 0).bind (fun x36 => (ix l 1).bind fun x39 => if decide (x36 = x39) = true then some (3 : Int) else some 0) = some r := bind_ex (ix_ok (by omega) (by omega)) fun _ _ => bind_ex (ix_ok (by omega) (by omega)) fun _ _ => ite_ex (fun _ => ⟨_, rfl⟩) fun _ => ⟨_, rfl⟩
  refine ite_ex (fun _ => cmp) fun _ => ?_
  refine ite_ex (fun _ => cmp) fun _ => ?_
  refine ite_ex (fun _ => one 2 3) fun _ => ?_
  refine ite_ex (fun _ => one 2 3) fun _ => ?_
  exact one 1 3
theorem fail_ok (c : Ck) (x : M) (e : Err) : ∃ r, ruletype_checker_fail c x e = some r := by
  unfold ruletype_checker_fail
  exact ite_ex (fun _ => ⟨_, rfl⟩) fun _ => ⟨_, rfl⟩
theorem function_ok (s : Str) : ∃ r, ruletype_function s = some r := by
  unfold ruletype_function
  repeat (refine ite_ex (fun _ => ⟨_, rfl⟩) fun _ => ?_)
  exact ⟨_, rfl⟩
theorem call_ok (c : Ck) (x : M) (l : List Int) : ∃ r, ruletype_checker_call c x l = some r := by
  unfold ruletype_checker_call
  refine bind_ex (function_ok _) fun f _ => ite_ex (fun _ => bind_ex (fail_ok _ _ _) fun _ _ => ⟨_, rfl⟩) fun _ => ?_
  refine bind_ex (ite_ex (fun _ => ⟨_, rfl⟩) fun h => ?_) fun _ _ => ite_ex (fun _ => bind_ex (fail_ok _ _ _) fun _ _ => ⟨_, rfl⟩) fun _ => ⟨_, rfl⟩
  have h := of_decide_eq_false h
  exact bind_ex (ix_ok (by omega) (by omega)) fun _ _ => ⟨_, rfl⟩
theorem cexpr_L0 {f : Ck → M → List Bd → Option (Int × Ck)} {env : List Bd} : ∀ (l : List M) (i : Nat) (y : List Int) (a : Int) (e : Err), (∀ k ∈ l, ∀ c, ∃ r, f c k env = some r) → y.length + l.length ≤ 1000 →
    ∃ r, ruletype_checker_expr_L0 f env l i y a e = some r ∧ ∀ z, r = Fl.go z → z.1.length = y.length + l.length
  | [], i, y, a, e, _, _ => ⟨_, rfl, fun z h => by cases h; rfl⟩
  | k :: l, i, y, a, e, h, hy => by
    simp only [List.length_cons] at hy
    obtain ⟨r, hr⟩ := h k (by simp) ⟨a, e⟩
    rw [ruletype_checker_expr_L0, hr, Option.bind_some, chk_bind (by simp only [lim, List.length_cons, List.length_nil]; omega)]
    cases q : r.2.err.isSome with
    | true => exact ⟨_, if_pos rfl, fun z h => by cases h⟩
    | false =>
      rw [if_neg (by simp)]
      obtain ⟨r', hr', hl⟩ := cexpr_L0 (f := f) (env := env) l (i + 1) (y ++ [r.1]) r.2.line r.2.err (fun k hk => h k (by simp [hk])) (by simp only [List.length_append, List.length_cons, List.length_nil]; omega)
      exact ⟨r', hr', fun z hz => by rw [hl z hz]; simp only [List.length_append, List.length_cons, List.length_nil]; omega⟩
theorem operands_16 {m : Nat} {x : M} {k : Int} (hk : x.Kind = 16) (h : ruletree_operands m x = some k) : k = 2 ∨ k = -2 := by
  unfold ruletree_operands at h
  rw [hk] at h
  rw [if_neg (by decide), if_neg (by decide), if_neg (by decide), if_neg (by decide), if_neg (by decide), if_neg (by decide), if_pos (by decide)] at h
  obtain ⟨a, _, h⟩ := bnd h
  obtain ⟨b, _, h⟩ := bnd h
  split at h <;> cases h <;> simp
theorem cexpr_ok {env : List Bd} (he : env.length ≤ 100000) : ∀ (d n m : Nat) (x : M) (c : Ck), Ok d x → ruletree_expression m x = some true → d + 200000 ≤ n → ∃ r, ruletype_checker_expr n c x env = some r
  | d + 1, 0, m, x, c, _, _, hn => by omega
  | d + 1, n + 1, m, x, c, h, hv, hn => by
    obtain ⟨h1, h2, h3⟩ := h
    obtain ⟨m', k, rfl, hk, k2, k3, k4⟩ := expression_inv hv
    obtain ⟨r, hr, hl⟩ := cexpr_L0 (f := ruletype_checker_expr n) (env := env) x.Kids 0 [] c.line c.err (fun q hq c' => cexpr_ok he d n m' q c' (h3 q hq) (k4 q hq) (by omega)) (by simp <;> omega)
    rw [ruletype_checker_expr, chk_bind (by simp only [szMax]; omega), hr, Option.bind_some]
    cases r with
    | ret z => exact ⟨_, rfl⟩
    | go z =>
      have hz := hl z rfl
      simp only [List.length_nil, Nat.zero_add] at hz
      rw [el_go]
      refine ite_ex (fun _ => ⟨_, rfl⟩) fun _ => ?_
      refine ite_ex (fun _ => ⟨_, rfl⟩) fun _ => ?_
      refine ite_ex (fun _ => ⟨_, rfl⟩) fun _ => ?_
      refine ite_ex (fun _ => bind_ex (lookup_ok he (by omega)) fun _ _ => ite_ex (fun _ => bind_ex (fail_ok _ _ _) fun _ _ => ⟨_, rfl⟩) fun _ => ⟨_, rfl⟩) fun _ => ?_
      refine ite_ex (fun _ => bind_ex (call_ok _ _ _) fun _ _ => ⟨_, rfl⟩) fun _ => ?_
      refine bind_ex (operator_ok (by omega) fun h16 => ?_) fun _ _ => ite_ex (fun _ => bind_ex (fail_ok _ _ _) fun _ _ => ⟨_, rfl⟩) fun _ => ⟨_, rfl⟩
      rcases operands_16 h16 hk with rfl | rfl
      · have := k3 (by omega); omega
      · exact absurd rfl k2
theorem needs_ok (x : M) : ∃ t, ruletype_needs x = some t := by
  unfold ruletype_needs
  repeat (refine ite_ex (fun _ => ⟨_, rfl⟩) fun _ => ?_)
  exact ⟨_, rfl⟩
theorem declared_ok {env : List Bd} {s : Str} {n : Nat} (hl : env.length ≤ 100000) (hn : env.length + 1 ≤ n) : ∃ t, ruletype_declared n s env = some t := by
  unfold ruletype_declared
  exact bind_ex (lookup_ok hl hn) fun _ _ => ⟨_, rfl⟩
theorem extended_eq {env : List Bd} {s : Str} {t : Int} (hl : env.length ≤ 100000) : ruletype_extended env s t = some (env ++ [⟨s, t⟩]) := by
  unfold ruletype_extended
  rw [chk_bind (by constructor <;> omega), chk_bind (by simp only [lim]; omega), chk_bind (by simp only [lim, List.length_nil]; omega), chk_bind (by simp only [lim, List.length_append, List.length_cons, List.length_nil]; omega)]; rfl
/-- A statement that is valid. -/
theorem stated_inv {n : Nat} {x : M} (h : ruletree_stated n x = some true) : ∃ m, n = m + 1 ∧ (∀ c, x.Kids[0]? = some c → ruletree_expression m c = some true) ∧
    (x.Kind = 2 → 2 ≤ x.Kids.length ∧ ∀ c ∈ x.Kids.drop 1, (c.Kind = 12 ∧ ∀ k ∈ c.Kids, ruletree_stated m k = some true) ∨ (c.Kind ≠ 12 ∧ ruletree_stated m c = some true)) := by
  cases n with
  | zero => rw [ruletree_stated] at h; cases h
  | succ m =>
    have one : (if decide ((x.Kids.length : Int) = 1) then (ix x.Kids 0).bind fun x121 => (ruletree_expression m x121).bind fun x123 => some x123 else some false).bind (fun x124 => some x124) = some true → ∀ c, x.Kids[0]? = some c → ruletree_expression m c = some true := fun h c hc => by
      obtain ⟨b, hb, h⟩ := bnd h
      cases h
      split at hb
      · have hx : ix x.Kids 0 = some c := by unfold ix; rw [if_pos (by omega)]; exact hc
        rw [hx, Option.bind_some] at hb
        obtain ⟨b2, hb2, hb⟩ := bnd hb
        cases hb; exact hb2
      · cases hb
    have nil : (x.Kids.length : Int) = 0 → ∀ c, x.Kids[0]? = some c → ruletree_expression m c = some true := fun h c hc => by
      rw [List.getElem?_eq_none (by omega)] at hc; cases hc
    refine ⟨m, rfl, ?_⟩
    rw [ruletree_stated] at h
    by_cases k2 : x.Kind = 2
    · rw [if_pos (by simpa using k2)] at h
      obtain ⟨a, ha, g⟩ := bnd h
      obtain ⟨b, hb, gg⟩ := bnd g
      cases b with
      | true => rw [if_pos rfl] at gg; cases gg
      | false =>
        rw [if_neg (by simp)] at gg
        cases a with
        | true => rw [if_pos rfl] at hb; cases hb
        | false =>
          cases q : ((decide (x.Text ≠ ([] : Str)) || decide ((x.Kids.length : Int) < 2)) || decide ((x.Kids.length : Int) > 3)) with
          | true => rw [q, if_pos rfl] at ha; cases ha
          | false =>
            rw [q, if_neg (by simp)] at ha
            simp only [Bool.or_eq_false_iff, decide_eq_false_iff_not] at q
            rw [if_neg (by simp)] at hb
            obtain ⟨c0, hc0, ha⟩ := bnd ha
            obtain ⟨e0, he0, ha⟩ := bnd ha
            obtain ⟨c1, hc1, hb⟩ := bnd hb
            obtain ⟨e1, he1, hb⟩ := bnd hb
            have ha : e0 = true := by simpa using ha
            have hb : e1 = true := by simpa using hb
            subst ha; subst hb
            have g0 : x.Kids[0]? = some c0 := by unfold ix at hc0; rw [if_pos (by omega)] at hc0; exact hc0
            have g1 : x.Kids[1]? = some c1 := by unfold ix at hc1; rw [if_pos (by omega)] at hc1; exact hc1
            obtain ⟨i1, i2⟩ := blocked_inv he1
            refine ⟨fun c hc => by rw [g0] at hc; cases hc; exact he0, fun _ => ⟨by omega, fun c hc => ?_⟩⟩
            obtain ⟨i, hi⟩ := List.getElem?_of_mem hc
            rw [List.getElem?_drop] at hi
            have hil : 1 + i < x.Kids.length := (List.getElem?_eq_some_iff.1 hi).1
            by_cases z : i = 0
            · subst z
              rw [g1] at hi; cases hi
              exact .inl ⟨i1, i2⟩
            · have : i = 1 := by omega
              subst this
              have hx2 : ix x.Kids 2 = some c := by unfold ix; rw [if_pos (by omega)]; exact hi
              rw [if_neg (by simp <;> omega), hx2, Option.bind_some] at gg
              obtain ⟨e, he, g3⟩ := bnd gg
              obtain ⟨e', he', he2⟩ := bnd he
              cases he2
              cases e with
              | true => have := blocked_inv he'; exact .inl ⟨this.1, this.2⟩
              | false =>
                rw [if_neg (by simp), Option.bind_some] at g3
                obtain ⟨e2, he2, g4⟩ := bnd g3
                cases g4
                split at he2
                · rename_i hk
                  have hk := of_decide_eq_true hk
                  rw [Option.bind_some] at he2
                  obtain ⟨e3, he3, g5⟩ := bnd he2
                  cases g5
                  exact .inr ⟨by omega, he3⟩
                · cases he2
    · rw [if_neg (by simpa using k2)] at h
      refine ⟨?_, fun h2 => absurd h2 k2⟩
      by_cases q6 : x.Kind = 6
      · rw [if_pos (by simpa using q6)] at h
        obtain ⟨_, _, g⟩ := bnd h
        exact nil (of_decide_eq_true (Bool.and_eq_true_iff.1 (Option.some.inj g)).2)
      rw [if_neg (by simpa using q6)] at h
      by_cases q10 : x.Kind = 10
      · rw [if_pos (by simpa using q10)] at h
        exact nil (of_decide_eq_true (Bool.and_eq_true_iff.1 (Option.some.inj h)).2)
      rw [if_neg (by simpa using q10)] at h
      by_cases q11 : x.Kind = 11
      · rw [if_pos (by simpa using q11)] at h
        exact nil (of_decide_eq_true (Bool.and_eq_true_iff.1 (Option.some.inj h)).2)
      rw [if_neg (by simpa using q11)] at h
      have fin : ∀ {b : Bool} {p : Option Bool}, (if b = true then some false else p) = some true → p = some true := fun {b p} h => by
        cases b with
        | true => rw [if_pos rfl] at h; cases h
        | false => rw [if_neg (by simp)] at h; exact h
      by_cases q3 : x.Kind = 3
      · rw [if_pos (by simpa using q3)] at h
        obtain ⟨_, _, g⟩ := bnd h
        exact one (fin g)
      rw [if_neg (by simpa using q3)] at h
      by_cases q4 : x.Kind = 4
      · rw [if_pos (by simpa using q4)] at h; exact one (fin h)
      rw [if_neg (by simpa using q4)] at h
      by_cases q5 : x.Kind = 5
      · rw [if_pos (by simpa using q5)] at h
        obtain ⟨_, _, g⟩ := bnd h
        exact one (fin g)
      rw [if_neg (by simpa using q5)] at h
      by_cases q7 : x.Kind = 7
      · rw [if_pos (by simpa using q7)] at h; exact one (fin h)
      rw [if_neg (by simpa using q7)] at h
      by_cases q8 : x.Kind = 8
      · rw [if_pos (by simpa using q8)] at h; exact one (fin h)
      rw [if_neg (by simpa using q8)] at h
      by_cases q9 : x.Kind = 9
      · rw [if_pos (by simpa using q9)] at h; exact one (fin h)
      rw [if_neg (by simpa using q9)] at h
      cases h
end Rt
/- Ruletype: statements; Check returns. -/
set_option linter.unusedVariables false
set_option linter.unusedSimpArgs false
open Go Go.SL Go.Proofs Pl
namespace Rt
def Gd (d : Nat) (x : M) : Prop := Ok d x ∧ ∃ m, ruletree_stated m x = some true
theorem branch_ok {d : Nat} {k : M} (h : Ok d k) (hv : (k.Kind = 12 ∧ ∀ q ∈ k.Kids, ∃ m, ruletree_stated m q = some true) ∨ (k.Kind ≠ 12 ∧ ∃ m, ruletree_stated m k = some true)) :
    ∃ l, ruletype_branch k = some l ∧ l.length ≤ 700 ∧ ∀ x ∈ l, Gd d x := by
  unfold ruletype_branch
  rcases hv with ⟨h1, h2⟩ | ⟨h1, h2⟩
  · refine ⟨_, if_pos (by simpa using h1), ?_, ?_⟩
    · cases d with
      | zero => exact h.elim
      | succ d => exact h.2.1
    · cases d with
      | zero => exact h.elim
      | succ d => exact fun x hx => ⟨(h.2.2 x hx).succ, h2 x hx⟩
  · refine ⟨_, if_neg (by simpa using h1), by simp, fun x hx => ?_⟩
    simp at hx; subst hx
    exact ⟨h, h2⟩
theorem block_L3 {f : Ck → List M → List Bd → Option Ck} {env : List Bd} : ∀ (l : List M) (i : Nat) (a : Int) (e : Err), (∀ k ∈ l, ∃ q, ruletype_branch k = some q ∧ ∀ c, ∃ r, f c q env = some r) → ∃ r, ruletype_checker_block_L3 f env l i a e = some r
  | [], i, a, e, _ => ⟨_, rfl⟩
  | k :: l, i, a, e, h => by
    obtain ⟨q, hq, hr⟩ := h k (by simp)
    rw [ruletype_checker_block_L3, hq, Option.bind_some]
    exact bind_ex (hr _) fun _ _ => block_L3 l (i + 1) _ _ fun k hk => h k (by simp [hk])
set_option maxRecDepth 100000 in
theorem block_L0 {n d : Nat} {f : Ck → List M → List Bd → Option Ck} (hn : d + 200000 ≤ n) (hf : ∀ (l : List M) (env : List Bd) (c : Ck), (∀ x ∈ l, Gd d x) → l.length ≤ 700 → env.length + 701 * (d + 1) ≤ 90000 → ∃ r, f c l env = some r) :
    ∀ (l : List M) (i : Nat) (env : List Bd) (a : Int) (e : Err), (∀ x ∈ l, Gd (d + 1) x) → env.length + l.length + 701 * (d + 1) ≤ 90000 → ∃ r, ruletype_checker_block_L0 n f l i env a e = some r
  | [], i, env, a, e, _, _ => ⟨_, rfl⟩
  | x :: l, i, env, a, e, h, hl => by
    simp only [List.length_cons] at hl
    have ih : ∀ (env' : List Bd) (a' : Int) (e' : Err), env'.length ≤ env.length + 1 → ∃ r, ruletype_checker_block_L0 n f l (i + 1) env' a' e' = some r := fun env' a' e' he => block_L0 hn hf l (i + 1) env' a' e' (fun y hy => h y (by simp [hy])) (by omega)
    obtain ⟨⟨h1, h2, h3⟩, m0, hm⟩ := h x (by simp)
    obtain ⟨m, rfl, k0, k2⟩ := stated_inv hm
    rw [ruletype_checker_block_L0]
    refine ite_ex (fun _ => ih _ _ _ (by omega)) fun hk => ?_
    have hk := of_decide_eq_false hk
    have hg0 : x.Kids[0]? = some (x.Kids[0]'(by omega)) := List.getElem?_eq_getElem (by omega)
    have hi0 : ix x.Kids 0 = some (x.Kids[0]'(by omega)) := by unfold ix; rw [if_pos (by omega)]; exact hg0
    rw [hi0, Option.bind_some]
    have tl : ∀ c1 : Ck, ∀ t : Int, ∃ r, (if decide (x.Kind = 3) then
        (ruletype_declared n x.Text env).bind fun x61 =>
        if x61 then
        (ruletype_checker_fail c1 x (some 4)).bind fun x65 =>
        (ruletype_extended env x.Text t).bind fun x70 =>
        if x65.err.isSome then
        some (Fl.ret x65)
        else
        ruletype_checker_block_L0 n f l (i + 1) x70 x65.line x65.err
        else
        (ruletype_extended env x.Text t).bind fun x70 =>
        if c1.err.isSome then
        some (Fl.ret c1)
        else
        ruletype_checker_block_L0 n f l (i + 1) x70 c1.line c1.err
        else
        if decide (x.Kind = 2) then
        (chk (0 ≤ (1 : Int) ∧ (1 : Int) ≤ (x.Kids.length : Int) ∧ (x.Kids.length : Int) ≤ (x.Kids.length : Int))).bind fun _ =>
        (chk ((subL x.Kids (1 : Int) (x.Kids.length : Int)).length ≤ szMax)).bind fun _ =>
        (ruletype_checker_block_L3 f env (subL x.Kids (1 : Int) (x.Kids.length : Int)) 0 c1.line c1.err).bind fun t3 =>
        if t3.2.isSome then
        some (Fl.ret (⟨t3.1, t3.2⟩ : Ck))
        else
        ruletype_checker_block_L0 n f l (i + 1) env t3.1 t3.2
        else
        if c1.err.isSome then
        some (Fl.ret c1)
        else
        ruletype_checker_block_L0 n f l (i + 1) env c1.line c1.err : Option (Fl Ck (List Bd × Int × Err))) = some r := fun c1 t => by
      refine ite_ex (fun _ => ?_) fun _ => ?_
      · refine bind_ex (declared_ok (by omega) (by omega)) fun _ _ => ite_ex (fun _ => ?_) fun _ => ?_
        · refine bind_ex (fail_ok _ _ _) fun _ _ => ?_
          rw [extended_eq (by omega), Option.bind_some]
          exact ite_ex (fun _ => ⟨_, rfl⟩) fun _ => ih _ _ _ (by simp)
        · rw [extended_eq (by omega), Option.bind_some]
          exact ite_ex (fun _ => ⟨_, rfl⟩) fun _ => ih _ _ _ (by simp)
      · refine ite_ex (fun hk2 => ?_) fun _ => ite_ex (fun _ => ⟨_, rfl⟩) fun _ => ih _ _ _ (by omega)
        obtain ⟨g1, g2⟩ := k2 (of_decide_eq_true hk2)
        have hsub : subL x.Kids (1 : Int) (x.Kids.length : Int) = x.Kids.drop 1 := by
          unfold subL
          rw [show ((1 : Int)).toNat = 1 from rfl]
          exact List.take_of_length_le (by rw [List.length_drop]; omega)
        rw [chk_bind (by omega), hsub, chk_bind (by rw [List.length_drop]; simp only [szMax]; omega)]
        refine bind_ex (block_L3 _ 0 _ _ fun k hk => ?_) fun _ _ => ite_ex (fun _ => ⟨_, rfl⟩) fun _ => ih _ _ _ (by omega)
        have hkm : k ∈ x.Kids := List.mem_of_mem_drop hk
        obtain ⟨q, hq, ql, qg⟩ := branch_ok (h3 k hkm) (by
          rcases g2 k hk with ⟨a1, a2⟩ | ⟨a1, a2⟩
          · exact .inl ⟨a1, fun q hq => ⟨m, a2 q hq⟩⟩
          · exact .inr ⟨a1, m, a2⟩)
        exact ⟨q, hq, fun c => hf q env c qg ql (by omega)⟩
    refine bind_ex (cexpr_ok (env := env) (by omega) d n m _ _ (h3 _ (List.getElem_mem _)) (k0 _ hg0) (by omega)) fun t ht => ?_
    refine bind_ex (needs_ok x) fun nd _ => ?_
    refine ite_ex (fun _ => ?_) fun _ => ?_
    · refine bind_ex (fail_ok _ _ _) fun c1 _ => ?_
      exact ite_ex (fun _ => ⟨_, rfl⟩) fun _ => tl c1 t.1
    · exact ite_ex (fun _ => ⟨_, rfl⟩) fun _ => tl t.2 t.1
set_option maxRecDepth 100000 in
theorem block_ok : ∀ (d n : Nat) (l : List M) (env : List Bd) (c : Ck), (∀ x ∈ l, Gd d x) → l.length ≤ 700 → env.length + 701 * (d + 1) ≤ 90000 → d + 300000 ≤ n → ∃ r, ruletype_checker_block n c l env = some r
  | d, 0, l, env, c, _, _, _, hn => by omega
  | 0, n + 1, l, env, c, h, hl, he, hn => by
    have : l = [] := by
      cases l with
      | nil => rfl
      | cons x l => exact (h x (by simp)).1.elim
    subst this
    rw [ruletype_checker_block, chk_bind (by simp [szMax])]
    exact ⟨_, rfl⟩
  | d + 1, n + 1, l, env, c, h, hl, he, hn => by
    obtain ⟨r, hr⟩ := block_L0 (n := n) (d := d) (f := ruletype_checker_block n) (by omega) (fun l' env' c' h1 h2 h3 => block_ok d n l' env' c' h1 h2 h3 (by omega)) l 0 env c.line c.err h (by omega)
    rw [ruletype_checker_block, chk_bind (by simp only [szMax]; omega), hr, Option.bind_some]
    cases r <;> exact ⟨_, rfl⟩
end Rt
/- Ruletype: small trees, and their copies. -/
set_option linter.unusedVariables false
set_option linter.unusedSimpArgs false
open Go Go.SL Go.Proofs Pl
namespace Rt
inductive A2 {α β : Type} (P : α → β → Prop) : List α → List β → Prop
  | nil : A2 P [] []
  | cons {a : α} {b : β} {l : List α} {k : List β} : P a b → A2 P l k → A2 P (a :: l) (b :: k)
theorem A2.len {α β : Type} {P : α → β → Prop} {l : List α} {k : List β} (h : A2 P l k) : k.length = l.length := by
  induction h with
  | nil => rfl
  | cons _ _ ih => simp [ih]
theorem A2.mem {α β : Type} {P : α → β → Prop} {l : List α} {k : List β} (h : A2 P l k) : ∀ b ∈ k, ∃ a ∈ l, P a b := by
  induction h with
  | nil => intro b hb; cases hb
  | cons hp _ ih =>
    intro b hb
    rcases List.mem_cons.1 hb with rfl | hb
    · exact ⟨_, by simp, hp⟩
    · obtain ⟨a, ha, q⟩ := ih b hb; exact ⟨a, by simp [ha], q⟩
def OkN : Nat → N → Prop
  | 0, _ => False
  | d + 1, x => x.Text.length ≤ 3000 ∧ x.Kids.length ≤ 700 ∧ ∀ k ∈ x.Kids, OkN d k
theorem weigh_L0 {f : N → Int → Option Int} {e B : Int} (he : -100 ≤ e ∧ e ≤ 100) (hB : 0 ≤ B ∧ B ≤ 1000000) {P : N → Prop} : ∀ (l : List N) (i : Nat) (y : Int), 1 ≤ y → y ≤ 700 → (∀ k ∈ l, ∃ v, f k (e - 1) = some v ∧ 1 ≤ v ∧ v ≤ B ∧ (v ≤ 700 → P k)) →
    ∃ r, law44_weigh_L0 e f l i y = some r ∧ (∀ z, r = Fl.go z → z ≤ 700 ∧ y + l.length ≤ z ∧ ∀ k ∈ l, P k) ∧ ∀ z, r = Fl.ret z → 700 < z ∧ z ≤ 700 + B
  | [], i, y, h1, h2, _ => ⟨_, rfl, fun z e => by cases e; exact ⟨h2, by simp, fun k hk => by cases hk⟩, fun z e => by cases e⟩
  | k :: l, i, y, h1, h2, h => by
    obtain ⟨v, hv, v1, v2, v3⟩ := h k (by simp)
    rw [law44_weigh_L0, chk_bind (by constructor <;> omega), hv, Option.bind_some, chk_bind (by constructor <;> omega)]
    by_cases q : y + v > 700
    · exact ⟨_, if_pos (by simpa using q), fun z e => (by cases e), fun z e => by cases e; omega⟩
    · rw [if_neg (by simpa using q)]
      obtain ⟨r, hr, g1, g2⟩ := weigh_L0 he hB (P := P) l (i + 1) (y + v) (by omega) (by omega) fun k hk => h k (by simp [hk])
      refine ⟨r, hr, fun z hz => ?_, g2⟩
      obtain ⟨a1, a2, a3⟩ := g1 z hz
      refine ⟨a1, by rw [List.length_cons]; omega, fun q hq => ?_⟩
      rcases List.mem_cons.1 hq with rfl | hq
      · exact v3 (by omega)
      · exact a3 q hq
theorem weigh_ok : ∀ (e n : Nat) (x : N), S_ref43_Node.ok x → e + 1 ≤ n → e ≤ 40 → ∃ v, law44_weigh n x (e : Int) = some v ∧ 1 ≤ v ∧ v ≤ 1000 + 700 * e ∧ (v ≤ 700 → OkN e x)
  | e, 0, x, _, hn, _ => by omega
  | 0, n + 1, x, h, hn, he => by
    rw [law44_weigh, if_pos (by simp)]
    exact ⟨_, rfl, by omega, by omega, fun h => by omega⟩
  | e + 1, n + 1, x, h, hn, he => by
    obtain ⟨k0, k1, l2, k2, k3⟩ := h
    rw [law44_weigh]
    by_cases q : x.Text.length > 3000
    · rw [if_pos (by simp; omega)]
      exact ⟨_, rfl, by omega, by omega, fun h => by omega⟩
    · rw [if_neg (by simp; omega), chk_bind l2]
      obtain ⟨r, hr, g1, g2⟩ := weigh_L0 (f := law44_weigh n) (e := ((e + 1 : Nat) : Int)) (B := 1000 + 700 * e) (by omega) (by omega) (P := fun k => OkN e k) x.Kids 0 1 (by omega) (by omega) fun k hk => by
        have := weigh_ok e n k (k2 k hk) (by omega) (by omega)
        rw [show (((e + 1 : Nat) : Int) - 1) = (e : Int) from by omega]
        exact this
      rw [hr, Option.bind_some]
      cases r with
      | ret z =>
        obtain ⟨a1, a2⟩ := g2 z rfl
        exact ⟨z, rfl, by omega, by omega, fun h => by omega⟩
      | go z =>
        obtain ⟨a1, a2, a3⟩ := g1 z rfl
        exact ⟨z, rfl, by omega, by omega, fun _ => ⟨by omega, by omega, a3⟩⟩
theorem Large_ok {n : Nat} {x : N} (h : S_ref43_Node.ok x) (hn : 41 ≤ n) : law44_Large n x = some true ∨ (law44_Large n x = some false ∧ OkN 40 x) := by
  obtain ⟨v, hv, _, _, h2⟩ := weigh_ok 40 n x h hn (by omega)
  unfold law44_Large
  rw [show ((40 : Nat) : Int) = 40 from rfl] at hv
  rw [hv, Option.bind_some]
  by_cases q : v > 700
  · left; simp [q]
  · right; exact ⟨by simp [q], h2 (by omega)⟩
def Cvd : Nat → N → M → Prop
  | 0, _, _ => False
  | d + 1, x, y => y.Kind = x.Kind ∧ y.Text = x.Text ∧ y.Line = x.Line ∧ A2 (Cvd d) x.Kids y.Kids
def Mvd (b : Int) : Nat → N → N → Prop
  | 0, _, _ => False
  | d + 1, x, y => y.Kind = x.Kind ∧ y.Text = x.Text ∧ y.Line = IntKind.i64.wrap (x.Line + b) ∧ A2 (Mvd b d) x.Kids y.Kids
theorem Of_L0 {f : N → Option M} {P : N → M → Prop} : ∀ (l : List N) (i : Nat) (y : List M), (∀ k ∈ l, ∃ z, f k = some z ∧ P k z) → y.length + l.length ≤ 10000 → ∃ ys, law43_Of_L0 f l i y = some (y ++ ys) ∧ A2 P l ys
  | [], i, y, _, _ => ⟨[], by simp [law43_Of_L0], .nil⟩
  | k :: l, i, y, h, hl => by
    simp only [List.length_cons] at hl
    obtain ⟨z, hz, hp⟩ := h k (by simp)
    obtain ⟨ys, e, ha⟩ := Of_L0 (P := P) l (i + 1) (y ++ [z]) (fun k hk => h k (by simp [hk])) (by simp only [List.length_append, List.length_cons, List.length_nil]; omega)
    rw [law43_Of_L0, hz, Option.bind_some, chk_bind (by simp only [lim, List.length_cons, List.length_nil]; omega), e]
    exact ⟨z :: ys, by simp, .cons hp ha⟩
theorem Of_ok : ∀ (d n : Nat) (x : N), OkN d x → d + 1 ≤ n → ∃ y, law43_Of n x = some y ∧ Cvd d x y
  | d + 1, 0, x, _, hn => by omega
  | d + 1, n + 1, x, h, hn => by
    obtain ⟨h1, h2, h3⟩ := h
    obtain ⟨ys, e, ha⟩ := Of_L0 (f := law43_Of n) (P := Cvd d) x.Kids 0 [] (fun k hk => Of_ok d n k (h3 k hk) (by omega)) (by simp <;> omega)
    rw [law43_Of, chk_bind (by simp only [szMax]; omega), e, Option.bind_some]
    exact ⟨_, rfl, rfl, rfl, rfl, ha⟩
theorem Cvd.ok : ∀ {d : Nat} {x : N} {y : M}, OkN d x → Cvd d x y → Ok d y
  | d + 1, x, y, h, hc => by
    obtain ⟨h1, h2, h3⟩ := h
    obtain ⟨c1, c2, c3, c4⟩ := hc
    refine ⟨by rw [c2]; exact h1, by rw [c4.len]; exact h2, fun k hk => ?_⟩
    obtain ⟨a, ha, q⟩ := c4.mem k hk
    exact Cvd.ok (h3 a ha) q
theorem Mvd.ok {b : Int} : ∀ {d : Nat} {x y : N}, OkN d x → Mvd b d x y → OkN d y
  | d + 1, x, y, h, hc => by
    obtain ⟨h1, h2, h3⟩ := h
    obtain ⟨c1, c2, c3, c4⟩ := hc
    refine ⟨by rw [c2]; exact h1, by rw [c4.len]; exact h2, fun k hk => ?_⟩
    obtain ⟨a, ha, q⟩ := c4.mem k hk
    exact Mvd.ok (h3 a ha) q
end Rt
/- Ruletype: how many nodes; names in environments. -/
set_option linter.unusedVariables false
set_option linter.unusedSimpArgs false
open Go Go.SL Go.Proofs Pl
namespace Rt
/-! ### names -/
def pre (s : Str) : Bool := ((decide (s = ([109, 101, 116, 104, 111, 100] : Str)) || decide (s = ([104, 111, 115, 116] : Str))) || decide (s = ([112, 97, 116, 104] : Str))) || decide (s = ([113, 117, 101, 114, 121] : Str))
def lk (s : Str) (env : List Bd) : Int := match env.reverse.find? (fun b => decide (b.Name = s)) with
  | some b => b.TypeZ
  | none => if pre s then 1 else 0
theorem lk_snoc (s : Str) (env : List Bd) (b : Bd) : lk s (env ++ [b]) = if b.Name = s then b.TypeZ else lk s env := by
  unfold lk
  rw [List.reverse_append]
  simp only [List.reverse_cons, List.reverse_nil, List.nil_append, List.cons_append, List.find?_cons]
  by_cases h : b.Name = s <;> simp [h]
theorem lookup_L0_eq {env : List Bd} {s : Str} (hl : env.length ≤ 100000) : ∀ (j n : Nat), j ≤ env.length → j + 1 ≤ n →
    ruletype_lookup_L0 env s n ((j : Int) - 1) = some (match (env.take j).reverse.find? (fun b => decide (b.Name = s)) with | some b => Fl.ret b.TypeZ | none => Fl.go (-1))
  | 0, n + 1, _, _ => by
    rw [ruletype_lookup_L0, if_neg (by simp)]; simp
  | j + 1, n + 1, h, hn => by
    have hj : j < env.length := by omega
    have e : ((j + 1 : Nat) : Int) - 1 = (j : Int) := by omega
    have hix : ix env (j : Int) = some env[j] := by unfold ix; rw [if_pos (by omega)]; simp [hj]
    have ht : (env.take (j + 1)).reverse = env[j] :: (env.take j).reverse := by
      rw [List.take_succ_eq_append_getElem hj, List.reverse_append]; rfl
    rw [e, ruletype_lookup_L0, if_pos (by simp), hix, Option.bind_some, Option.bind_some, ht, List.find?_cons]
    by_cases q : env[j].Name = s
    · rw [if_pos (by simpa using q)]; simp [q]
    · rw [if_neg (by simpa using q), chk_bind (by constructor <;> omega), lookup_L0_eq hl j n (by omega) (by omega)]
      simp [q]
  | 0, 0, _, h => by omega
  | j + 1, 0, _, h => by omega
theorem lookup_eq {env : List Bd} {s : Str} {n : Nat} (hl : env.length ≤ 100000) (hn : env.length + 1 ≤ n) : ruletype_lookup n s env = some (lk s env) := by
  unfold ruletype_lookup
  rw [chk_bind (by constructor <;> omega), lookup_L0_eq hl env.length n (by omega) hn, Option.bind_some, List.take_length]
  unfold lk
  cases env.reverse.find? (fun b => decide (b.Name = s)) with
  | some b => rfl
  | none =>
    rw [el_go]
    show (if pre s = true then some (1 : Int) else some 0) = some (if pre s = true then 1 else 0)
    split <;> rfl
def Ev (e e' : List Bd) : Prop := ∀ s, lk s e ≠ 0 → lk s e' = lk s e
theorem Ev.ext {e : List Bd} {s : Str} {t : Int} (h : lk s e = 0) : Ev e (e ++ [⟨s, t⟩]) := fun q hq => by
  rw [lk_snoc]
  have : s ≠ q := fun e1 => hq (e1 ▸ h)
  rw [if_neg this]
end Rt
/- Ruletype: numbers of nodes; copies are functions. -/
set_option linter.unusedVariables false
set_option linter.unusedSimpArgs false
open Go Go.SL Go.Proofs Pl
namespace Rt
def cntN : Nat → N → Nat
  | 0, _ => 0
  | d + 1, x => 1 + (x.Kids.map (cntN d)).sum
def cntNL (d : Nat) (l : List N) : Nat := (l.map (cntN d)).sum
theorem cntNL_cons (d : Nat) (x : N) (l : List N) : cntNL d (x :: l) = cntN d x + cntNL d l := by simp [cntNL]
theorem cntN_eq (d : Nat) (x : N) : cntN (d + 1) x = 1 + cntNL d x.Kids := rfl
theorem weigh_L0_cnt {f : N → Int → Option Int} {e : Int} {d : Nat} : ∀ (l : List N) (i : Nat) (y : Int) (r : Fl Int Int), 1 ≤ y → (∀ k ∈ l, ∀ v, f k (e - 1) = some v → v ≤ 700 → (cntN d k : Int) ≤ v) → law44_weigh_L0 e f l i y = some r →
    (∀ z, r = Fl.go z → y + (cntNL d l : Int) ≤ z) ∧ ∀ z, r = Fl.ret z → 700 < z
  | [], i, y, r, _, _, h => by cases h; exact ⟨fun z e => by cases e; simp [cntNL], fun z e => by cases e⟩
  | k :: l, i, y, r, hy, hf, h => by
    rw [law44_weigh_L0] at h
    obtain ⟨_, h1⟩ := chkb h
    obtain ⟨v, hv, h2⟩ := bnd h1
    obtain ⟨_, h3⟩ := chkb h2
    by_cases q : y + v > 700
    · rw [if_pos (by simpa using q)] at h3
      cases h3
      exact ⟨fun z e => (by cases e), fun z e => by cases e; exact q⟩
    · rw [if_neg (by simpa using q)] at h3
      have hc := hf k (by simp) v hv (by omega)
      obtain ⟨g1, g2⟩ := weigh_L0_cnt l (i + 1) (y + v) r (by omega) (fun k hk => hf k (by simp [hk])) h3
      refine ⟨fun z e => ?_, g2⟩
      have := g1 z e
      rw [cntNL_cons]; omega
theorem weigh_cnt : ∀ (e n : Nat) (x : N) (v : Int), law44_weigh n x (e : Int) = some v → v ≤ 700 → (cntN e x : Int) ≤ v
  | _, 0, x, v, h, _ => by rw [law44_weigh] at h; cases h
  | 0, n + 1, x, v, h, hv => by
    rw [law44_weigh, if_pos (by simp)] at h
    cases h; omega
  | e + 1, n + 1, x, v, h, hv => by
    rw [law44_weigh] at h
    split at h
    · cases h; omega
    · obtain ⟨_, h1⟩ := chkb h
      obtain ⟨r, hr, h2⟩ := bnd h1
      obtain ⟨g1, g2⟩ := weigh_L0_cnt (d := e) x.Kids 0 1 r (by omega) (fun k hk v hv hv2 => by
        rw [show (((e + 1 : Nat) : Int) - 1) = (e : Int) from by omega] at hv
        exact weigh_cnt e n k v hv hv2) hr
      cases r with
      | ret z => rw [el_ret] at h2; cases h2; have := g2 _ rfl; omega
      | go z => rw [el_go] at h2; cases h2; have := g1 _ rfl; rw [cntN_eq]; omega
theorem Large_cnt {n : Nat} {x : N} (h : law44_Large n x = some false) : cntN 40 x ≤ 700 := by
  unfold law44_Large at h
  obtain ⟨v, hv, h1⟩ := bnd h
  simp only [Option.some.injEq, decide_eq_false_iff_not] at h1
  have := weigh_cnt 40 n x v hv (by omega)
  omega
theorem Cvd.func : ∀ {d : Nat} {x : N} {y z : M}, Cvd d x y → Cvd d x z → y = z
  | d + 1, x, y, z, ⟨a1, a2, a3, a4⟩, ⟨b1, b2, b3, b4⟩ => by
    have : ∀ {l : List N} {k k' : List M}, A2 (Cvd d) l k → A2 (Cvd d) l k' → k = k' := by
      intro l k k' h
      induction h generalizing k' with
      | nil => intro h'; cases h'; rfl
      | cons hp _ ih =>
        intro h'
        cases h' with
        | cons hq ht => rw [hp.func hq, ih ht]
    have e := this a4 b4
    cases y; cases z
    simp only at a1 a2 a3 b1 b2 b3 e
    rw [a1, a2, a3, b1, b2, b3, e]
end Rt
/- Ruletype: what the two lexers say of a text that is to be one word, or one number. -/
set_option linter.unusedVariables false
set_option linter.unusedSimpArgs false
open Go Go.SL Go.Proofs Pl
namespace Rt
def isL (c : UInt8) : Bool := (decide ((c.toNat : Int) ≥ 97) && decide ((c.toNat : Int) ≤ 122)) || decide ((c.toNat : Int) = 95)
def isD (c : UInt8) : Bool := decide ((c.toNat : Int) ≥ 48) && decide ((c.toNat : Int) ≤ 57)
def isA (c : UInt8) : Bool := isL c || isD c
def tw (p : UInt8 → Bool) (s : Str) (i : Nat) : Int := ((i + ((s.drop i).takeWhile p).length : Nat) : Int)
theorem tw_stop {p : UInt8 → Bool} {s : Str} {i : Nat} (h : s.length ≤ i) : tw p s i = i := by
  unfold tw; rw [List.drop_eq_nil_of_le h]; rfl
theorem tw_go {p : UInt8 → Bool} {s : Str} {i : Nat} (h : i < s.length) (hp : p s[i] = true) : tw p s i = tw p s (i + 1) := by
  unfold tw; rw [List.drop_eq_getElem_cons h, List.takeWhile_cons, if_pos hp, List.length_cons]; omega
theorem tw_no {p : UInt8 → Bool} {s : Str} {i : Nat} (h : i < s.length) (hp : p s[i] = false) : tw p s i = i := by
  unfold tw; rw [List.drop_eq_getElem_cons h, List.takeWhile_cons, if_neg (by rw [hp]; simp)]; rfl
theorem ixn {α : Type} {s : List α} {i : Nat} (h : i < s.length) : ix s (i : Int) = some s[i] := by
  unfold ix; rw [if_pos (by omega)]; exact List.getElem?_eq_getElem h
theorem tokL1 {s : Str} (hs : s.length ≤ 5000) : ∀ (n i : Nat), i ≤ s.length → s.length - i < n → rulelex_token_L1 s n (i : Int) = some (tw isA s i)
  | 0, i, h1, h2 => by omega
  | n + 1, i, h1, h2 => by
    rw [rulelex_token_L1]
    by_cases hi : i < s.length
    · rw [if_pos (by simpa using hi), ixn hi, Option.bind_some, show rulelex_letter s[i] = some (isL s[i]) from rfl, Option.bind_some]
      have e : (if isL s[i] = true then some true else (some s[i]).bind fun x28 => (rulelex_digit x28).bind fun x29 => some x29) = some (isA s[i]) := by
        unfold isA
        cases q : isL s[i] <;> simp [q, rulelex_digit, isD]
      rw [e, Option.bind_some]
      cases q : isA s[i] with
      | true =>
        rw [if_pos rfl, chk_bind (by constructor <;> omega), tw_go hi q, show ((i : Int) + 1) = ((i + 1 : Nat) : Int) from by omega]
        exact tokL1 hs n (i + 1) (by omega) (by omega)
      | false => rw [if_neg (by simp), tw_no hi q]
    · rw [if_neg (by simpa using hi), tw_stop (by omega)]
theorem takL1 {s : Str} (hs : s.length ≤ 5000) : ∀ (n i : Nat), i ≤ s.length → s.length - i < n → ref42_take_L1 s n (i : Int) = some (tw isA s i)
  | 0, i, h1, h2 => by omega
  | n + 1, i, h1, h2 => by
    rw [ref42_take_L1]
    by_cases hi : i < s.length
    · rw [if_pos (by simpa using hi), ixn hi, Option.bind_some, show ref42_letter s[i] = some (isL s[i]) from rfl, Option.bind_some]
      have e : (if isL s[i] = true then some true else (some s[i]).bind fun x28 => (ref42_digit x28).bind fun x29 => some x29) = some (isA s[i]) := by
        unfold isA
        cases q : isL s[i] <;> simp [q, ref42_digit, isD]
      rw [e, Option.bind_some]
      cases q : isA s[i] with
      | true =>
        rw [if_pos rfl, chk_bind (by constructor <;> omega), tw_go hi q, show ((i : Int) + 1) = ((i + 1 : Nat) : Int) from by omega]
        exact takL1 hs n (i + 1) (by omega) (by omega)
      | false => rw [if_neg (by simp), tw_no hi q]
    · rw [if_neg (by simpa using hi), tw_stop (by omega)]
theorem takL3 {s : Str} (hs : s.length ≤ 5000) : ∀ (n i : Nat), i ≤ s.length → s.length - i < n → ref42_take_L3 s n (i : Int) = some (tw isD s i)
  | 0, i, h1, h2 => by omega
  | n + 1, i, h1, h2 => by
    rw [ref42_take_L3]
    by_cases hi : i < s.length
    · rw [if_pos (by simpa using hi), ixn hi, Option.bind_some, show ref42_digit s[i] = some (isD s[i]) from rfl, Option.bind_some, Option.bind_some]
      cases q : isD s[i] with
      | true =>
        rw [if_pos rfl, chk_bind (by constructor <;> omega), tw_go hi q, show ((i : Int) + 1) = ((i + 1 : Nat) : Int) from by omega]
        exact takL3 hs n (i + 1) (by omega) (by omega)
      | false => rw [if_neg (by simp), tw_no hi q]
    · rw [if_neg (by simpa using hi), Option.bind_some, if_neg (by simp), tw_stop (by omega)]
theorem take_tw (p : UInt8 → Bool) : ∀ t : Str, t.take (t.takeWhile p).length = t.takeWhile p
  | [] => rfl
  | c :: t => by
    rw [List.takeWhile_cons]
    cases q : p c with
    | true => rw [if_pos rfl, List.length_cons, List.take_succ_cons, take_tw p t]
    | false => rw [if_neg (by simp)]; rfl
theorem tw_le (p : UInt8 → Bool) : ∀ t : Str, (t.takeWhile p).length ≤ t.length
  | [] => by simp
  | c :: t => by
    rw [List.takeWhile_cons]
    have := tw_le p t
    cases q : p c <;> simp <;> omega
theorem tw_all (p : UInt8 → Bool) : ∀ t : Str, (t.takeWhile p).all p = true
  | [] => rfl
  | c :: t => by
    rw [List.takeWhile_cons]
    cases q : p c with
    | true => rw [if_pos rfl, List.all_cons, q, tw_all p t]; rfl
    | false => rw [if_neg (by simp)]; rfl
theorem tw_self (p : UInt8 → Bool) : ∀ t : Str, t.all p = true → t.takeWhile p = t
  | [], _ => rfl
  | c :: t, h => by
    rw [List.all_cons, Bool.and_eq_true] at h
    rw [List.takeWhile_cons, if_pos h.1, tw_self p t h.2]
theorem tw1 (p : UInt8 → Bool) (c : UInt8) (t : Str) : tw p (c :: t) 1 = ((t.takeWhile p).length : Int) + 1 := by
  unfold tw; rw [List.drop_succ_cons, List.drop_zero]; omega
theorem tw0 {p : UInt8 → Bool} {c : UInt8} (t : Str) (h : p c = true) : tw p (c :: t) 0 = ((t.takeWhile p).length : Int) + 1 := by
  rw [tw_go (by simp) (by simpa using h)]; exact tw1 p c t
theorem sub_tw (p : UInt8 → Bool) (c : UInt8) (t : Str) : subL (c :: t) (0 : Int) (((t.takeWhile p).length : Int) + 1) = c :: t.takeWhile p := by
  unfold subL
  rw [show ((((t.takeWhile p).length : Int) + 1) - 0).toNat = (t.takeWhile p).length + 1 from by omega, show ((0 : Int)).toNat = 0 from rfl, List.drop_zero, List.take_succ_cons, take_tw]
theorem isA_of_L {c : UInt8} (h : isL c = true) : isA c = true := by simp [isA, h]
theorem tok_word {n : Nat} {c : UInt8} {t : Str} (hn : 10000 ≤ n) (hs : (c :: t).length ≤ 5000) (hc : isL c = true) : rulelex_token n (c :: t) = some (1, ((t.takeWhile isA).length : Int) + 1, c :: t.takeWhile isA) := by
  have := tw_le isA t
  simp only [List.length_cons] at hs
  unfold rulelex_token
  rw [show ix (c :: t) 0 = some c from rfl, Option.bind_some, show rulelex_letter c = some (isL c) from rfl, Option.bind_some, hc, if_pos rfl, show (1 : Int) = ((1 : Nat) : Int) from rfl, tokL1 (by simp; omega) n 1 (by simp) (by simp; omega), Option.bind_some, tw1, chk_bind (by simp only [List.length_cons]; omega), sub_tw]
  rfl
theorem tak_word {n : Nat} {c : UInt8} {t : Str} (hn : 10000 ≤ n) (hs : (c :: t).length ≤ 5000) (hc : isL c = true) : ref42_take n (c :: t) = some (1, c :: t.takeWhile isA, ((t.takeWhile isA).length : Int) + 1) := by
  have := tw_le isA t
  simp only [List.length_cons] at hs
  unfold ref42_take
  rw [show ix (c :: t) 0 = some c from rfl, Option.bind_some, show ref42_letter c = some (isL c) from rfl, Option.bind_some, hc, if_pos rfl, show ref42_take_L1 (c :: t) n 0 = some (tw isA (c :: t) 0) from takL1 (by simp; omega) n 0 (by simp) (by simp; omega), Option.bind_some, tw0 t (isA_of_L hc), chk_bind (by simp only [List.length_cons]; omega), sub_tw]
theorem tak_num {n : Nat} {c : UInt8} {t : Str} (hn : 10000 ≤ n) (hs : (c :: t).length ≤ 5000) (hL : isL c = false) (hc : isD c = true) :
    ref42_take n (c :: t) = some (if (t.takeWhile isD).length + 1 > 9 then (0, [], 0) else (2, c :: t.takeWhile isD, ((t.takeWhile isD).length : Int) + 1)) := by
  have := tw_le isD t
  simp only [List.length_cons] at hs
  unfold ref42_take
  rw [show ix (c :: t) 0 = some c from rfl, Option.bind_some, show ref42_letter c = some (isL c) from rfl, Option.bind_some, hL, if_neg (by simp), Option.bind_some, show ref42_digit c = some (isD c) from rfl, Option.bind_some, hc, if_pos rfl, show ref42_take_L3 (c :: t) n 0 = some (tw isD (c :: t) 0) from takL3 (by simp; omega) n 0 (by simp) (by simp; omega), Option.bind_some, tw0 t hc]
  by_cases q : (t.takeWhile isD).length + 1 > 9
  · rw [if_pos (by simp; omega), if_pos q]
  · rw [if_neg (by simp; omega), if_neg q, chk_bind (by simp only [List.length_cons]; omega), sub_tw]
end Rt
/- Ruletype: names and numbers, as both lexers know them. -/
set_option linter.unusedVariables false
set_option linter.unusedSimpArgs false
open Go Go.SL Go.Proofs Pl
namespace Rt
def wdy : Str → Bool
  | [] => false
  | c :: t => isL c && t.all isA
def nmr : Str → Bool
  | [] => false
  | c :: t => isD c && t.all isD && decide (t.length ≤ 8)
theorem L_ne {c : UInt8} (h : isL c = true) : (c.toNat : Int) ≠ 10 ∧ (c.toNat : Int) ≠ 32 ∧ (c.toNat : Int) ≠ 9 ∧ (c.toNat : Int) ≠ 13 ∧ (c.toNat : Int) ≠ 35 := by
  simp only [isL, Bool.or_eq_true, Bool.and_eq_true, decide_eq_true_eq] at h
  omega
theorem D_ne {c : UInt8} (h : isD c = true) : (c.toNat : Int) ≠ 10 ∧ (c.toNat : Int) ≠ 32 ∧ (c.toNat : Int) ≠ 9 ∧ (c.toNat : Int) ≠ 13 ∧ (c.toNat : Int) ≠ 35 ∧ isL c = false := by
  simp only [isD, Bool.and_eq_true, decide_eq_true_eq] at h
  refine ⟨by omega, by omega, by omega, by omega, by omega, ?_⟩
  simp only [isL, Bool.or_eq_false_iff, Bool.and_eq_false_iff, decide_eq_false_iff_not]
  omega
def Tk (k : Int) (w : Str) : Prop := (k = 1 → wdy w = true) ∧ (k = 2 → nmr w = true)
theorem tok_tk {n : Nat} {s : Str} (hn : 10000 ≤ n) (h0 : 0 < s.length) (hs : s.length ≤ 5000) {a b : Int} {w : Str} (h : rulelex_token n s = some (a, b, w)) : a = 1 → wdy w = true := by
  cases s with
  | nil => simp at h0
  | cons c t =>
    cases hL : isL c with
    | true =>
      rw [tok_word hn hs hL] at h
      cases h
      exact fun _ => by simp only [wdy, hL, tw_all, Bool.and_self]
    | false =>
      intro ha
      subst ha
      unfold rulelex_token at h
      rw [show ix (c :: t) 0 = some c from rfl, Option.bind_some, show rulelex_letter c = some (isL c) from rfl, Option.bind_some, hL, if_neg (by simp), show rulelex_digit c = some (isD c) from rfl, Option.bind_some] at h
      split at h
      · obtain ⟨r, hr, h⟩ := bnd h
        split at h
        · cases h
        · obtain ⟨_, h⟩ := chkb h; cases h
      · split at h
        · obtain ⟨r, hr, h⟩ := bnd h; cases h
        · obtain ⟨_, h⟩ := chkb h
          obtain ⟨r, hr, h⟩ := bnd h
          have : ∀ (k i : Nat) (z : Int × Int × Str), rulelex_token_L5 (c :: t) k i = some (Fl.ret z) → z.1 = 4 := fun k => by
            induction k with
            | zero => intro i z hz; cases hz
            | succ k ih =>
              intro i z hz
              rw [rulelex_token_L5] at hz
              obtain ⟨p, hp, hz⟩ := bnd hz
              obtain ⟨q, hq, hz⟩ := bnd hz
              split at hz
              · cases hz; rfl
              · exact ih _ z hz
          cases r with
          | ret z =>
            rw [el_ret] at h
            have := this _ _ z hr
            rw [Option.some.inj h] at this
            simp at this
          | go z => rw [el_go] at h; cases h
theorem splitL0_tk {s : Str} {m : Nat} (hm : 10000 ≤ m) (hs : s.length ≤ 5000) : ∀ (n : Nat) (y : List S_rulelex_Token) (a b i : Int) (r : Fl ((List S_rulelex_Token) × Err) ((List S_rulelex_Token) × Int × Int × Int)), rulelex_Split_L0 s m n y a b i = some r → (∀ t ∈ y, t.Kind = 1 → wdy t.Text = true) →
    (∀ z, r = Fl.ret z → z.2 = some 2) ∧ ∀ p, r = Fl.go p → ∀ t ∈ p.1, t.Kind = 1 → wdy t.Text = true
  | 0, y, a, b, i, r, h, hy => by rw [rulelex_Split_L0] at h; cases h
  | n + 1, y, a, b, i, r, h, hy => by
    rw [rulelex_Split_L0] at h
    split at h
    · rename_i hi
      have hi : i < (s.length : Int) := by simpa using hi
      obtain ⟨c, hc, h⟩ := bnd h
      split at h
      · obtain ⟨_, h⟩ := chkb h
        obtain ⟨_, h⟩ := chkb h
        exact splitL0_tk hm hs n _ _ _ _ r h hy
      · split at h
        · obtain ⟨_, h⟩ := chkb h; exact splitL0_tk hm hs n _ _ _ _ r h hy
        · split at h
          · obtain ⟨_, h⟩ := chkb h; exact splitL0_tk hm hs n _ _ _ _ r h hy
          · split at h
            · obtain ⟨_, h⟩ := chkb h; exact splitL0_tk hm hs n _ _ _ _ r h hy
            · split at h
              · obtain ⟨_, _, h⟩ := bnd h; exact splitL0_tk hm hs n _ _ _ _ r h hy
              · obtain ⟨hb, h⟩ := chkb h
                obtain ⟨x, hx, h⟩ := bnd h
                split at h
                · cases h
                  exact ⟨fun z e => by cases e; rfl, fun p e => by cases e⟩
                · obtain ⟨_, h⟩ := chkb h
                  obtain ⟨_, h⟩ := chkb h
                  obtain ⟨_, h⟩ := chkb h
                  obtain ⟨_, h⟩ := chkb h
                  refine splitL0_tk hm hs n _ _ _ _ r h fun t ht => ?_
                  rcases List.mem_append.1 ht with ht | ht
                  · exact hy t ht
                  · rw [List.mem_singleton] at ht
                    subst ht
                    have hsl : (subL s i (s.length : Int)).length = s.length - i.toNat := by
                      unfold subL
                      rw [List.length_take, List.length_drop]; omega
                    obtain ⟨x1, x2, x3⟩ := x
                    exact tok_tk hm (by rw [hsl]; omega) (by rw [hsl]; omega) hx
    · cases h
      exact ⟨fun z e => (by cases e), fun p e => by cases e; exact hy⟩
theorem split_tk {n : Nat} {s : Str} (hn : 10000 ≤ n) {r : List S_rulelex_Token × Err} (h : rulelex_Split n s = some r) (he : r.2 = none) : s.length ≤ 4096 ∧ ∀ t ∈ r.1, t.Kind = 1 → wdy t.Text = true := by
  unfold rulelex_Split at h
  split at h
  · cases h; cases he
  · rename_i hl
    have hl : s.length ≤ 4096 := by simp at hl; omega
    obtain ⟨q, hq, h⟩ := bnd h
    obtain ⟨g1, g2⟩ := splitL0_tk hn (by omega) n _ _ _ _ q hq (by simp)
    cases q with
    | ret z =>
      rw [el_ret] at h
      have := g1 z rfl
      rw [Option.some.inj h, he] at this; cases this
    | go p =>
      rw [el_go] at h
      obtain ⟨_, h⟩ := chkb h
      obtain ⟨_, h⟩ := chkb h
      obtain ⟨_, h⟩ := chkb h
      cases h
      refine ⟨hl, fun t ht hk => ?_⟩
      rcases List.mem_append.1 ht with ht | ht
      · exact g2 p rfl t ht hk
      · rw [List.mem_singleton] at ht
        subst ht
        simp at hk
theorem split_word {n : Nat} {s : Str} (hn : 10000 ≤ n) (hs : s.length ≤ 4096) (hw : wdy s = true) : rulelex_Split n s = some ([⟨1, s, 1, 1⟩, ⟨5, [], 1, (s.length : Int) + 1⟩], none) := by
  cases s with
  | nil => cases hw
  | cons c t =>
    simp only [wdy, Bool.and_eq_true] at hw
    obtain ⟨hc, ht⟩ := hw
    obtain ⟨n1, n2, n3, n4, n5⟩ := L_ne hc
    obtain ⟨k, rfl⟩ : ∃ k, n = k + 2 := ⟨n - 2, by omega⟩
    have hlen : ((c :: t).length : Int) = (t.length : Int) + 1 := by simp
    unfold rulelex_Split
    rw [if_neg (by simp only [decide_eq_true_eq]; omega), rulelex_Split_L0, if_pos (by simp only [decide_eq_true_eq]; omega), show ix (c :: t) 0 = some c from rfl, Option.bind_some,
      if_neg (by simpa using n1), if_neg (by simpa using n2), if_neg (by simpa using n3), if_neg (by simpa using n4), if_neg (by simpa using n5), chk_bind (by omega)]
    have e : subL (c :: t) (0 : Int) ((c :: t).length : Int) = c :: t := by
      unfold subL
      rw [show ((0 : Int)).toNat = 0 from rfl, List.drop_zero, List.take_of_length_le (by omega)]
    rw [e, tok_word hn (by omega) hc, tw_self isA t ht, Option.bind_some, if_neg (by simp only [decide_eq_true_eq]; omega), chk_bind (by constructor <;> omega), chk_bind (by constructor <;> omega),
      chk_bind (by simp [lim]), chk_bind (by constructor <;> simp only <;> omega), rulelex_Split_L0, if_neg (by simp only [decide_eq_true_eq]; omega), Option.bind_some, el_go, chk_bind (by constructor <;> simp only <;> omega), chk_bind (by constructor <;> simp only <;> omega), chk_bind (by simp [lim])]
    simp
end Rt
/- Ruletype: names, as the program knows them. -/
set_option linter.unusedVariables false
set_option linter.unusedSimpArgs false
open Go Go.SL Go.Proofs Pl
namespace Rt
def kw (s : Str) : Bool := decide (s ∈ gkw0)
theorem index_eq (v : Str) : ∀ (l : List Str) (i : Nat), ∃ r, slices_Index_string_L0 v l i = some r ∧ (v ∈ l → ∃ k : Nat, r = Fl.ret (k : Int)) ∧ (v ∉ l → r = Fl.go ())
  | [], i => ⟨_, rfl, fun h => (by cases h), fun _ => rfl⟩
  | x :: l, i => by
    rw [slices_Index_string_L0]
    by_cases q : v = x
    · exact ⟨_, if_pos (by simpa using q), fun _ => ⟨i, rfl⟩, fun h => (by simp [q] at h)⟩
    · obtain ⟨r, hr, g1, g2⟩ := index_eq v l (i + 1)
      rw [if_neg (by simpa using q)]
      exact ⟨r, hr, fun h => g1 (by simpa [q] using h), fun h => g2 (by simpa [q] using h)⟩
theorem keyword_eq (s : Str) : rulelex_Keyword s = some (kw s) := by
  obtain ⟨r, hr, g1, g2⟩ := index_eq s gkw0 0
  unfold rulelex_Keyword slices_Contains_string slices_Index_string kw
  rw [chk_bind (by decide), hr, Option.bind_some]
  by_cases q : s ∈ gkw0
  · obtain ⟨k, rfl⟩ := g1 q
    rw [el_ret, Option.bind_some, Option.bind_some]
    simp [q]
  · rw [g2 q, el_go, Option.bind_some, Option.bind_some]
    simp [q]
theorem keyword2_L0 (s : Str) : ∀ (l : List Str) (i : Nat), ref42_Keyword_L0 s l i = some (if s ∈ l then Fl.ret true else Fl.go ())
  | [], i => rfl
  | x :: l, i => by
    rw [ref42_Keyword_L0]
    by_cases q : x = s
    · rw [if_pos (by simpa using q), if_pos (by simp [q])]
    · rw [if_neg (by simpa using q), keyword2_L0 s l (i + 1)]
      have : (s ∈ x :: l) ↔ s ∈ l := by
        simp only [List.mem_cons]
        exact ⟨fun h => h.elim (fun e => absurd e.symm q) id, .inr⟩
      simp only [this]
theorem keyword2_eq (s : Str) : ref42_Keyword s = some (kw s) := by
  have e : ref42_Keywords = some gkw0 := rfl
  unfold ref42_Keyword kw
  rw [e, Option.bind_some, chk_bind (by decide), keyword2_L0, Option.bind_some]
  by_cases q : s ∈ gkw0
  · rw [if_pos q, el_ret]; simp [q]
  · rw [if_neg q, el_go]; simp [q]
def nm (s : Str) : Bool := wdy s && decide (s.length ≤ 4096) && !kw s
theorem ix_mem {α : Type} {l : List α} {i : Int} {x : α} (h : ix l i = some x) : x ∈ l := by
  unfold ix at h
  split at h
  · exact List.mem_of_getElem? h
  · cases h
theorem named_eq {n : Nat} (hn : 10000 ≤ n) (s : Str) : ruletree_named n s = some (nm s) := by
  unfold ruletree_named
  by_cases hw : s.length ≤ 4096 ∧ wdy s = true
  · rw [split_word hn hw.1 hw.2, Option.bind_some]
    simp [ix, keyword_eq, nm, hw.1, hw.2]
  · obtain ⟨r, hr⟩ := split_ok (s := s) hn
    have hnm : nm s = false := by
      unfold nm
      cases q : wdy s with
      | false => rfl
      | true => simp; intro h; exact absurd ⟨h, q⟩ hw
    rw [hr, Option.bind_some, hnm]
    cases q : (r.2.isNone && decide ((r.1.length : Int) = 2)) with
    | false => rfl
    | true =>
      rw [if_pos rfl]
      simp only [Bool.and_eq_true, decide_eq_true_eq] at q
      obtain ⟨g1, g2⟩ := split_tk hn hr (by simpa using q.1)
      obtain ⟨t, ht⟩ := ix_ok (s := r.1) (i := 0) (by omega) (by omega)
      rw [ht, Option.bind_some, Option.bind_some]
      cases k1 : decide (t.Kind = 1) with
      | false => rfl
      | true =>
        rw [if_pos rfl, Option.bind_some, Option.bind_some]
        cases k2 : decide (t.Text = s) with
        | false => rfl
        | true =>
          have e1 := of_decide_eq_true k1
          have e2 := of_decide_eq_true k2
          have := g2 t (ix_mem ht) e1
          rw [e2] at this
          exact absurd ⟨g1, this⟩ hw
/-! ### numbers and texts -/
theorem digits_L0_eq : ∀ (s : Str) (i : Nat), ruletree_digits_L0 s i = some (if s.all isD = true then Fl.go () else Fl.ret false)
  | [], i => rfl
  | c :: s, i => by
    have e : (if decide ((c.toNat : Int) < 48) = true then some true else some (decide ((c.toNat : Int) > 57))) = some (!isD c) := by
      by_cases q : (c.toNat : Int) < 48
      · have : isD c = false := by simp only [isD, Bool.and_eq_false_iff, decide_eq_false_iff_not]; omega
        rw [if_pos (by simpa using q), this]; rfl
      · rw [if_neg (by simpa using q)]
        by_cases q2 : (c.toNat : Int) > 57
        · have : isD c = false := by simp only [isD, Bool.and_eq_false_iff, decide_eq_false_iff_not]; omega
          rw [this, decide_eq_true q2]; rfl
        · have : isD c = true := by simp only [isD, Bool.and_eq_true, decide_eq_true_eq]; omega
          rw [this, decide_eq_false q2]; rfl
    rw [ruletree_digits_L0, e, Option.bind_some]
    cases q : isD c with
    | true => rw [if_neg (by simp), digits_L0_eq s (i + 1), List.all_cons, q]; rfl
    | false => rw [if_pos (by simp), List.all_cons, q]; rfl
theorem digits_eq {s : Str} (h : s.length ≤ 3000) : ruletree_digits s = some (nmr s) := by
  unfold ruletree_digits
  rw [chk_bind (by simp only [szMax]; omega), digits_L0_eq, Option.bind_some]
  cases s with
  | nil => rfl
  | cons c t =>
    rw [nmr, List.all_cons]
    cases q : (isD c && t.all isD) with
    | true =>
      rw [if_pos rfl, el_go, Bool.true_and]
      have e1 : decide (((c :: t).length : Int) ≥ 1) = true := by simp only [List.length_cons, decide_eq_true_eq]; omega
      have e2 : decide (((c :: t).length : Int) ≤ 9) = decide (t.length ≤ 8) := by
        simp only [List.length_cons, decide_eq_decide]; omega
      rw [e1, e2, Bool.true_and]
    | false => rw [if_neg (by simp), el_ret, Bool.false_and]
def prt (s : Str) : Bool := s.all fun c => !(decide ((c.toNat : Int) < 32) || decide ((c.toNat : Int) > 126))
theorem prt_cons (c : UInt8) (s : Str) : prt (c :: s) = (!(decide ((c.toNat : Int) < 32) || decide ((c.toNat : Int) > 126)) && prt s) := by simp [prt]
theorem prt_cond (c : UInt8) : (if decide ((c.toNat : Int) < 32) = true then some true else some (decide ((c.toNat : Int) > 126))) = some (decide ((c.toNat : Int) < 32) || decide ((c.toNat : Int) > 126)) := by
  cases decide ((c.toNat : Int) < 32) <;> simp
theorem esc_cond (c : UInt8) : (if decide ((c.toNat : Int) = 34) = true then some true else some (decide ((c.toNat : Int) = 92))) = some (decide ((c.toNat : Int) = 34) || decide ((c.toNat : Int) = 92)) := by
  cases decide ((c.toNat : Int) = 34) <;> simp
theorem quote_L0_eq : ∀ (s : Str) (i : Nat) (y : Str), y.length + 2 * s.length ≤ 1000000 → ∃ r, rulelex_Quote_L0 s i y = some r ∧ (prt s = true → ∃ z, r = Fl.go z ∧ z.length ≤ 1000000) ∧ (prt s = false → r = Fl.ret ([], some 2))
  | [], i, y, h => ⟨_, rfl, fun _ => ⟨_, rfl, by simpa using h⟩, fun h => (by simp [prt] at h)⟩
  | c :: s, i, y, h => by
    simp only [List.length_cons] at h
    rw [rulelex_Quote_L0, prt_cond, Option.bind_some, prt_cons]
    cases q : (decide ((c.toNat : Int) < 32) || decide ((c.toNat : Int) > 126)) with
    | true => exact ⟨_, if_pos rfl, fun h => (by simp at h), fun _ => rfl⟩
    | false =>
      rw [if_neg (by simp), esc_cond, Option.bind_some, Bool.not_false, Bool.true_and]
      cases q2 : (decide ((c.toNat : Int) = 34) || decide ((c.toNat : Int) = 92)) with
      | true =>
        rw [if_pos rfl, chk_bind (by simp only [lim, List.length_cons, List.length_nil]; omega), chk_bind (by simp only [lim, List.length_append, List.length_cons, List.length_nil]; omega)]
        exact quote_L0_eq s (i + 1) _ (by simp only [List.length_append, List.length_cons, List.length_nil]; omega)
      | false =>
        rw [if_neg (by simp), chk_bind (by simp only [lim, List.length_cons, List.length_nil]; omega)]
        exact quote_L0_eq s (i + 1) _ (by simp only [List.length_append, List.length_cons, List.length_nil]; omega)
theorem printable_eq {s : Str} (h : s.length ≤ 3000) : ruletree_printable s = some (prt s) := by
  obtain ⟨r, hr, g1, g2⟩ := quote_L0_eq s 0 [34] (by simp <;> omega)
  unfold ruletree_printable rulelex_Quote
  rw [chk_bind (by simp only [szMax]; omega), hr, Option.bind_some]
  cases q : prt s with
  | false => rw [g2 q, el_ret]; rfl
  | true =>
    obtain ⟨z, rfl, hz⟩ := g1 q
    rw [el_go, chk_bind (by simp only [lim, List.length_cons, List.length_nil]; omega)]; rfl
theorem quote2_L0_eq {w : Str} : ∀ (s : Str) (i : Nat) (y : Str), i + s.length = w.length → y.length + 2 * s.length ≤ 1000000 → ∃ r, ref42_Quote_L0 w s i y = some r ∧ (prt s = true → ∃ z, r = Fl.go z ∧ z.length ≤ 1000000) ∧ (prt s = false → r = Fl.ret ([], false))
  | [], i, y, hi, h => ⟨_, rfl, fun _ => ⟨_, rfl, by simpa using h⟩, fun h => (by simp [prt] at h)⟩
  | c :: s, i, y, hi, h => by
    simp only [List.length_cons] at h hi
    have hsub : (subL w (i : Int) ((i : Int) + 1)).length ≤ 1 := by
      unfold subL
      rw [List.length_take]; omega
    rw [ref42_Quote_L0, prt_cond, Option.bind_some, prt_cons]
    cases q : (decide ((c.toNat : Int) < 32) || decide ((c.toNat : Int) > 126)) with
    | true => exact ⟨_, if_pos rfl, fun h => (by simp at h), fun _ => rfl⟩
    | false =>
      rw [if_neg (by simp), esc_cond, Option.bind_some, Bool.not_false, Bool.true_and]
      cases q2 : (decide ((c.toNat : Int) = 34) || decide ((c.toNat : Int) = 92)) with
      | true =>
        rw [if_pos rfl, chk_bind (by simp only [lim, List.length_cons, List.length_nil]; omega), chk_bind (by omega), chk_bind (by simp only [lim, List.length_append, List.length_cons, List.length_nil]; omega)]
        exact quote2_L0_eq s (i + 1) _ (by omega) (by simp only [List.length_append, List.length_cons, List.length_nil]; omega)
      | false =>
        rw [if_neg (by simp), chk_bind (by omega), chk_bind (by simp only [lim]; omega)]
        exact quote2_L0_eq s (i + 1) _ (by omega) (by simp only [List.length_append]; omega)
theorem printable2_eq {s : Str} (h : s.length ≤ 3000) : ref43_printable s = some (prt s) := by
  obtain ⟨r, hr, g1, g2⟩ := quote2_L0_eq (w := s) s 0 [34] (by omega) (by simp <;> omega)
  unfold ref43_printable ref42_Quote
  rw [chk_bind (by simp only [szMax]; omega), hr, Option.bind_some]
  cases q : prt s with
  | false => rw [g2 q, el_ret]; rfl
  | true =>
    obtain ⟨z, rfl, hz⟩ := g1 q
    rw [el_go, chk_bind (by simp only [lim, List.length_cons, List.length_nil]; omega)]; rfl
end Rt
/- Ruletype: the document's lexer on words and numbers. -/
set_option linter.unusedVariables false
set_option linter.unusedSimpArgs false
open Go Go.SL Go.Proofs Pl
namespace Rt
theorem quoted2_L0 {s : Str} (hs : s.length ≤ 5000) : ∀ (n : Nat) (y : Str) (i : Int), 0 ≤ i → i ≤ (s.length : Int) → (s.length : Int) - i < n → (y.length : Int) + (s.length - i) ≤ 100000 → ∃ r, ref42_quoted_L0 s n y i = some r ∧ ∀ z, r = Fl.ret z → (z.1 = 0 ∧ z.2.2 = 0) ∨ (z.1 = 3 ∧ 0 < z.2.2 ∧ z.2.2 ≤ (s.length : Int))
  | 0, y, i, h0, h3, h1, h2 => by omega
  | n + 1, y, i, h0, h3, h1, h2 => by
    rw [ref42_quoted_L0]
    by_cases hi : i < (s.length : Int)
    · obtain ⟨c, hc⟩ := ix_ok h0 hi
      rw [if_pos (by simpa using hi), hc, Option.bind_some]
      by_cases q : (c.toNat : Int) = 34
      · rw [if_pos (by simpa using q), chk_bind (by constructor <;> omega)]
        exact ⟨_, rfl, fun z e => by cases e; right; exact ⟨rfl, by simp only; omega, by simp only; omega⟩⟩
      · rw [if_neg (by simpa using q)]
        cases hb : (decide ((c.toNat : Int) < 32) || decide ((c.toNat : Int) > 126)) with
        | true => exact ⟨_, if_pos rfl, fun z e => by cases e; left; exact ⟨rfl, rfl⟩⟩
        | false =>
          rw [if_neg (by simp)]
          have hsub : ∀ j : Int, (subL s j (j + 1)).length ≤ 1 := fun j => by
            unfold subL
            rw [List.length_take]; omega
          by_cases q2 : (c.toNat : Int) = 92
          · rw [if_pos (by simpa using q2), chk_bind (by constructor <;> omega)]
            by_cases q3 : i + 1 = (s.length : Int)
            · rw [if_pos (by simpa using q3)]; exact ⟨_, rfl, fun z e => by cases e; left; exact ⟨rfl, rfl⟩⟩
            · obtain ⟨d, hd⟩ := ix_ok (s := s) (i := i + 1) (by omega) (by omega)
              rw [if_neg (by simpa using q3), hd, Option.bind_some]
              have e2 : ∃ b, (if decide ((d.toNat : Int) ≠ 92) = true then (some d).bind fun x40 => some (decide ((x40.toNat : Int) ≠ 34)) else some false) = some b := ite_ex (fun _ => ⟨_, rfl⟩) (fun _ => ⟨_, rfl⟩)
              obtain ⟨b, hb⟩ := e2
              rw [hb, Option.bind_some]
              have := hsub (i + 1)
              cases b with
              | true => exact ⟨_, if_pos rfl, fun z e => by cases e; left; exact ⟨rfl, rfl⟩⟩
              | false =>
                rw [if_neg (by simp), chk_bind (by constructor <;> omega), chk_bind (by omega), chk_bind (by simp only [lim]; omega), chk_bind (by constructor <;> omega)]
                exact quoted2_L0 hs n _ _ (by omega) (by omega) (by omega) (by simp only [List.length_append]; omega)
          · have := hsub i
            rw [if_neg (by simpa using q2), chk_bind (by constructor <;> omega), chk_bind (by omega), chk_bind (by simp only [lim]; omega), chk_bind (by constructor <;> omega)]
            exact quoted2_L0 hs n _ _ (by omega) (by omega) (by omega) (by simp only [List.length_append]; omega)
    · rw [if_neg (by simpa using hi)]; exact ⟨_, rfl, fun z e => by cases e⟩
abbrev sgs : List Str := [([61, 61] : Str), ([33, 61] : Str), ([60, 61] : Str), ([60] : Str), ([43] : Str), ([45] : Str), ([42] : Str), ([40] : Str), ([41] : Str), ([123] : Str), ([125] : Str), ([44] : Str), ([59] : Str), ([61] : Str)]
theorem take2_L5 {s : Str} : ∀ (k i : Nat), i + k = 14 → ∃ r, ref42_take_L5 s k i = some r ∧ ∀ z, r = Fl.ret z → z.1 = 4 ∧ 0 ≤ z.2.2 ∧ z.2.2 ≤ (s.length : Int)
  | 0, i, h => ⟨_, rfl, fun z e => by cases e⟩
  | k + 1, i, h => by
    rw [ref42_take_L5]
    obtain ⟨p, hp⟩ := ix_ok (s := sgs) (i := (i : Int)) (by omega) (by simp; omega)
    rw [hp, Option.bind_some]
    by_cases h1 : (s.length : Int) ≥ (p.length : Int)
    · rw [if_pos (by simpa using h1), Option.bind_some, chk_bind (by omega), Option.bind_some, Option.bind_some]
      cases q : decide (subL s (0 : Int) (p.length : Int) = p) with
      | true => rw [if_pos rfl, Option.bind_some, Option.bind_some]; exact ⟨_, rfl, fun z e => by cases e; exact ⟨rfl, by simp only; omega, h1⟩⟩
      | false => rw [if_neg (by simp)]; exact take2_L5 k (i + 1) (by omega)
    · rw [if_neg (by simpa using h1), Option.bind_some, if_neg (by simp)]; exact take2_L5 k (i + 1) (by omega)
theorem take2_ok {n : Nat} {s : Str} (hn : 10000 ≤ n) (h0 : 0 < s.length) (hs : s.length ≤ 5000) : ∃ a w b, ref42_take n s = some (a, w, b) ∧ 0 ≤ b ∧ b ≤ (s.length : Int) ∧ Tk a w := by
  cases s with
  | nil => simp at h0
  | cons c t =>
    have hl : ((c :: t).length : Int) = (t.length : Int) + 1 := by simp
    cases hL : isL c with
    | true =>
      have := tw_le isA t
      exact ⟨_, _, _, tak_word hn hs hL, by omega, by omega, fun _ => by simp only [wdy, hL, tw_all, Bool.and_self], fun h => by omega⟩
    | false =>
      cases hD : isD c with
      | true =>
        have := tw_le isD t
        by_cases q : (t.takeWhile isD).length + 1 > 9
        · exact ⟨0, [], 0, by rw [tak_num hn hs hL hD, if_pos q], by omega, by omega, fun h => by omega, fun h => by omega⟩
        · exact ⟨2, c :: t.takeWhile isD, ((t.takeWhile isD).length : Int) + 1, by rw [tak_num hn hs hL hD, if_neg q], by omega, by omega, fun h => by omega, fun _ => by
            have e : decide ((t.takeWhile isD).length ≤ 8) = true := by simp only [decide_eq_true_eq]; omega
            simp only [nmr, hD, tw_all, e, Bool.and_self]⟩
      | false =>
        unfold ref42_take
        rw [show ix (c :: t) 0 = some c from rfl, Option.bind_some, show ref42_letter c = some (isL c) from rfl, Option.bind_some, hL, if_neg (by simp), Option.bind_some, show ref42_digit c = some (isD c) from rfl, Option.bind_some, hD, if_neg (by simp), Option.bind_some]
        by_cases q : (c.toNat : Int) = 34
        · rw [if_pos (by simpa using q)]
          unfold ref42_quoted
          obtain ⟨r, hr, h1⟩ := quoted2_L0 hs n [] 1 (by omega) (by omega) (by omega) (by simp only [List.length_nil]; omega)
          rw [hr, Option.bind_some]
          cases r with
          | ret z =>
            rw [el_ret, Option.bind_some]
            rcases h1 z rfl with ⟨g1, g2⟩ | ⟨g1, g2, g3⟩
            · exact ⟨_, _, _, rfl, by omega, by omega, fun h => by omega, fun h => by omega⟩
            · exact ⟨_, _, _, rfl, by omega, by omega, fun h => by omega, fun h => by omega⟩
          | go z => rw [el_go, Option.bind_some]; exact ⟨_, _, _, rfl, by simp, by simp only; omega, fun h => by simp at h, fun h => by simp at h⟩
        · rw [if_neg (by simpa using q)]
          obtain ⟨r, hr, h1⟩ := take2_L5 (s := c :: t) 14 0 rfl
          rw [chk_bind (by constructor <;> omega), show ((14 : Int)).toNat = 14 from rfl, hr, Option.bind_some]
          cases r with
          | ret z =>
            obtain ⟨g1, g2, g3⟩ := h1 z rfl
            exact ⟨z.1, z.2.1, z.2.2, rfl, g2, g3, fun h => by omega, fun h => by omega⟩
          | go z => exact ⟨_, _, _, rfl, by omega, by omega, fun h => by simp at h, fun h => by simp at h⟩
theorem split2_L3 {s : Str} {i : Int} (h0 : 0 ≤ i) (hs : s.length ≤ 5000) : ∀ (n : Nat) (j : Int), 1 ≤ j → i + j ≤ (s.length : Int) → (s.length : Int) - (i + j) < n → ∃ r, ref42_Split_L3 i s n j = some r ∧ 1 ≤ r ∧ i + r ≤ (s.length : Int)
  | 0, j, h1, h2, h3 => by omega
  | n + 1, j, h1, h2, h3 => by
    rw [ref42_Split_L3, chk_bind (by constructor <;> omega)]
    by_cases hi : i + j < (s.length : Int)
    · obtain ⟨c, hc⟩ := ix_ok (s := s) (i := i + j) (by omega) hi
      rw [if_pos (by simpa using hi), chk_bind (by constructor <;> omega), hc, Option.bind_some, Option.bind_some]
      by_cases q : (c.toNat : Int) = 10
      · exact ⟨j, if_neg (by simpa using q), h1, h2⟩
      · rw [if_pos (by simpa using q), chk_bind (by constructor <;> omega)]
        exact split2_L3 h0 hs n (j + 1) (by omega) (by omega) (by omega)
    · rw [if_neg (by simpa using hi), Option.bind_some]
      exact ⟨j, if_neg (by simp), h1, h2⟩
theorem split2_L0 {s : Str} {m : Nat} (hm : 10000 ≤ m) (hs : s.length ≤ 5000) : ∀ (n : Nat) (y : List S_ref42_Token) (a b i : Int), 0 ≤ i → i ≤ (s.length : Int) → (s.length : Int) - i < n → (y.length : Int) + (s.length - i) ≤ 100000 → 0 ≤ a → a + (s.length - i) ≤ 100000 → 0 ≤ b → b + (s.length - i) ≤ 100000 → (∀ t ∈ y, Tk t.Kind t.Text) →
    ∃ r, ref42_Split_L0 s m n y a b i = some r ∧ (∀ z, r = Fl.ret z → z.2 = 2) ∧ ∀ p, r = Fl.go p → p.1.length ≤ 100000 ∧ ∀ t ∈ p.1, Tk t.Kind t.Text
  | 0, y, a, b, i, h0, h1, h2, h3, h4, h5, h6, h7, hy => by omega
  | n + 1, y, a, b, i, h0, h1, h2, h3, h4, h5, h6, h7, hy => by
    rw [ref42_Split_L0]
    by_cases hi : i < (s.length : Int)
    · obtain ⟨c, hc⟩ := ix_ok h0 hi
      rw [if_pos (by simpa using hi), hc, Option.bind_some]
      split
      · rw [chk_bind (by constructor <;> omega), chk_bind (by constructor <;> omega), chk_bind (by constructor <;> omega)]
        exact split2_L0 hm hs n _ _ _ _ (by omega) (by omega) (by omega) (by omega) (by omega) (by omega) (by omega) (by omega) hy
      · split
        · obtain ⟨r, hr, g1, g2⟩ := split2_L3 h0 hs m 1 (by omega) (by omega) (by omega)
          rw [hr, Option.bind_some, chk_bind (by constructor <;> omega), chk_bind (by constructor <;> omega)]
          exact split2_L0 hm hs n _ _ _ _ (by omega) (by omega) (by omega) (by omega) (by omega) (by omega) (by omega) (by omega) hy
        · split
          · have hsl : (subL s i (s.length : Int)).length = s.length - i.toNat := by
              unfold subL
              rw [List.length_take, List.length_drop]; omega
            rw [chk_bind (by omega)]
            obtain ⟨u, w, v, hr, g1, g2, g3⟩ := take2_ok (n := m) (s := subL s i (s.length : Int)) hm (by omega) (by omega)
            rw [hr, Option.bind_some]
            split
            · exact ⟨_, rfl, fun z e => (by cases e; rfl), fun p e => by cases e⟩
            · rename_i hz
              have hz' : v ≠ 0 := by simpa using hz
              rw [chk_bind (by simp only [lim, List.length_cons, List.length_nil]; omega), chk_bind (by constructor <;> simp only <;> omega), chk_bind (by constructor <;> simp only <;> omega)]
              refine split2_L0 hm hs n _ _ _ _ (by simp only; omega) (by simp only; omega) (by simp only; omega) (by simp only [List.length_append, List.length_cons, List.length_nil]; omega) (by omega) (by simp only; omega) (by simp only; omega) (by simp only; omega) fun t ht => ?_
              rcases List.mem_append.1 ht with ht | ht
              · exact hy t ht
              · rw [List.mem_singleton] at ht
                subst ht
                exact g3
          · rw [chk_bind (by constructor <;> omega), chk_bind (by constructor <;> omega)]
            exact split2_L0 hm hs n _ _ _ _ (by omega) (by omega) (by omega) (by omega) (by omega) (by omega) (by omega) (by omega) hy
    · rw [if_neg (by simpa using hi)]
      exact ⟨_, rfl, fun z e => (by cases e), fun p e => by cases e; exact ⟨by simp only; omega, hy⟩⟩
theorem split2_ok {n : Nat} {s : Str} (hn : 10000 ≤ n) : ∃ r, ref42_Split n s = some r ∧ (r.2 = 0 → s.length ≤ 4096 ∧ ∀ t ∈ r.1, Tk t.Kind t.Text) := by
  unfold ref42_Split
  by_cases h : (s.length : Int) > 4096
  · exact ⟨_, if_pos (by simpa using h), fun e => by simp at e⟩
  · obtain ⟨r, hr, h1, h2⟩ := split2_L0 hn (s := s) (by omega) n [] 1 1 0 (by omega) (by omega) (by omega) (by simp; omega) (by omega) (by omega) (by omega) (by omega) (by simp)
    rw [if_neg (by simpa using h), hr, Option.bind_some]
    cases r with
    | ret z => rw [el_ret]; exact ⟨_, rfl, fun e => by rw [h1 z rfl] at e; omega⟩
    | go p =>
      obtain ⟨g1, g2⟩ := h2 p rfl
      rw [el_go, chk_bind (by simp only [lim, List.length_cons, List.length_nil]; omega)]
      refine ⟨_, rfl, fun _ => ⟨by omega, fun t ht => ?_⟩⟩
      rcases List.mem_append.1 ht with ht | ht
      · exact g2 t ht
      · rw [List.mem_singleton] at ht
        subst ht
        exact ⟨fun h => by simp at h, fun h => by simp at h⟩
theorem split2_one {n : Nat} {c : UInt8} {t : Str} {k : Int} (hn : 10000 ≤ n) (hs : (c :: t).length ≤ 4096) (hc : (c.toNat : Int) ≠ 10 ∧ (c.toNat : Int) ≠ 32 ∧ (c.toNat : Int) ≠ 9 ∧ (c.toNat : Int) ≠ 13 ∧ (c.toNat : Int) ≠ 35) (ht : ref42_take n (c :: t) = some (k, c :: t, (t.length : Int) + 1)) :
    ref42_Split n (c :: t) = some ([⟨k, c :: t, 1, 1⟩, ⟨5, [], 1, ((c :: t).length : Int) + 1⟩], 0) := by
  obtain ⟨n1, n2, n3, n4, n5⟩ := hc
  obtain ⟨k, rfl⟩ : ∃ k, n = k + 2 := ⟨n - 2, by omega⟩
  have hlen : ((c :: t).length : Int) = (t.length : Int) + 1 := by simp
  unfold ref42_Split
  have e : subL (c :: t) (0 : Int) ((c :: t).length : Int) = c :: t := by
    unfold subL
    rw [show ((0 : Int)).toNat = 0 from rfl, List.drop_zero, List.take_of_length_le (by omega)]
  rw [if_neg (by simp only [decide_eq_true_eq]; omega), ref42_Split_L0, if_pos (by simp only [decide_eq_true_eq]; omega), show ix (c :: t) 0 = some c from rfl, Option.bind_some,
    if_neg (by simpa using n1), if_neg (by simpa using n5), if_pos (by simp only [Bool.and_eq_true, decide_eq_true_eq]; exact ⟨⟨n2, n3⟩, n4⟩), chk_bind (by omega), e, ht, Option.bind_some, if_neg (by simp only [decide_eq_true_eq]; omega),
    chk_bind (by simp [lim]), chk_bind (by constructor <;> simp only <;> omega), chk_bind (by constructor <;> simp only <;> omega), ref42_Split_L0, if_neg (by simp only [decide_eq_true_eq]; omega), Option.bind_some, el_go, chk_bind (by simp [lim])]
  simp
  omega
theorem token1_eq {n : Nat} {s : Str} (hn : 10000 ≤ n) : ref43_token n s 1 = some (wdy s && decide (s.length ≤ 4096)) ∧ ref43_token n s 2 = some (nmr s) := by
  have tail : ∀ (k : Int) (b : Bool), (k = 1 → wdy s = true → s.length ≤ 4096 → b = true) → (k = 2 → nmr s = true → s.length ≤ 4096 → b = true) → (k = 1 ∨ k = 2) → b = false → ref43_token n s k = some b := fun k b h1 h2 hk hb => by
    subst hb
    obtain ⟨r, hr, g⟩ := split2_ok (s := s) hn
    unfold ref43_token
    rw [hr, Option.bind_some]
    cases q : (decide (r.2 = 0) && decide ((r.1.length : Int) = 2)) with
    | false => rfl
    | true =>
      rw [if_pos rfl]
      simp only [Bool.and_eq_true, decide_eq_true_eq] at q
      obtain ⟨g1, g2⟩ := g q.1
      obtain ⟨t, ht⟩ := ix_ok (s := r.1) (i := 0) (by omega) (by omega)
      rw [ht, Option.bind_some, Option.bind_some]
      cases k1 : decide (t.Kind = k) with
      | false => rfl
      | true =>
        rw [if_pos rfl, Option.bind_some, Option.bind_some]
        cases k2 : decide (t.Text = s) with
        | false => rfl
        | true =>
          have e1 := of_decide_eq_true k1
          have e2 := of_decide_eq_true k2
          have := g2 t (ix_mem ht)
          rw [e1, e2] at this
          rcases hk with rfl | rfl
          · exact absurd (h1 rfl (this.1 rfl) g1) (by simp)
          · exact absurd (h2 rfl (this.2 rfl) g1) (by simp)
  have one : ∀ (k : Int), ref42_Split n s = some ([⟨k, s, 1, 1⟩, ⟨5, [], 1, (s.length : Int) + 1⟩], 0) → s.length ≤ 4096 → ref43_token n s k = some true := fun k h hl => by
    unfold ref43_token
    rw [h, Option.bind_some, if_pos (by simp), show ix ([⟨k, s, 1, 1⟩, ⟨5, [], 1, (s.length : Int) + 1⟩] : List S_ref42_Token) 0 = some ⟨k, s, 1, 1⟩ from rfl, show ix ([⟨k, s, 1, 1⟩, ⟨5, [], 1, (s.length : Int) + 1⟩] : List S_ref42_Token) 1 = some ⟨5, [], 1, (s.length : Int) + 1⟩ from rfl,
      Option.bind_some, Option.bind_some, if_pos (by simp), Option.bind_some, Option.bind_some, if_pos (by simp), Option.bind_some, Option.bind_some, if_pos (by simp), Option.bind_some, chk_bind (by constructor <;> omega), Option.bind_some, if_pos (by simp), Option.bind_some]
    rfl
  constructor
  · cases q : (wdy s && decide (s.length ≤ 4096)) with
    | false => exact tail 1 false (fun _ a b => by rw [a, decide_eq_true b] at q; cases q) (fun h => by omega) (.inl rfl) rfl
    | true =>
      simp only [Bool.and_eq_true, decide_eq_true_eq] at q
      refine one 1 ?_ q.2
      cases s with
      | nil => cases q.1
      | cons c t =>
        have hw := q.1
        simp only [wdy, Bool.and_eq_true] at hw
        refine split2_one hn q.2 (L_ne hw.1) ?_
        rw [tak_word hn (by omega) hw.1, tw_self isA t hw.2]
  · cases q : nmr s with
    | false => exact tail 2 false (fun h => by omega) (fun _ a b => by rw [a] at q; cases q) (.inr rfl) rfl
    | true =>
      cases s with
      | nil => cases q
      | cons c t =>
        have hw := q
        simp only [nmr, Bool.and_eq_true, decide_eq_true_eq] at hw
        obtain ⟨⟨w1, w2⟩, w3⟩ := hw
        obtain ⟨n1, n2, n3, n4, n5, n6⟩ := D_ne w1
        refine one 2 ?_ (by simp only [List.length_cons]; omega)
        refine split2_one hn (by simp only [List.length_cons]; omega) ⟨n1, n2, n3, n4, n5⟩ ?_
        rw [tak_num hn (by simp only [List.length_cons]; omega) n6 w1, tw_self isD t w2, if_neg (by omega)]
theorem named2_eq {n : Nat} (hn : 10000 ≤ n) (s : Str) : ref43_named n s = some (nm s) := by
  unfold ref43_named nm
  rw [(token1_eq hn).1, Option.bind_some, keyword2_eq]
  cases (wdy s && decide (s.length ≤ 4096)) <;> rfl
end Rt
/- Ruletype: the document's validity is the program's. -/
set_option linter.unusedVariables false
set_option linter.unusedSimpArgs false
open Go Go.SL Go.Proofs Pl
namespace Rt
theorem A2.imp_mem {α β : Type} {P Q : α → β → Prop} {l : List α} {k : List β} (h : A2 P l k) (hf : ∀ a ∈ l, ∀ b, P a b → Q a b) : A2 Q l k := by
  induction h with
  | nil => exact .nil
  | cons hp _ ih => exact .cons (hf _ (by simp) _ hp) (ih fun a ha => hf a (by simp [ha]))
def Sm (f : N → Option Bool) (g : M → Option Bool) (x : N) (y : M) : Prop := ∃ b, f x = some b ∧ g y = some b
def gor (b : Bool) : Fl Bool Unit := if b then Fl.go () else Fl.ret false
theorem gor_el (b c : Bool) : (gor b).el some (fun _ => some c) = some (b && c) := by cases b <;> rfl
theorem exprs_L0_rel {f : N → Option Bool} {g : M → Option Bool} {l : List N} {k : List M} (h : A2 (Sm f g) l k) : ∀ i j : Nat, ∃ b : Bool, ref43_exprs_L0 f l i = some (gor b) ∧ ruletree_expression_L0 g k j = some (gor b) ∧ (l = [] → b = true) := by
  induction h with
  | nil => exact fun i j => ⟨true, rfl, rfl, fun _ => rfl⟩
  | cons hp _ ih =>
    intro i j
    obtain ⟨b, h1, h2⟩ := hp
    rw [ref43_exprs_L0, ruletree_expression_L0, h1, h2, Option.bind_some, Option.bind_some]
    cases b with
    | false => exact ⟨false, rfl, rfl, fun h => by cases h⟩
    | true =>
      obtain ⟨b, g1, g2, _⟩ := ih (i + 1) (j + 1)
      exact ⟨b, g1, g2, fun h => by cases h⟩
theorem all_L0_rel {m n : Nat} {g : M → Option Bool} {l : List N} {k : List M} (h : A2 (Sm (ref43_stands (ref43_all m) n) g) l k) : ∀ i j : Nat, ∃ b : Bool, ref43_all_L0 (ref43_all m) n l i = some (gor b) ∧ ruletree_blocked_L0 g k j = some (gor b) := by
  induction h with
  | nil => exact fun i j => ⟨true, rfl, rfl⟩
  | cons hp _ ih =>
    intro i j
    obtain ⟨b, h1, h2⟩ := hp
    rw [ref43_all_L0, ruletree_blocked_L0, h1, h2, Option.bind_some, Option.bind_some]
    cases b with
    | false => exact ⟨false, rfl, rfl⟩
    | true => exact ih (i + 1) (j + 1)
theorem valid_L0_blocked {n : Nat} : ∀ (l : List M) (i j : Nat), ruletree_Valid_L0 n l i = ruletree_blocked_L0 (ruletree_stated n) l j
  | [], i, j => rfl
  | k :: l, i, j => by
    rw [ruletree_Valid_L0, ruletree_blocked_L0]
    congr 1; funext b; rw [valid_L0_blocked l (i + 1) (j + 1)]
def cmp (s : Str) : Bool := decide (s = [61, 61]) || (decide (s = [33, 61]) || (decide (s = [60]) || (decide (s = [60, 61]) || (decide (s = [115, 116, 97, 114, 116, 115]) || (decide (s = [101, 110, 100, 115]) || decide (s = [99, 111, 110, 116, 97, 105, 110, 115]))))))
theorem compares2_eq (s : Str) : ref43_compares s = some (cmp s) := by
  unfold ref43_compares
  rw [chk_bind (by constructor <;> omega), show ((7 : Int)).toNat = 7 from rfl]
  by_cases h1 : s = [61, 61]; · subst h1; rfl
  by_cases h2 : s = [33, 61]; · subst h2; rfl
  by_cases h3 : s = [60]; · subst h3; rfl
  by_cases h4 : s = [60, 61]; · subst h4; rfl
  by_cases h5 : s = [115, 116, 97, 114, 116, 115]; · subst h5; rfl
  by_cases h6 : s = [101, 110, 100, 115]; · subst h6; rfl
  by_cases h7 : s = [99, 111, 110, 116, 97, 105, 110, 115]; · subst h7; rfl
  simp [ref43_compares_L0, ix, h1, h2, h3, h4, h5, h6, h7, cmp, Fl.el]
theorem compares_eq (s : Str) : ((ruletree_compares 4 s).bind fun x22 => (if x22 = true then some true else (ruletree_compares 1 s).bind fun x26 => some x26)) = some (cmp s) := by
  by_cases h1 : s = [61, 61]; · subst h1; rfl
  by_cases h2 : s = [33, 61]; · subst h2; rfl
  by_cases h3 : s = [60]; · subst h3; rfl
  by_cases h4 : s = [60, 61]; · subst h4; rfl
  by_cases h5 : s = [115, 116, 97, 114, 116, 115]; · subst h5; rfl
  by_cases h6 : s = [101, 110, 100, 115]; · subst h6; rfl
  by_cases h7 : s = [99, 111, 110, 116, 97, 105, 110, 115]; · subst h7; rfl
  simp [ruletree_compares, h1, h2, h3, h4, h5, h6, h7, cmp]
theorem exprT {n : Nat} {y : M} {k : Int} {b : Bool} (hk : ruletree_operands n y = some k) (hl : y.Kids.length ≤ 3000) (hb : ruletree_expression_L0 (ruletree_expression n) y.Kids 0 = some (gor b)) :
    ruletree_expression (n + 1) y = some (if k = -2 then false else if 0 ≤ k then b && decide ((y.Kids.length : Int) = k) else b) := by
  rw [ruletree_expression, hk, Option.bind_some]
  by_cases q : k = -2
  · rw [if_pos (by simpa using q), if_pos q]
  · rw [if_neg (by simpa using q), if_neg q]
    by_cases q2 : 0 ≤ k
    · by_cases q3 : (y.Kids.length : Int) = k
      · rw [if_neg (by simp [q3]), chk_bind (by simp only [szMax]; omega), hb, Option.bind_some, gor_el, if_pos q2, decide_eq_true q3]
      · rw [if_pos (by simp [q3]; omega), if_pos q2, decide_eq_false q3, Bool.and_false]
    · rw [if_neg (by simp; omega), chk_bind (by simp only [szMax]; omega), hb, Option.bind_some, gor_el, if_neg q2, Bool.and_true]
theorem exprs_val {f : N → Option Bool} {n : Nat} {l : List N} {b : Bool} (hl : l.length ≤ 3000) (hb : ref43_exprs_L0 f l 0 = some (gor b)) (k : Int) : ref43_exprs f n l k = some (b && decide ((l.length : Int) = k)) := by
  unfold ref43_exprs
  rw [chk_bind (by simp only [szMax]; omega), hb, Option.bind_some, gor_el]
theorem opt_if {c : Bool} {b : Bool} : (if c = true then (some b).bind fun x => some x else some false) = some (c && b) := by cases c <;> rfl
theorem op_if {c : Bool} {k : Int} : (if (!c) = true then some (-2) else some k) = some (if c = true then k else -2) := by cases c <;> rfl
theorem expression_rel : ∀ (d f n : Nat) (x : N) (y : M), OkN d x → Cvd d x y → d + 10000 ≤ f → d + 10000 ≤ n → Sm (ref43_expression f) (ruletree_expression n) x y
  | d + 1, 0, n, x, y, h, hc, hf, hn => by omega
  | d + 1, f + 1, 0, x, y, h, hc, hf, hn => by omega
  | d + 1, f + 1, n + 1, x, y, h, hc, hf, hn => by
    obtain ⟨h1, h2, h3⟩ := h
    obtain ⟨c1, c2, c3, c4⟩ := hc
    have hlen := c4.len
    obtain ⟨b, b1, b2, b3⟩ := exprs_L0_rel (c4.imp_mem fun a ha q hq => expression_rel d f n a q (h3 a ha) hq (by omega) (by omega)) 0 0
    have ex := exprs_val (n := f) (by omega) b1
    have hb0 : decide ((x.Kids.length : Int) = 0) = (b && decide ((x.Kids.length : Int) = 0)) := by
      cases q : decide ((x.Kids.length : Int) = 0) with
      | false => rw [Bool.and_false]
      | true => rw [b3 (List.length_eq_zero_iff.1 (by have := of_decide_eq_true q; omega))]; rfl
    have fin : ∀ (c : Bool) (k : Int), 0 ≤ k → ruletree_operands n y = some (if c = true then k else -2) → ref43_expression (f + 1) x = some (c && (b && decide ((x.Kids.length : Int) = k))) → Sm (ref43_expression (f + 1)) (ruletree_expression (n + 1)) x y := fun c k hk ho hr => by
      refine ⟨_, hr, ?_⟩
      rw [exprT ho (by omega) b2, hlen]
      cases c with
      | false => rfl
      | true => rw [if_pos rfl, if_neg (by omega), if_pos hk, Bool.true_and]
    have t0 : decide (x.Text = ([] : Str)) = decide (y.Text = ([] : Str)) := by rw [c2]
    by_cases k13 : x.Kind = 13
    · refine fin (decide (x.Text = [])) 2 (by omega) ?_ ?_
      · rw [ruletree_operands, c1, if_pos (by simpa using k13), c2, op_if]
      · rw [ref43_expression, if_pos (by simpa using k13), ex, opt_if]; rfl
    by_cases k14 : x.Kind = 14
    · refine fin (decide (x.Text = [])) 2 (by omega) ?_ ?_
      · rw [ruletree_operands, c1, if_neg (by simpa using k13), if_pos (by simpa using k14), c2, op_if]
      · rw [ref43_expression, if_neg (by simpa using k13), if_pos (by simpa using k14), ex, opt_if]; rfl
    by_cases k17 : x.Kind = 17
    · refine fin (decide (x.Text = [])) 2 (by omega) ?_ ?_
      · rw [ruletree_operands, c1, if_neg (by simpa using k13), if_neg (by simpa using k14), if_pos (by simpa using k17), c2, op_if]
      · rw [ref43_expression, if_neg (by simpa using k13), if_neg (by simpa using k14), if_pos (by simpa using k17), ex, opt_if]; rfl
    by_cases k18 : x.Kind = 18
    · refine fin (decide (x.Text = [])) 2 (by omega) ?_ ?_
      · rw [ruletree_operands, c1, if_neg (by simpa using k13), if_neg (by simpa using k14), if_neg (by simpa using k17), if_pos (by simpa using k18), c2, op_if]
      · rw [ref43_expression, if_neg (by simpa using k13), if_neg (by simpa using k14), if_neg (by simpa using k17), if_pos (by simpa using k18), ex, opt_if]; rfl
    by_cases k19 : x.Kind = 19
    · refine fin (decide (x.Text = [])) 2 (by omega) ?_ ?_
      · rw [ruletree_operands, c1, if_neg (by simpa using k13), if_neg (by simpa using k14), if_neg (by simpa using k17), if_neg (by simpa using k18), if_pos (by simpa using k19), c2, op_if]
      · rw [ref43_expression, if_neg (by simpa using k13), if_neg (by simpa using k14), if_neg (by simpa using k17), if_neg (by simpa using k18), if_pos (by simpa using k19), ex, opt_if]; rfl
    by_cases k15 : x.Kind = 15
    · refine fin (decide (x.Text = [])) 1 (by omega) ?_ ?_
      · rw [ruletree_operands, c1, if_neg (by simpa using k13), if_neg (by simpa using k14), if_neg (by simpa using k17), if_neg (by simpa using k18), if_neg (by simpa using k19), if_pos (by simpa using k15), c2, op_if]
      · rw [ref43_expression, if_neg (by simpa using k13), if_neg (by simpa using k14), if_neg (by simpa using k17), if_neg (by simpa using k18), if_neg (by simpa using k19), if_pos (by simpa using k15), ex, opt_if]; rfl
    by_cases k16 : x.Kind = 16
    · refine fin (cmp x.Text) 2 (by omega) ?_ ?_
      · rw [ruletree_operands, c1, if_neg (by simpa using k13), if_neg (by simpa using k14), if_neg (by simpa using k17), if_neg (by simpa using k18), if_neg (by simpa using k19), if_neg (by simpa using k15), if_pos (by simpa using k16), c2, ← op_if]
        have e := compares_eq x.Text
        cases q : ruletree_compares 4 x.Text with
        | none => rw [q] at e; cases e
        | some v =>
          rw [q, Option.bind_some] at e
          rw [Option.bind_some, e, Option.bind_some]
      · rw [ref43_expression, if_neg (by simpa using k13), if_neg (by simpa using k14), if_neg (by simpa using k17), if_neg (by simpa using k18), if_neg (by simpa using k19), if_neg (by simpa using k15), if_pos (by simpa using k16), compares2_eq, Option.bind_some, ex, opt_if]; rfl
    by_cases k20 : x.Kind = 20
    · refine fin (nmr x.Text) 0 (by omega) ?_ ?_
      · rw [ruletree_operands, c1, if_neg (by simpa using k13), if_neg (by simpa using k14), if_neg (by simpa using k17), if_neg (by simpa using k18), if_neg (by simpa using k19), if_neg (by simpa using k15), if_neg (by simpa using k16), if_pos (by simpa using k20), c2, digits_eq h1, Option.bind_some, op_if]
      · rw [ref43_expression, if_neg (by simpa using k13), if_neg (by simpa using k14), if_neg (by simpa using k17), if_neg (by simpa using k18), if_neg (by simpa using k19), if_neg (by simpa using k15), if_neg (by simpa using k16), if_pos (by simpa using k20), (token1_eq (by omega)).2, Option.bind_some, ← hb0]
    by_cases k21 : x.Kind = 21
    · refine fin (prt x.Text) 0 (by omega) ?_ ?_
      · rw [ruletree_operands, c1, if_neg (by simpa using k13), if_neg (by simpa using k14), if_neg (by simpa using k17), if_neg (by simpa using k18), if_neg (by simpa using k19), if_neg (by simpa using k15), if_neg (by simpa using k16), if_neg (by simpa using k20), if_pos (by simpa using k21), c2, printable_eq h1, Option.bind_some, op_if]
      · rw [ref43_expression, if_neg (by simpa using k13), if_neg (by simpa using k14), if_neg (by simpa using k17), if_neg (by simpa using k18), if_neg (by simpa using k19), if_neg (by simpa using k15), if_neg (by simpa using k16), if_neg (by simpa using k20), if_pos (by simpa using k21), printable2_eq h1, Option.bind_some, ← hb0]
    by_cases k22 : x.Kind = 22
    · refine fin (decide (x.Text = ([116, 114, 117, 101] : Str)) || decide (x.Text = ([102, 97, 108, 115, 101] : Str))) 0 (by omega) ?_ ?_
      · rw [ruletree_operands, c1, if_neg (by simpa using k13), if_neg (by simpa using k14), if_neg (by simpa using k17), if_neg (by simpa using k18), if_neg (by simpa using k19), if_neg (by simpa using k15), if_neg (by simpa using k16), if_neg (by simpa using k20), if_neg (by simpa using k21), if_pos (by simpa using k22), c2, op_if]
      · rw [ref43_expression, if_neg (by simpa using k13), if_neg (by simpa using k14), if_neg (by simpa using k17), if_neg (by simpa using k18), if_neg (by simpa using k19), if_neg (by simpa using k15), if_neg (by simpa using k16), if_neg (by simpa using k20), if_neg (by simpa using k21), if_pos (by simpa using k22), ← hb0]
    by_cases k23 : x.Kind = 23
    · refine fin (nm x.Text) 0 (by omega) ?_ ?_
      · rw [ruletree_operands, c1, if_neg (by simpa using k13), if_neg (by simpa using k14), if_neg (by simpa using k17), if_neg (by simpa using k18), if_neg (by simpa using k19), if_neg (by simpa using k15), if_neg (by simpa using k16), if_neg (by simpa using k20), if_neg (by simpa using k21), if_neg (by simpa using k22), if_pos (by simpa using k23), c2, named_eq (by omega), Option.bind_some, op_if]
      · rw [ref43_expression, if_neg (by simpa using k13), if_neg (by simpa using k14), if_neg (by simpa using k17), if_neg (by simpa using k18), if_neg (by simpa using k19), if_neg (by simpa using k15), if_neg (by simpa using k16), if_neg (by simpa using k20), if_neg (by simpa using k21), if_neg (by simpa using k22), if_pos (by simpa using k23), named2_eq (by omega), Option.bind_some, ← hb0]
    by_cases k24 : x.Kind = 24
    · refine ⟨nm x.Text && b, ?_, ?_⟩
      · rw [ref43_expression, if_neg (by simpa using k13), if_neg (by simpa using k14), if_neg (by simpa using k17), if_neg (by simpa using k18), if_neg (by simpa using k19), if_neg (by simpa using k15), if_neg (by simpa using k16), if_neg (by simpa using k20), if_neg (by simpa using k21), if_neg (by simpa using k22), if_neg (by simpa using k23), if_pos (by simpa using k24), named2_eq (by omega), Option.bind_some, ex, opt_if, decide_eq_true rfl, Bool.and_true]; rfl
      · have ho : ruletree_operands n y = some (if nm x.Text = true then -1 else -2) := by
          rw [ruletree_operands, c1, if_neg (by simpa using k13), if_neg (by simpa using k14), if_neg (by simpa using k17), if_neg (by simpa using k18), if_neg (by simpa using k19), if_neg (by simpa using k15), if_neg (by simpa using k16), if_neg (by simpa using k20), if_neg (by simpa using k21), if_neg (by simpa using k22), if_neg (by simpa using k23), if_pos (by simpa using k24), c2, named_eq (by omega), Option.bind_some, op_if]
        rw [exprT ho (by omega) b2]
        cases nm x.Text with
        | false => rfl
        | true => rw [if_pos rfl, if_neg (by omega), if_neg (by omega), Bool.true_and]
    · refine ⟨false, ?_, ?_⟩
      · rw [ref43_expression, if_neg (by simpa using k13), if_neg (by simpa using k14), if_neg (by simpa using k17), if_neg (by simpa using k18), if_neg (by simpa using k19), if_neg (by simpa using k15), if_neg (by simpa using k16), if_neg (by simpa using k20), if_neg (by simpa using k21), if_neg (by simpa using k22), if_neg (by simpa using k23), if_neg (by simpa using k24)]
      · have ho : ruletree_operands n y = some (-2) := by
          rw [ruletree_operands, c1, if_neg (by simpa using k13), if_neg (by simpa using k14), if_neg (by simpa using k17), if_neg (by simpa using k18), if_neg (by simpa using k19), if_neg (by simpa using k15), if_neg (by simpa using k16), if_neg (by simpa using k20), if_neg (by simpa using k21), if_neg (by simpa using k22), if_neg (by simpa using k23), if_neg (by simpa using k24)]
        rw [exprT ho (by omega) b2]; rfl
end Rt
/- Ruletype: the document's validity of statements and programs is the program's. -/
set_option linter.unusedVariables false
set_option linter.unusedSimpArgs false
open Go Go.SL Go.Proofs Pl
namespace Rt
theorem Sm.ix {f : N → Option Bool} {g : M → Option Bool} {l : List N} {k : List M} (h : A2 (Sm f g) l k) {i : Int} (h0 : 0 ≤ i) (h1 : i < (l.length : Int)) : ∃ a b r, ix l i = some a ∧ ix k i = some b ∧ f a = some r ∧ g b = some r := by
  induction h generalizing i with
  | nil => simp at h1; omega
  | cons hp _ ih =>
    rename_i a b l k _
    simp only [List.length_cons] at h1
    by_cases q : i = 0
    · subst q
      obtain ⟨r, h2, h3⟩ := hp
      exact ⟨a, b, r, rfl, rfl, h2, h3⟩
    · obtain ⟨a', b', r, e1, e2, e3, e4⟩ := ih (i := i - 1) (by omega) (by omega)
      have st : ∀ {α : Type} (x : α) (t : List α), Go.SL.ix (x :: t) i = Go.SL.ix t (i - 1) := fun x t => by
        unfold Go.SL.ix
        rw [if_pos h0, if_pos (by omega), show i.toNat = (i - 1).toNat + 1 from by omega, List.getElem?_cons_succ]
      exact ⟨a', b', r, by rw [st, e1], by rw [st, e2], e3, e4⟩
theorem A2.ix {α β : Type} {P : α → β → Prop} {l : List α} {k : List β} (h : A2 P l k) {i : Int} (h0 : 0 ≤ i) (h1 : i < (l.length : Int)) : ∃ a b, ix l i = some a ∧ ix k i = some b ∧ P a b ∧ a ∈ l := by
  induction h generalizing i with
  | nil => simp at h1; omega
  | cons hp _ ih =>
    rename_i a b l k _
    simp only [List.length_cons] at h1
    by_cases q : i = 0
    · subst q
      exact ⟨a, b, rfl, rfl, hp, by simp⟩
    · obtain ⟨a', b', e1, e2, e3, e4⟩ := ih (i := i - 1) (by omega) (by omega)
      have st : ∀ {α : Type} (x : α) (t : List α), Go.SL.ix (x :: t) i = Go.SL.ix t (i - 1) := fun x t => by
        unfold Go.SL.ix
        rw [if_pos h0, if_pos (by omega), show i.toNat = (i - 1).toNat + 1 from by omega, List.getElem?_cons_succ]
      exact ⟨a', b', by rw [st, e1], by rw [st, e2], e3, by simp [e4]⟩
theorem all_val {m n : Nat} {l : List N} {b : Bool} (hl : l.length ≤ 3000) (hb : ref43_all_L0 (ref43_all m) m l 0 = some (gor b)) : ref43_all (m + 1) l = some b := by
  rw [ref43_all, chk_bind (by simp only [szMax]; omega), hb, Option.bind_some, gor_el, Bool.and_true]
theorem blocked_val {g : M → Option Bool} {n : Nat} {y : M} {b : Bool} (hl : y.Kids.length ≤ 3000) (hb : ruletree_blocked_L0 g y.Kids 0 = some (gor b)) : ruletree_blocked g n y = some ((decide (y.Kind = 12) && decide (y.Text = [])) && b) := by
  unfold ruletree_blocked
  by_cases q : y.Kind = 12
  · by_cases q2 : y.Text = []
    · rw [if_neg (by simp [q, q2]), chk_bind (by simp only [szMax]; omega), hb, Option.bind_some, gor_el, decide_eq_true q, decide_eq_true q2]; cases b <;> rfl
    · rw [if_pos (by simp [q2]), decide_eq_false q2, Bool.and_false, Bool.false_and]
  · rw [if_pos (by simp [q]), decide_eq_false q, Bool.false_and, Bool.false_and]
theorem neg_if {c : Bool} {A : Option Bool} : (if (!c) = true then some false else A) = if c = true then A else some false := by cases c <;> rfl
theorem stated_rel : ∀ (d m f n : Nat) (x : N) (y : M), OkN d x → Cvd d x y → d + 10000 ≤ m → d + 10000 ≤ f → d + 10000 ≤ n → Sm (ref43_stands (ref43_all m) f) (ruletree_stated n) x y
  | d + 1, m, 0, n, x, y, h, hc, hm, hf, hn => by omega
  | d + 1, m, f + 1, 0, x, y, h, hc, hm, hf, hn => by omega
  | d + 1, 0, f + 1, n + 1, x, y, h, hc, hm, hf, hn => by omega
  | d + 1, m + 1, f + 1, n + 1, x, y, h, hc, hm, hf, hn => by
    obtain ⟨h1, h2, h3⟩ := h
    obtain ⟨c1, c2, c3, c4⟩ := hc
    have hlen := c4.len
    have ex : ∀ {i : Int}, 0 ≤ i → i < (x.Kids.length : Int) → ∃ a b r, ix x.Kids i = some a ∧ ix y.Kids i = some b ∧ ref43_expression f a = some r ∧ ruletree_expression n b = some r := fun h0 hi =>
      Sm.ix (c4.imp_mem fun a ha q hq => expression_rel d f n a q (h3 a ha) hq (by omega) (by omega)) h0 hi
    have bl : ∀ {i : Int}, 0 ≤ i → i < (x.Kids.length : Int) → ∃ a b r, ix x.Kids i = some a ∧ ix y.Kids i = some b ∧ ref43_blocks (ref43_all (m + 1)) f a = some r ∧ ruletree_blocked (ruletree_stated n) n b = some r := fun {i} h0 hi => by
      obtain ⟨a, b, e1, e2, hp, ha⟩ := c4.ix h0 hi
      refine ⟨a, b, ?_⟩
      have ho := h3 a ha
      cases d with
      | zero => exact ho.elim
      | succ d =>
        obtain ⟨g1, g2, g3⟩ := ho
        obtain ⟨q1, q2, q3, q4⟩ := hp
        obtain ⟨v, v1, v2⟩ := all_L0_rel (g := ruletree_stated n) (m := m) (n := m) (q4.imp_mem fun a ha q hq => stated_rel d m m n a q (g3 a ha) hq (by omega) (by omega) (by omega)) 0 0
        refine ⟨(decide (a.Kind = 12) && decide (a.Text = [])) && v, e1, e2, ?_, ?_⟩
        · unfold ref43_blocks
          rw [all_val (n := n) (by omega) v1, opt_if]; rfl
        · rw [blocked_val (by rw [q4.len]; omega) v2, q1, q2]
    have st : ∀ {i : Int}, 0 ≤ i → i < (x.Kids.length : Int) → ∃ a b r, ix x.Kids i = some a ∧ ix y.Kids i = some b ∧ b.Kind = a.Kind ∧ ref43_stands (ref43_all (m + 1)) f a = some r ∧ ruletree_stated n b = some r := fun {i} h0 hi => by
      obtain ⟨a, b, e1, e2, hp, ha⟩ := c4.ix h0 hi
      obtain ⟨r, r1, r2⟩ := stated_rel d (m + 1) f n a b (h3 a ha) hp (by omega) (by omega) (by omega)
      cases d with
      | zero => exact (h3 a ha).elim
      | succ d => exact ⟨a, b, r, e1, e2, hp.1, r1, r2⟩
    -- one expression
    have one : ∃ b : Bool, (∀ c : Bool, (if c = true then (ref43_exprs (ref43_expression f) f x.Kids 1).bind fun x85 => some x85 else some false) = some (c && b)) ∧
        ((if decide ((y.Kids.length : Int) = 1) then (ix y.Kids 0).bind fun x121 => (ruletree_expression n x121).bind fun x123 => some x123 else some false).bind fun x124 => some x124) = some b := by
      by_cases q : (x.Kids.length : Int) = 1
      · obtain ⟨a, b, r, e1, e2, e3, e4⟩ := ex (i := 0) (by omega) (by omega)
        refine ⟨r, fun c => ?_, ?_⟩
        · have hx : x.Kids = [a] := by
            match hk : x.Kids, q, e1 with
            | [z], _, e1 => cases e1; rfl
          have hb : ref43_exprs_L0 (ref43_expression f) x.Kids 0 = some (gor r) := by
            rw [hx, ref43_exprs_L0, e3, Option.bind_some]; cases r <;> rfl
          rw [exprs_val (by omega) hb, decide_eq_true q, Bool.and_true, opt_if]
        · rw [hlen, if_pos (by simpa using q), e2, Option.bind_some, e4]; rfl
      · obtain ⟨b, b1, b2, b3⟩ := exprs_L0_rel (c4.imp_mem fun a ha q hq => expression_rel d f n a q (h3 a ha) hq (by omega) (by omega)) 0 0
        refine ⟨false, fun c => ?_, ?_⟩
        · rw [exprs_val (by omega) b1, decide_eq_false q, Bool.and_false, opt_if]
        · rw [hlen, if_neg (by simpa using q)]; rfl
    obtain ⟨B, B1, B2⟩ := one
    by_cases k2 : x.Kind = 2
    · unfold Sm
      have d2 : decide (x.Kind = 2) = true := decide_eq_true k2
      rw [ref43_stands, ruletree_stated, c1, c2, hlen, if_pos d2, if_pos d2]
      cases q : ((decide (x.Text ≠ ([] : Str)) || decide ((x.Kids.length : Int) < 2)) || decide ((x.Kids.length : Int) > 3)) with
      | true => exact ⟨false, rfl, rfl⟩
      | false =>
        simp only [Bool.or_eq_false_iff, decide_eq_false_iff_not] at q
        obtain ⟨a0, b0, r0, e1, e2, e3, e4⟩ := ex (i := 0) (by omega) (by omega)
        simp only [Bool.false_eq_true, if_false]
        rw [e1, e2]
        simp only [Option.bind_some]
        rw [e3, e4]
        simp only [Option.bind_some]
        cases r0 with
        | false => exact ⟨false, rfl, rfl⟩
        | true =>
          obtain ⟨a1, b1, r1, f1, f2, f3, f4⟩ := bl (i := 1) (by omega) (by omega)
          simp only [Option.bind_some, Bool.not_true, Bool.false_eq_true, if_false]
          rw [f1, f2]
          simp only [Option.bind_some]
          rw [f3, f4]
          simp only [Option.bind_some]
          cases r1 with
          | false => exact ⟨false, rfl, rfl⟩
          | true =>
            simp only [Option.bind_some, Bool.not_true, Bool.false_eq_true, if_false]
            by_cases k3 : (x.Kids.length : Int) = 2
            · rw [decide_eq_true k3]; exact ⟨true, rfl, rfl⟩
            · obtain ⟨a2, b2, r2, g1, g2, g3, g4⟩ := bl (i := 2) (by omega) (by omega)
              obtain ⟨a3, b3, r3, g5, g6, g7, g8, g9⟩ := st (i := 2) (by omega) (by omega)
              rw [g1] at g5
              rw [g2] at g6
              cases g5
              cases g6
              rw [decide_eq_false k3]
              simp only [Bool.false_eq_true, if_false]
              rw [g1, g2]
              simp only [Option.bind_some]
              rw [g3, g4]
              simp only [Option.bind_some]
              cases r2 with
              | true => exact ⟨true, rfl, rfl⟩
              | false =>
                simp only [Bool.false_eq_true, if_false]
                rw [g7]
                cases q3 : decide (a2.Kind = 2) with
                | false => exact ⟨false, rfl, rfl⟩
                | true =>
                  simp only [if_true]
                  rw [g8, g9]
                  exact ⟨r3, rfl, rfl⟩
    by_cases k3 : x.Kind = 3
    · refine ⟨nm x.Text && B, ?_, ?_⟩
      · rw [ref43_stands, if_neg (by simpa using k2), if_pos (by simpa using k3), named2_eq (by omega), Option.bind_some, B1]; rfl
      · rw [ruletree_stated, c1, c2, if_neg (by simpa using k2), if_neg (by simp [k3]), if_neg (by simp [k3]), if_neg (by simp [k3]), if_pos (by simpa using k3), named_eq (by omega), Option.bind_some, neg_if, B2]
        cases nm x.Text <;> rfl
    by_cases k4 : x.Kind = 4
    · refine ⟨(decide (x.Text = ([112, 97, 116, 104] : Str)) || decide (x.Text = ([113, 117, 101, 114, 121] : Str))) && B, ?_, ?_⟩
      · rw [ref43_stands, if_neg (by simpa using k2), if_neg (by simpa using k3), if_pos (by simpa using k4), B1]; rfl
      · rw [ruletree_stated, c1, c2, if_neg (by simpa using k2), if_neg (by simp [k4]), if_neg (by simp [k4]), if_neg (by simp [k4]), if_neg (by simpa using k3), if_pos (by simpa using k4), B2]
        by_cases t1 : x.Text = ([112, 97, 116, 104] : Str)
        · rw [if_neg (by simp [t1]), decide_eq_true t1]; rfl
        · by_cases t2 : x.Text = ([113, 117, 101, 114, 121] : Str)
          · rw [if_neg (by simp [t2]), decide_eq_true t2, Bool.or_true]; rfl
          · rw [if_pos (by simp [t1, t2]), decide_eq_false t1, decide_eq_false t2]; rfl
    by_cases k5 : x.Kind = 5
    · refine ⟨prt x.Text && B, ?_, ?_⟩
      · rw [ref43_stands, if_neg (by simpa using k2), if_neg (by simpa using k3), if_neg (by simpa using k4), if_pos (by simpa using k5), printable2_eq h1, Option.bind_some, B1]; rfl
      · rw [ruletree_stated, c1, c2, if_neg (by simpa using k2), if_neg (by simp [k5]), if_neg (by simp [k5]), if_neg (by simp [k5]), if_neg (by simpa using k3), if_neg (by simpa using k4), if_pos (by simpa using k5), printable_eq h1, Option.bind_some, neg_if, B2]
        cases prt x.Text <;> rfl
    by_cases k6 : x.Kind = 6
    · refine ⟨prt x.Text && decide ((x.Kids.length : Int) = 0), ?_, ?_⟩
      · rw [ref43_stands, if_neg (by simpa using k2), if_neg (by simpa using k3), if_neg (by simpa using k4), if_neg (by simpa using k5), if_pos (by simpa using k6), printable2_eq h1, Option.bind_some]
      · rw [ruletree_stated, c1, c2, hlen, if_neg (by simpa using k2), if_pos (by simpa using k6), printable_eq h1, Option.bind_some]
    have txt : ∀ {C : Option Bool}, (if decide (x.Text ≠ ([] : Str)) = true then some false else C) = if decide (x.Text = ([] : Str)) = true then C else some false := fun {C} => by
      by_cases q : x.Text = []
      · rw [if_neg (by simp [q]), if_pos (by simpa using q)]
      · rw [if_pos (by simpa using q), if_neg (by simpa using q)]
    by_cases k7 : x.Kind = 7
    · refine ⟨decide (x.Text = []) && B, ?_, ?_⟩
      · rw [ref43_stands, if_neg (by simpa using k2), if_neg (by simpa using k3), if_neg (by simpa using k4), if_neg (by simpa using k5), if_neg (by simpa using k6), if_pos (by simpa using k7), B1]; rfl
      · rw [ruletree_stated, c1, c2, if_neg (by simpa using k2), if_neg (by simpa using k6), if_neg (by simp [k7]), if_neg (by simp [k7]), if_neg (by simpa using k3), if_neg (by simpa using k4), if_neg (by simpa using k5), if_pos (by simpa using k7), txt, B2]
        cases decide (x.Text = []) <;> rfl
    by_cases k8 : x.Kind = 8
    · refine ⟨decide (x.Text = []) && B, ?_, ?_⟩
      · rw [ref43_stands, if_neg (by simpa using k2), if_neg (by simpa using k3), if_neg (by simpa using k4), if_neg (by simpa using k5), if_neg (by simpa using k6), if_neg (by simpa using k7), if_pos (by simpa using k8), B1]; rfl
      · rw [ruletree_stated, c1, c2, if_neg (by simpa using k2), if_neg (by simpa using k6), if_neg (by simp [k8]), if_neg (by simp [k8]), if_neg (by simpa using k3), if_neg (by simpa using k4), if_neg (by simpa using k5), if_neg (by simpa using k7), if_pos (by simpa using k8), txt, B2]
        cases decide (x.Text = []) <;> rfl
    by_cases k9 : x.Kind = 9
    · refine ⟨decide (x.Text = []) && B, ?_, ?_⟩
      · rw [ref43_stands, if_neg (by simpa using k2), if_neg (by simpa using k3), if_neg (by simpa using k4), if_neg (by simpa using k5), if_neg (by simpa using k6), if_neg (by simpa using k7), if_neg (by simpa using k8), if_pos (by simpa using k9), B1]; rfl
      · rw [ruletree_stated, c1, c2, if_neg (by simpa using k2), if_neg (by simpa using k6), if_neg (by simp [k9]), if_neg (by simp [k9]), if_neg (by simpa using k3), if_neg (by simpa using k4), if_neg (by simpa using k5), if_neg (by simpa using k7), if_neg (by simpa using k8), if_pos (by simpa using k9), txt, B2]
        cases decide (x.Text = []) <;> rfl
    by_cases k10 : x.Kind = 10
    · refine ⟨decide (x.Text = []) && decide ((x.Kids.length : Int) = 0), ?_, ?_⟩
      · rw [ref43_stands, if_neg (by simpa using k2), if_neg (by simpa using k3), if_neg (by simpa using k4), if_neg (by simpa using k5), if_neg (by simpa using k6), if_neg (by simpa using k7), if_neg (by simpa using k8), if_neg (by simpa using k9), if_pos (by simpa using k10)]
      · rw [ruletree_stated, c1, c2, hlen, if_neg (by simpa using k2), if_neg (by simpa using k6), if_pos (by simpa using k10)]
    by_cases k11 : x.Kind = 11
    · refine ⟨decide (x.Text = []) && decide ((x.Kids.length : Int) = 0), ?_, ?_⟩
      · rw [ref43_stands, if_neg (by simpa using k2), if_neg (by simpa using k3), if_neg (by simpa using k4), if_neg (by simpa using k5), if_neg (by simpa using k6), if_neg (by simpa using k7), if_neg (by simpa using k8), if_neg (by simpa using k9), if_neg (by simpa using k10), if_pos (by simpa using k11)]
      · rw [ruletree_stated, c1, c2, hlen, if_neg (by simpa using k2), if_neg (by simpa using k6), if_neg (by simpa using k10), if_pos (by simpa using k11)]
    · refine ⟨false, ?_, ?_⟩
      · rw [ref43_stands, if_neg (by simpa using k2), if_neg (by simpa using k3), if_neg (by simpa using k4), if_neg (by simpa using k5), if_neg (by simpa using k6), if_neg (by simpa using k7), if_neg (by simpa using k8), if_neg (by simpa using k9), if_neg (by simpa using k10), if_neg (by simpa using k11)]
      · rw [ruletree_stated, c1, if_neg (by simpa using k2), if_neg (by simpa using k6), if_neg (by simpa using k10), if_neg (by simpa using k11), if_neg (by simpa using k3), if_neg (by simpa using k4), if_neg (by simpa using k5), if_neg (by simpa using k7), if_neg (by simpa using k8), if_neg (by simpa using k9)]
/-! ### sizes -/
theorem size_L0 {f : N → Option Int} {d : Nat} : ∀ (l : List N) (i : Nat) (y : Int), (∀ k ∈ l, f k = some (cntN d k : Int)) → 0 ≤ y → y + cntNL d l ≤ 1000000 → ref43_Size_L0 f l i y = some (y + cntNL d l)
  | [], i, y, _, _, _ => by simp [ref43_Size_L0, cntNL]
  | k :: l, i, y, h, h0, hy => by
    rw [cntNL_cons] at hy
    rw [ref43_Size_L0, h k (by simp), Option.bind_some, chk_bind (by constructor <;> omega), size_L0 l (i + 1) _ (fun q hq => h q (by simp [hq])) (by omega) (by omega), cntNL_cons]
    congr 1; omega
theorem cntNL_mem {d : Nat} : ∀ {l : List N} {k : N}, k ∈ l → cntN d k ≤ cntNL d l
  | a :: l, k, h => by
    rw [cntNL_cons]
    rcases List.mem_cons.1 h with rfl | h
    · omega
    · have := cntNL_mem (d := d) h; omega
theorem size_val : ∀ (d n : Nat) (x : N), OkN d x → d ≤ n → cntN d x ≤ 10000 → ref43_Size n x = some (cntN d x : Int)
  | d + 1, 0, x, h, hn, hc => by omega
  | d + 1, n + 1, x, h, hn, hc => by
    obtain ⟨h1, h2, h3⟩ := h
    rw [cntN_eq] at hc
    rw [ref43_Size, chk_bind (by simp only [szMax]; omega), size_L0 x.Kids 0 1 (fun k hk => size_val d n k (h3 k hk) (by omega) (by have := cntNL_mem (d := d) hk; omega)) (by omega) (by omega), Option.bind_some, cntN_eq]
    congr 1
def depN : Nat → N → Nat
  | 0, _ => 0
  | d + 1, x => 1 + x.Kids.foldl (fun a k => max a (depN d k)) 0
def depNL (d : Nat) (l : List N) (a : Nat) : Nat := l.foldl (fun a k => max a (depN d k)) a
theorem depNL_le (d : Nat) : ∀ (l : List N) (a e : Nat), depNL d l a ≤ e ↔ a ≤ e ∧ ∀ k ∈ l, depN d k ≤ e
  | [], a, e => by simp [depNL]
  | k :: l, a, e => by
    show depNL d l (max a (depN d k)) ≤ e ↔ _
    rw [depNL_le d l]
    simp only [List.mem_cons, Nat.max_le]
    constructor
    · exact fun ⟨⟨h1, h2⟩, h3⟩ => ⟨h1, fun q hq => hq.elim (fun e => e ▸ h2) (h3 q)⟩
    · exact fun ⟨h1, h2⟩ => ⟨⟨h1, h2 k (.inl rfl)⟩, fun q hq => h2 q (.inr hq)⟩
theorem depN_le : ∀ (d : Nat) (x : N), depN d x ≤ d
  | 0, x => Nat.le_refl _
  | d + 1, x => by
    have : depNL d x.Kids 0 ≤ d := (depNL_le d x.Kids 0 d).2 ⟨by omega, fun k _ => depN_le d k⟩
    show 1 + depNL d x.Kids 0 ≤ d + 1
    omega
theorem depth_L0 {f : N → Option Int} {d : Nat} : ∀ (l : List N) (i a : Nat), (∀ k ∈ l, f k = some (depN d k : Int)) → ref43_Depth_L0 f l i (a : Int) = some (depNL d l a : Int)
  | [], i, a, _ => rfl
  | k :: l, i, a, h => by
    rw [ref43_Depth_L0, h k (by simp), Option.bind_some, show max (a : Int) (depN d k : Int) = ((max a (depN d k) : Nat) : Int) from by omega]
    exact depth_L0 l (i + 1) _ fun q hq => h q (by simp [hq])
theorem depth_val : ∀ (d n : Nat) (x : N), OkN d x → d ≤ n → d ≤ 1000 → ref43_Depth n x = some (depN d x : Int)
  | d + 1, 0, x, h, hn, hd => by omega
  | d + 1, n + 1, x, h, hn, hd => by
    obtain ⟨h1, h2, h3⟩ := h
    have := depN_le (d + 1) x
    have e : depN (d + 1) x = 1 + depNL d x.Kids 0 := rfl
    rw [ref43_Depth, chk_bind (by simp only [szMax]; omega), show (0 : Int) = ((0 : Nat) : Int) from rfl, depth_L0 x.Kids 0 0 fun k hk => depth_val d n k (h3 k hk) (by omega) (by omega), Option.bind_some, chk_bind (by constructor <;> omega), e]
    congr 1; omega
theorem small_L0_val {d : Nat} {e : Int} {f : M → Int → Int → Option (Bool × Int)} (he : 0 < e ∧ e ≤ 1000) {l : List N} {k : List M} (h : A2 (fun x y => ∀ z : Int, 0 ≤ z → z ≤ 1000 → ∃ m, f y z (e - 1) = some (decide ((cntN d x : Int) ≤ z ∧ (depN d x : Int) ≤ e - 1), m) ∧ ((cntN d x : Int) ≤ z ∧ (depN d x : Int) ≤ e - 1 → m = z - cntN d x)) l k) :
    ∀ (i : Nat) (z : Int), 0 ≤ z → z ≤ 1000 → ∃ r, ruletree_small_L0 e f k i z = some r ∧ ((cntNL d l : Int) ≤ z ∧ (∀ q ∈ l, (depN d q : Int) ≤ e - 1) → r = Fl.go (z - cntNL d l)) ∧ (¬ ((cntNL d l : Int) ≤ z ∧ ∀ q ∈ l, (depN d q : Int) ≤ e - 1) → ∃ m, r = Fl.ret (false, m)) := by
  induction h with
  | nil => exact fun i z h0 h1 => ⟨_, rfl, fun _ => by simp [cntNL], fun h => (h ⟨by simpa [cntNL] using h0, by simp⟩).elim⟩
  | cons hp _ ih =>
    rename_i x y l k _
    intro i z h0 h1
    obtain ⟨m, e1, e2⟩ := hp z h0 h1
    rw [ruletree_small_L0, chk_bind (by constructor <;> omega), e1, Option.bind_some, cntNL_cons]
    by_cases q : (cntN d x : Int) ≤ z ∧ (depN d x : Int) ≤ e - 1
    · obtain rfl := e2 q
      obtain ⟨r, r1, r2, r3⟩ := ih (i + 1) (z - cntN d x) (by omega) (by omega)
      rw [if_neg (by simp [q])]
      refine ⟨r, r1, fun g => ?_, fun g => ?_⟩
      · rw [r2 ⟨by omega, fun q hq => g.2 q (by simp [hq])⟩]; congr 1; omega
      · exact r3 fun g' => g ⟨by omega, fun p hp => by
          rcases List.mem_cons.1 hp with rfl | hp
          · exact q.2
          · exact g'.2 p hp⟩
    · rw [if_pos (by simp only [decide_eq_false q]; rfl)]
      exact ⟨_, rfl, fun g => (q ⟨by omega, g.2 x (by simp)⟩).elim, fun _ => ⟨m, rfl⟩⟩
theorem small_val : ∀ (d n : Nat) (x : N) (y : M) (z e : Int), OkN d x → Cvd d x y → d ≤ n → 0 ≤ z → z ≤ 1000 → 0 ≤ e → e ≤ 1000 → ∃ m, ruletree_small n y z e = some (decide ((cntN d x : Int) ≤ z ∧ (depN d x : Int) ≤ e), m) ∧ ((cntN d x : Int) ≤ z ∧ (depN d x : Int) ≤ e → m = z - cntN d x)
  | d + 1, 0, x, y, z, e, h, hc, hn, h0, h1, e0, e1 => by omega
  | d + 1, n + 1, x, y, z, e, h, hc, hn, h0, h1, e0, e1 => by
    obtain ⟨g1, g2, g3⟩ := h
    obtain ⟨c1, c2, c3, c4⟩ := hc
    have ed : depN (d + 1) x = 1 + depNL d x.Kids 0 := rfl
    rw [ruletree_small, chk_bind (by constructor <;> omega), cntN_eq]
    cases q : (decide (z - 1 < 0) || decide (e < 1)) with
    | true =>
      rw [if_pos rfl]
      have : ¬ (((1 + cntNL d x.Kids : Nat) : Int) ≤ z ∧ ((depN (d + 1) x : Nat) : Int) ≤ e) := by
        simp only [Bool.or_eq_true, decide_eq_true_eq] at q
        omega
      exact ⟨z - 1, by rw [decide_eq_false this], fun h => absurd h this⟩
    | false =>
      simp only [Bool.or_eq_false_iff, decide_eq_false_iff_not] at q
      obtain ⟨r, r1, r2, r3⟩ := small_L0_val (d := d) (e := e) (f := ruletree_small n) (by omega) (c4.imp_mem fun a ha b hb z y0 y1 => small_val d n a b z (e - 1) (g3 a ha) hb (by omega) y0 y1 (by omega) (by omega)) 0 (z - 1) (by omega) (by omega)
      rw [if_neg (by simp), chk_bind (by simp only [szMax]; rw [c4.len]; omega), r1, Option.bind_some]
      have key : (((1 + cntNL d x.Kids : Nat) : Int) ≤ z ∧ ((depN (d + 1) x : Nat) : Int) ≤ e) ↔ ((cntNL d x.Kids : Int) ≤ z - 1 ∧ ∀ q ∈ x.Kids, (depN d q : Int) ≤ e - 1) := by
        have hd := depNL_le d x.Kids 0 (e - 1).toNat
        constructor
        · intro ⟨a1, a2⟩
          refine ⟨by omega, fun k hk => ?_⟩
          have := (hd.1 (by omega)).2 k hk
          omega
        · intro ⟨a1, a2⟩
          refine ⟨by omega, ?_⟩
          have := hd.2 ⟨by omega, fun k hk => by have := a2 k hk; omega⟩
          omega
      by_cases q3 : (cntNL d x.Kids : Int) ≤ z - 1 ∧ ∀ q ∈ x.Kids, (depN d q : Int) ≤ e - 1
      · rw [r2 q3, el_go]
        exact ⟨_, by rw [decide_eq_true (key.2 q3)], fun _ => by omega⟩
      · obtain ⟨m, rfl⟩ := r3 q3
        have nk : ¬ (((1 + cntNL d x.Kids : Nat) : Int) ≤ z ∧ ((depN (d + 1) x : Nat) : Int) ≤ e) := fun h => q3 (key.1 h)
        rw [el_ret]
        exact ⟨m, by rw [decide_eq_false nk], fun h => absurd h nk⟩
theorem Valid_rel {d n : Nat} {x : N} {y : M} (h : OkN (d + 1) x) (hc : Cvd (d + 1) x y) (hd : d + 1 ≤ 1000) (hn : d + 10002 ≤ n) (hs : cntN (d + 1) x ≤ 10000) : Sm (ref43_Valid n) (ruletree_Valid n) x y := by
  obtain ⟨m, hm1, hm2⟩ := small_val (d + 1) n x y 512 32 h hc (by omega) (by omega) (by omega) (by omega) (by omega)
  have hz := size_val (d + 1) n x h (by omega) hs
  have hp := depth_val (d + 1) n x h (by omega) (by omega)
  obtain ⟨k, rfl⟩ : ∃ k, n = k + 1 := ⟨n - 1, by omega⟩
  obtain ⟨g1, g2, g3⟩ := h
  obtain ⟨c1, c2, c3, c4⟩ := hc
  obtain ⟨v, v1, v2⟩ := all_L0_rel (g := ruletree_stated (k + 1)) (m := k) (n := k) (c4.imp_mem fun a ha q hq => stated_rel d k k (k + 1) a q (g3 a ha) hq (by omega) (by omega) (by omega)) 0 0
  unfold Sm ref43_Valid ruletree_Valid
  rw [c1, c2]
  by_cases q1 : x.Kind = 1
  · by_cases q2 : x.Text = []
    · rw [if_pos (by simp [q1, q2]), if_neg (by simp [q1, q2]), hz, hm1, Option.bind_some, Option.bind_some, Option.bind_some]
      by_cases q3 : (cntN (d + 1) x : Int) ≤ 512
      · rw [if_pos (by simpa using q3), hp, Option.bind_some, Option.bind_some]
        by_cases q4 : (depN (d + 1) x : Int) ≤ 32
        · rw [if_pos (by simpa using q4), if_neg (by simp [q3, q4]), chk_bind (by simp only [szMax]; rw [c4.len]; omega), all_val (n := k) (by omega) v1, valid_L0_blocked y.Kids 0 0, v2, Option.bind_some, Option.bind_some]
          refine ⟨v, rfl, ?_⟩
          rw [Option.bind_some, gor_el, Bool.and_true]
        · rw [if_neg (by simpa using q4), if_pos (by simp; omega)]; exact ⟨false, rfl, rfl⟩
      · rw [if_neg (by simpa using q3), if_pos (by simp; omega)]; exact ⟨false, rfl, rfl⟩
    · rw [if_neg (by simp [q2]), if_pos (by simp [q2])]; exact ⟨false, rfl, rfl⟩
  · rw [if_neg (by simp [q1]), if_pos (by simp [q1])]; exact ⟨false, rfl, rfl⟩
end Rt
/- Ruletype: the checker as a plain function. -/
set_option linter.unusedVariables false
set_option linter.unusedSimpArgs false
open Go Go.SL Go.Proofs Pl
namespace Rt
/-! ### an error stays as it is -/
theorem fail_some {a e : Int} {x : M} {f : Err} : ruletype_checker_fail ⟨a, some e⟩ x f = some ⟨a, some e⟩ := rfl
theorem fail_new {a : Int} {x : M} {f : Err} : ruletype_checker_fail ⟨a, none⟩ x f = some ⟨x.Line, f⟩ := rfl
theorem cexpr_L0_same {f : Ck → M → List Bd → Option (Int × Ck)} {env : List Bd} {a e : Int} (hf : ∀ k r, f ⟨a, some e⟩ k env = some r → r.2 = ⟨a, some e⟩) : ∀ (l : List M) (i : Nat) (y : List Int) (r : Fl (Int × Ck) (List Int × Int × Err)), ruletype_checker_expr_L0 f env l i y a (some e) = some r →
    (∀ z, r = Fl.ret z → z.2 = ⟨a, some e⟩) ∧ ∀ z, r = Fl.go z → z.2.1 = a ∧ z.2.2 = some e
  | [], i, y, r, h => by
    cases h
    exact ⟨fun z q => (by cases q), fun z q => by cases q; exact ⟨rfl, rfl⟩⟩
  | k :: l, i, y, r, h => by
    rw [ruletype_checker_expr_L0] at h
    obtain ⟨x, hx, h1⟩ := bnd h
    obtain ⟨_, h2⟩ := chkb h1
    have hs := hf _ _ hx
    rw [hs, if_pos (by simp)] at h2
    cases h2
    exact ⟨fun z q2 => (by cases q2; rfl), fun z q => by cases q⟩
theorem call_same {a e : Int} {x : M} {l : List Int} {r : Int × Ck} (h : ruletype_checker_call ⟨a, some e⟩ x l = some r) : r.2 = ⟨a, some e⟩ := by
  unfold ruletype_checker_call at h
  obtain ⟨f, hf, h1⟩ := bnd h
  split at h1
  · rw [fail_some] at h1; cases h1; rfl
  · obtain ⟨b, hb, h2⟩ := bnd h1
    split at h2
    · rw [fail_some] at h2; cases h2; rfl
    · cases h2; rfl
theorem cexpr_same {env : List Bd} {a e : Int} : ∀ (n : Nat) (x : M) (r : Int × Ck), ruletype_checker_expr n ⟨a, some e⟩ x env = some r → r.2 = ⟨a, some e⟩
  | 0, x, r, h => by rw [ruletype_checker_expr] at h; cases h
  | n + 1, x, r, h => by
    rw [ruletype_checker_expr] at h
    obtain ⟨_, h1⟩ := chkb h
    obtain ⟨s, hs, h2⟩ := bnd h1
    obtain ⟨g1, g2⟩ := cexpr_L0_same (a := a) (e := e) (fun k r => cexpr_same n k r) x.Kids 0 [] s hs
    cases s with
    | ret z => rw [el_ret] at h2; cases h2; exact g1 _ rfl
    | go z =>
      obtain ⟨z1, z2, z3⟩ := z
      obtain ⟨k1, k2⟩ := g2 _ rfl
      simp only at k1 k2
      subst k1
      subst k2
      rw [el_go] at h2
      by_cases q20 : x.Kind = 20
      · rw [if_pos (by simpa using q20)] at h2; cases h2; rfl
      rw [if_neg (by simpa using q20)] at h2
      by_cases q21 : x.Kind = 21
      · rw [if_pos (by simpa using q21)] at h2; cases h2; rfl
      rw [if_neg (by simpa using q21)] at h2
      by_cases q22 : x.Kind = 22
      · rw [if_pos (by simpa using q22)] at h2; cases h2; rfl
      rw [if_neg (by simpa using q22)] at h2
      by_cases q23 : x.Kind = 23
      · rw [if_pos (by simpa using q23)] at h2
        obtain ⟨u, hu, h3⟩ := bnd h2
        split at h3
        · rw [fail_some] at h3; cases h3; rfl
        · cases h3; rfl
      rw [if_neg (by simpa using q23)] at h2
      by_cases q24 : x.Kind = 24
      · rw [if_pos (by simpa using q24)] at h2
        obtain ⟨u, hu, h3⟩ := bnd h2
        cases h3; exact call_same hu
      rw [if_neg (by simpa using q24)] at h2
      obtain ⟨u, hu, h3⟩ := bnd h2
      split at h3
      · rw [fail_some] at h3; cases h3; rfl
      · cases h3; rfl
theorem block_L0_same {n : Nat} {f : Ck → List M → List Bd → Option Ck} {a e : Int} : ∀ (l : List M) (i : Nat) (env : List Bd) (r : Fl Ck (List Bd × Int × Err)), ruletype_checker_block_L0 n f l i env a (some e) = some r →
    (∀ z, r = Fl.ret z → z = ⟨a, some e⟩) ∧ ∀ z, r = Fl.go z → z.2.1 = a ∧ z.2.2 = some e
  | [], i, env, r, h => by
    cases h
    exact ⟨fun z q => (by cases q), fun z q => by cases q; exact ⟨rfl, rfl⟩⟩
  | x :: l, i, env, r, h => by
    rw [ruletype_checker_block_L0] at h
    cases q : decide ((x.Kids.length : Int) = 0) with
    | true => rw [q, if_pos rfl] at h; exact block_L0_same l (i + 1) env r h
    | false =>
      rw [q, if_neg (by simp)] at h
      obtain ⟨k, hk, h1⟩ := bnd h
      obtain ⟨t, ht, h2⟩ := bnd h1
      obtain ⟨nd, _, h3⟩ := bnd h2
      have hs := cexpr_same n _ _ ht
      rw [hs, if_neg (by simp), if_pos (by simp)] at h3
      cases h3
      exact ⟨fun z q3 => (by cases q3; rfl), fun z q => by cases q⟩
theorem block_same : ∀ (n : Nat) (a e : Int) (l : List M) (env : List Bd) (r : Ck), ruletype_checker_block n ⟨a, some e⟩ l env = some r → r = ⟨a, some e⟩
  | 0, a, e, l, env, r, h => by rw [ruletype_checker_block] at h; cases h
  | n + 1, a, e, l, env, r, h => by
    rw [ruletype_checker_block] at h
    obtain ⟨_, h1⟩ := chkb h
    obtain ⟨s, hs, h2⟩ := bnd h1
    obtain ⟨g1, g2⟩ := block_L0_same l 0 env s hs
    cases s with
    | ret z => rw [el_ret] at h2; cases h2; exact g1 _ rfl
    | go z =>
      rw [el_go] at h2; cases h2
      obtain ⟨k1, k2⟩ := g2 z rfl
      rw [k1, k2]
/-! ### the plain function -/
abbrev Env := Str → Int
abbrev Fault := Int × Int
def base : Env := fun s => if pre s then 1 else 0
def ext (ρ : Env) (s : Str) (t : Int) : Env := fun q => if s = q then t else ρ q
def lkf (env : List Bd) : Env := fun s => lk s env
theorem lkf_nil : lkf [] = base := rfl
theorem lkf_snoc (env : List Bd) (s : Str) (t : Int) : lkf (env ++ [⟨s, t⟩]) = ext (lkf env) s t := by
  funext q; exact lk_snoc q env ⟨s, t⟩
def kidsE (f : M → Except Fault Int) : List M → Except Fault (List Int)
  | [] => .ok []
  | k :: l => match f k with
    | .error e => .error e
    | .ok t => match kidsE f l with
      | .error e => .error e
      | .ok ts => .ok (t :: ts)
noncomputable def fnc (s : Str) : Int × Int := (ruletype_function s).getD (0, 0)
noncomputable def opr (x : M) (ts : List Int) : Int := (ruletype_operator x ts).getD 0
noncomputable def tyN (ρ : Env) (x : M) (ts : List Int) : Except Fault Int :=
  if x.Kind = 20 then .ok 2
  else if x.Kind = 21 then .ok 1
  else if x.Kind = 22 then .ok 3
  else if x.Kind = 23 then (if ρ x.Text = 0 then .error (x.Line, 8) else .ok (ρ x.Text))
  else if x.Kind = 24 then (if (fnc x.Text).2 = 0 then .error (x.Line, 8) else if ts = [(fnc x.Text).1] then .ok (fnc x.Text).2 else .error (x.Line, 9))
  else if opr x ts = 0 then .error (x.Line, 9) else .ok (opr x ts)
noncomputable def tyE : Nat → Env → M → Except Fault Int
  | 0, _, _ => .error (0, 9)
  | d + 1, ρ, x => match kidsE (tyE d ρ) x.Kids with
    | .error e => .error e
    | .ok ts => tyN ρ x ts
theorem kidsE_len {f : M → Except Fault Int} : ∀ {l : List M} {ts : List Int}, kidsE f l = .ok ts → ts.length = l.length
  | [], ts, h => by cases h; rfl
  | k :: l, ts, h => by
    rw [kidsE] at h
    cases q : f k with
    | error e => rw [q] at h; cases h
    | ok t =>
      rw [q] at h
      simp only at h
      cases q2 : kidsE f l with
      | error e => rw [q2] at h; cases h
      | ok us => rw [q2] at h; cases h; simp [kidsE_len q2]
def Res (a : Int) (r : Except Fault Int) (t : Int) (c : Ck) : Prop := match r with
  | .ok v => t = v ∧ c = ⟨a, none⟩
  | .error e => c = ⟨e.1, some e.2⟩
theorem cexpr_L0_pure {f : Ck → M → List Bd → Option (Int × Ck)} {g : M → Except Fault Int} {env : List Bd} {a : Int} : ∀ (l : List M) (i : Nat) (y : List Int), (∀ k ∈ l, ∃ t c, f ⟨a, none⟩ k env = some (t, c) ∧ Res a (g k) t c) → y.length + l.length ≤ 1000 →
    ∃ r, ruletype_checker_expr_L0 f env l i y a none = some r ∧ match kidsE g l with
      | .ok ts => r = Fl.go (y ++ ts, a, none)
      | .error e => r = Fl.ret (0, ⟨e.1, some e.2⟩)
  | [], i, y, _, _ => ⟨_, rfl, by simp [kidsE]⟩
  | k :: l, i, y, h, hy => by
    simp only [List.length_cons] at hy
    obtain ⟨t, c, hr, hq⟩ := h k (by simp)
    rw [ruletype_checker_expr_L0, hr, Option.bind_some, chk_bind (by simp only [lim, List.length_cons, List.length_nil]; omega), kidsE]
    unfold Res at hq
    cases q : g k with
    | error e =>
      rw [q] at hq
      simp only at hq
      subst hq
      exact ⟨_, if_pos rfl, rfl⟩
    | ok v =>
      rw [q] at hq
      simp only at hq
      obtain ⟨rfl, rfl⟩ := hq
      simp only [Option.isSome_none, Bool.false_eq_true, if_false]
      obtain ⟨r, hr, h2⟩ := cexpr_L0_pure (f := f) (g := g) (env := env) (a := a) l (i + 1) (y ++ [t]) (fun k hk => h k (by simp [hk])) (by simp only [List.length_append, List.length_cons, List.length_nil]; omega)
      refine ⟨r, hr, ?_⟩
      cases q2 : kidsE g l with
      | error e => rw [q2] at h2; exact h2
      | ok ts => rw [q2] at h2; rw [h2]; simp
theorem fnc_eq (s : Str) : ruletype_function s = some (fnc s) := by
  obtain ⟨r, hr⟩ := function_ok s
  unfold fnc; rw [hr]; rfl
theorem opr_eq {x : M} {l : List Int} (h : l.length ≤ 1000) (h16 : x.Kind = 16 → l.length = 2) : ruletype_operator x l = some (opr x l) := by
  obtain ⟨r, hr⟩ := operator_ok h h16
  unfold opr; rw [hr]; rfl
theorem call_pure {a : Int} {x : M} {l : List Int} : ruletype_checker_call ⟨a, none⟩ x l = some ((fnc x.Text).2, if (fnc x.Text).2 = 0 then ⟨x.Line, some 8⟩ else if l = [(fnc x.Text).1] then ⟨a, none⟩ else ⟨x.Line, some 9⟩) := by
  unfold ruletype_checker_call
  rw [fnc_eq, Option.bind_some]
  by_cases q : (fnc x.Text).2 = 0
  · rw [if_pos (by simpa using q), fail_new, if_pos q]; rfl
  · rw [if_neg (by simpa using q), if_neg q]
    match l with
    | [] => rw [if_pos (by simp), Option.bind_some, if_pos rfl, fail_new, if_neg (by simp)]; rfl
    | [t] =>
      rw [if_neg (by simp), show ix [t] 0 = some t from rfl, Option.bind_some, Option.bind_some]
      by_cases q2 : t = (fnc x.Text).1
      · rw [if_neg (by simpa using q2), if_pos (by rw [q2])]
      · rw [if_pos (by simpa using q2), fail_new, if_neg (by simpa using q2)]; rfl
    | t :: u :: l => rw [if_pos (by simp; omega), Option.bind_some, if_pos rfl, fail_new, if_neg (by simp)]; rfl
theorem cexpr_pure {env : List Bd} (he : env.length ≤ 100000) {a : Int} : ∀ (d n m : Nat) (x : M), Ok d x → ruletree_expression m x = some true → d + 200000 ≤ n → ∃ t c, ruletype_checker_expr n ⟨a, none⟩ x env = some (t, c) ∧ Res a (tyE d (lkf env) x) t c
  | d + 1, 0, m, x, _, _, hn => by omega
  | d + 1, n + 1, m, x, h, hv, hn => by
    obtain ⟨h1, h2, h3⟩ := h
    obtain ⟨m', k, rfl, hk, k2, k3, k4⟩ := expression_inv hv
    obtain ⟨r, hr, hl⟩ := cexpr_L0_pure (f := ruletype_checker_expr n) (g := tyE d (lkf env)) (env := env) (a := a) x.Kids 0 [] (fun q hq => cexpr_pure he d n m' q (h3 q hq) (k4 q hq) (by omega)) (by simp <;> omega)
    rw [ruletype_checker_expr, chk_bind (by simp only [szMax]; omega), hr, Option.bind_some, tyE]
    cases q : kidsE (tyE d (lkf env)) x.Kids with
    | error e =>
      rw [q] at hl
      simp only at hl
      subst hl
      exact ⟨_, _, rfl, rfl⟩
    | ok ts =>
      rw [q] at hl
      simp only [List.nil_append] at hl
      subst hl
      have hlen := kidsE_len q
      simp only [el_go, tyN]
      by_cases q20 : x.Kind = 20
      · rw [if_pos (by simpa using q20), if_pos q20]; exact ⟨_, _, rfl, rfl, rfl⟩
      rw [if_neg (by simpa using q20), if_neg q20]
      by_cases q21 : x.Kind = 21
      · rw [if_pos (by simpa using q21), if_pos q21]; exact ⟨_, _, rfl, rfl, rfl⟩
      rw [if_neg (by simpa using q21), if_neg q21]
      by_cases q22 : x.Kind = 22
      · rw [if_pos (by simpa using q22), if_pos q22]; exact ⟨_, _, rfl, rfl, rfl⟩
      rw [if_neg (by simpa using q22), if_neg q22]
      by_cases q23 : x.Kind = 23
      · rw [if_pos (by simpa using q23), if_pos q23, lookup_eq he (by omega), Option.bind_some]
        by_cases q0 : lk x.Text env = 0
        · rw [if_pos (by simpa using q0), fail_new, Option.bind_some, if_pos (show lkf env x.Text = 0 from q0)]; exact ⟨_, _, rfl, rfl⟩
        · rw [if_neg (by simpa using q0), if_neg (show ¬ lkf env x.Text = 0 from q0)]; exact ⟨_, _, rfl, rfl, rfl⟩
      rw [if_neg (by simpa using q23), if_neg q23]
      by_cases q24 : x.Kind = 24
      · rw [if_pos (by simpa using q24), if_pos q24, call_pure, Option.bind_some]
        refine ⟨_, _, rfl, ?_⟩
        by_cases q0 : (fnc x.Text).2 = 0
        · rw [if_pos q0, if_pos q0]; rfl
        · rw [if_neg q0, if_neg q0]
          by_cases q1 : ts = [(fnc x.Text).1]
          · rw [if_pos q1, if_pos q1]; exact ⟨rfl, rfl⟩
          · rw [if_neg q1, if_neg q1]; rfl
      rw [if_neg (by simpa using q24), if_neg q24, opr_eq (by omega) fun h16 => by
        rcases operands_16 h16 hk with rfl | rfl
        · have := k3 (by omega); omega
        · exact absurd rfl k2]
      rw [Option.bind_some]
      by_cases q0 : opr x ts = 0
      · rw [if_pos (by simpa using q0), fail_new, Option.bind_some, if_pos q0]; exact ⟨_, _, rfl, rfl⟩
      · rw [if_neg (by simpa using q0), if_neg q0]; exact ⟨_, _, rfl, rfl, rfl⟩
/-! ### statements -/
def nds (k : Int) : Int := if k = 2 then 3 else if k = 4 then 1 else if k = 5 then 1 else if k = 7 then 1 else if k = 8 then 2 else if k = 9 then 2 else 0
theorem nds_eq (x : M) : ruletype_needs x = some (nds x.Kind) := by
  unfold ruletype_needs nds
  by_cases h1 : x.Kind = 2; · rw [if_pos (by simpa using h1), if_pos h1]
  rw [if_neg (by simpa using h1), if_neg h1]
  by_cases h2 : x.Kind = 4; · rw [if_pos (by simpa using h2), if_pos h2]
  rw [if_neg (by simpa using h2), if_neg h2]
  by_cases h3 : x.Kind = 5; · rw [if_pos (by simpa using h3), if_pos h3]
  rw [if_neg (by simpa using h3), if_neg h3]
  by_cases h4 : x.Kind = 7; · rw [if_pos (by simpa using h4), if_pos h4]
  rw [if_neg (by simpa using h4), if_neg h4]
  by_cases h5 : x.Kind = 8; · rw [if_pos (by simpa using h5), if_pos h5]
  rw [if_neg (by simpa using h5), if_neg h5]
  by_cases h6 : x.Kind = 9; · rw [if_pos (by simpa using h6), if_pos h6]
  rw [if_neg (by simpa using h6), if_neg h6]
def brn (k : M) : List M := if k.Kind = 12 then k.Kids else [k]
theorem brn_eq (k : M) : ruletype_branch k = some (brn k) := by
  unfold ruletype_branch brn
  by_cases h : k.Kind = 12
  · rw [if_pos (by simpa using h), if_pos h]
  · rw [if_neg (by simpa using h), if_neg h]
def foldS (g : Env → M → Except Fault Env) : Env → List M → Except Fault Env
  | ρ, [] => .ok ρ
  | ρ, x :: l => match g ρ x with
    | .error e => .error e
    | .ok ρ' => foldS g ρ' l
def brs (g : M → Except Fault Env) : List M → Option Fault
  | [] => none
  | k :: l => match g k with
    | .error e => some e
    | .ok _ => brs g l
noncomputable def stm : Nat → Env → M → Except Fault Env
  | 0, _, _ => .error (0, 9)
  | d + 1, ρ, x => match x.Kids with
    | [] => .ok ρ
    | k0 :: ks => match tyE d ρ k0 with
      | .error e => .error e
      | .ok t =>
        if nds x.Kind ≠ 0 ∧ t ≠ nds x.Kind then .error (x.Line, 9)
        else if x.Kind = 3 then (if ρ x.Text = 0 then .ok (ext ρ x.Text t) else .error (x.Line, 4))
        else if x.Kind = 2 then (match brs (fun k => foldS (stm d) ρ (brn k)) ks with
          | some e => .error e
          | none => .ok ρ)
        else .ok ρ
def fin (a : Int) (r : Except Fault Env) : Ck := match r with
  | .ok _ => ⟨a, none⟩
  | .error e => ⟨e.1, some e.2⟩
theorem L3_same {f : Ck → List M → List Bd → Option Ck} {env : List Bd} {a e : Int} (hs : ∀ l r, f ⟨a, some e⟩ l env = some r → r = ⟨a, some e⟩) : ∀ (l : List M) (i : Nat), (∀ k ∈ l, ∃ r, f ⟨a, some e⟩ (brn k) env = some r) → ruletype_checker_block_L3 f env l i a (some e) = some (a, some e)
  | [], i, _ => rfl
  | k :: l, i, h => by
    obtain ⟨r, hr⟩ := h k (by simp)
    have := hs _ _ hr
    rw [ruletype_checker_block_L3, brn_eq, Option.bind_some, hr, Option.bind_some, this]
    exact L3_same hs l (i + 1) fun q hq => h q (by simp [hq])
theorem L3_pure {f : Ck → List M → List Bd → Option Ck} {g : M → Except Fault Env} {env : List Bd} {a : Int} (hs : ∀ a e l r, f ⟨a, some e⟩ l env = some r → r = ⟨a, some e⟩) : ∀ (l : List M) (i : Nat), (∀ k ∈ l, f ⟨a, none⟩ (brn k) env = some (fin a (g k))) → (∀ k ∈ l, ∀ c, ∃ r, f c (brn k) env = some r) →
    ruletype_checker_block_L3 f env l i a none = some (match brs g l with
      | none => (a, none)
      | some e => (e.1, some e.2))
  | [], i, _, _ => rfl
  | k :: l, i, h, h' => by
    rw [ruletype_checker_block_L3, brn_eq, Option.bind_some, h k (by simp), Option.bind_some, brs]
    cases q : g k with
    | error e => exact L3_same (fun l r => hs _ _ l r) l (i + 1) fun q hq => h' q (by simp [hq]) _
    | ok ρ => exact L3_pure hs l (i + 1) (fun q hq => h q (by simp [hq])) fun q hq => h' q (by simp [hq])
theorem drop1 {α : Type} {x : α} {l : List α} : subL (x :: l) (1 : Int) (((x :: l).length : Nat) : Int) = l := by
  unfold subL
  rw [show ((1 : Int)).toNat = 1 from rfl, List.drop_succ_cons, List.drop_zero, List.take_of_length_le (by simp only [List.length_cons]; omega)]
set_option maxRecDepth 100000 in
theorem block_L0_pure {n d : Nat} {f : Ck → List M → List Bd → Option Ck} {a : Int} (hn : d + 200000 ≤ n)
    (hs : ∀ env a e l r, f ⟨a, some e⟩ l env = some r → r = ⟨a, some e⟩)
    (hf : ∀ (l : List M) (env : List Bd), (∀ x ∈ l, Gd d x) → l.length ≤ 700 → env.length + 701 * (d + 1) ≤ 90000 → f ⟨a, none⟩ l env = some (fin a (foldS (stm d) (lkf env) l)))
    (hx : ∀ (l : List M) (env : List Bd) (c : Ck), (∀ x ∈ l, Gd d x) → l.length ≤ 700 → env.length + 701 * (d + 1) ≤ 90000 → ∃ r, f c l env = some r) :
    ∀ (l : List M) (i : Nat) (env : List Bd), (∀ x ∈ l, Gd (d + 1) x) → env.length + l.length + 701 * (d + 1) ≤ 90000 →
      ∃ r, ruletype_checker_block_L0 n f l i env a none = some r ∧ match foldS (stm (d + 1)) (lkf env) l with
        | .ok ρ => ∃ env', r = Fl.go (env', a, none) ∧ lkf env' = ρ ∧ env'.length ≤ env.length + l.length
        | .error e => r = Fl.ret ⟨e.1, some e.2⟩
  | [], i, env, _, _ => ⟨_, rfl, env, rfl, rfl, by simp⟩
  | x :: l, i, env, hg, he => by
    simp only [List.length_cons] at he
    have hgl : ∀ x ∈ l, Gd (d + 1) x := fun q hq => hg q (by simp [hq])
    have rec_ : ∀ env', env'.length ≤ env.length + 1 → ∃ r, ruletype_checker_block_L0 n f l (i + 1) env' a none = some r ∧ match foldS (stm (d + 1)) (lkf env') l with
        | .ok ρ => ∃ env2, r = Fl.go (env2, a, none) ∧ lkf env2 = ρ ∧ env2.length ≤ env.length + (l.length + 1)
        | .error e => r = Fl.ret ⟨e.1, some e.2⟩ := fun env' h1 => by
      obtain ⟨r, hr, h2⟩ := block_L0_pure hn hs hf hx l (i + 1) env' hgl (by omega)
      refine ⟨r, hr, ?_⟩
      cases q : foldS (stm (d + 1)) (lkf env') l with
      | error e => rw [q] at h2; exact h2
      | ok ρ => rw [q] at h2; obtain ⟨e2, a1, a2, a3⟩ := h2; exact ⟨e2, a1, a2, by omega⟩
    obtain ⟨hok, m, hm⟩ := hg x (by simp)
    obtain ⟨m, rfl, hv0, hv2⟩ := stated_inv hm
    obtain ⟨o1, o2, o3⟩ := hok
    rw [ruletype_checker_block_L0, foldS]
    simp only [List.length_cons]
    cases hk : x.Kids with
    | nil =>
      rw [if_pos (by simp), stm, hk]
      exact rec_ env (by omega)
    | cons k0 ks =>
      have hk0 : k0 ∈ x.Kids := by rw [hk]; simp
      obtain ⟨t, c, ht, hR⟩ := cexpr_pure (env := env) (by omega) (a := a) d n m k0 (o3 k0 hk0) (hv0 k0 (by rw [hk]; rfl)) (by omega)
      rw [if_neg (by simp; omega), show ix (k0 :: ks) 0 = some k0 from rfl, Option.bind_some, ht, Option.bind_some, nds_eq, Option.bind_some, stm, hk]
      simp only
      unfold Res at hR
      cases q : tyE d (lkf env) k0 with
      | error e =>
        rw [q] at hR
        simp only at hR
        subst hR
        rw [if_neg (by simp), if_pos (by simp)]
        exact ⟨_, rfl, rfl⟩
      | ok v =>
        rw [q] at hR
        simp only at hR
        obtain ⟨rfl, rfl⟩ := hR
        simp only
        by_cases qn : nds x.Kind ≠ 0 ∧ t ≠ nds x.Kind
        · rw [if_pos (by simpa using qn), fail_new, Option.bind_some, if_pos (by simp), if_pos qn]
          exact ⟨_, rfl, rfl⟩
        · rw [if_neg (by simpa using qn), if_neg qn, if_neg (by simp)]
          by_cases q3 : x.Kind = 3
          · rw [if_pos (by simpa using q3), if_pos q3]
            unfold ruletype_declared
            rw [lookup_eq (by omega) (by omega), Option.bind_some, Option.bind_some, extended_eq (by omega)]
            by_cases q0 : lk x.Text env = 0
            · rw [if_neg (by simpa using q0), Option.bind_some, if_neg (by simp), if_pos (show lkf env x.Text = 0 from q0)]
              simp only
              rw [← lkf_snoc]
              exact rec_ _ (by simp)
            · rw [if_pos (by simpa using q0), fail_new, Option.bind_some, Option.bind_some, if_pos (by simp), if_neg (show ¬ lkf env x.Text = 0 from q0)]
              exact ⟨_, rfl, rfl⟩
          · rw [if_neg (by simpa using q3), if_neg q3]
            by_cases q2 : x.Kind = 2
            · obtain ⟨l2, hb⟩ := hv2 q2
              rw [hk] at l2 hb
              have hbr : ∀ k ∈ ks, (∀ q ∈ brn k, Gd d q) ∧ (brn k).length ≤ 700 := fun k hk1 => by
                have hk2 : k ∈ x.Kids := by rw [hk]; simp [hk1]
                obtain ⟨l', e1, e2, e3⟩ := branch_ok (o3 k hk2) ((hb k (by simpa using hk1)).imp (fun h => ⟨h.1, fun q hq => ⟨m, h.2 q hq⟩⟩) fun h => ⟨h.1, m, h.2⟩)
                rw [brn_eq] at e1
                cases e1
                exact ⟨e3, e2⟩
              have hkl : (k0 :: ks).length ≤ 700 := by rw [← hk]; exact o2
              rw [if_pos (by simpa using q2), if_pos q2, chk_bind (by simp only [List.length_cons] at l2 ⊢; omega), drop1, chk_bind (by simp only [szMax]; simp only [List.length_cons] at hkl; omega),
                L3_pure (g := fun k => foldS (stm d) (lkf env) (brn k)) (hs env) ks 0 (fun k hk1 => hf _ _ (hbr k hk1).1 (hbr k hk1).2 (by omega)) (fun k hk1 c => hx _ _ c (hbr k hk1).1 (hbr k hk1).2 (by omega)), Option.bind_some]
              cases brs (fun k => foldS (stm d) (lkf env) (brn k)) ks with
              | some e => rw [if_pos (by simp)]; exact ⟨_, rfl, rfl⟩
              | none => rw [if_neg (by simp)]; exact rec_ env (by omega)
            · rw [if_neg (by simpa using q2), if_neg q2, if_neg (by simp)]
              exact rec_ env (by omega)
set_option maxRecDepth 100000 in
theorem block_pure {a : Int} : ∀ (d n : Nat) (l : List M) (env : List Bd), (∀ x ∈ l, Gd d x) → l.length ≤ 700 → env.length + 701 * (d + 1) ≤ 90000 → d + 300000 ≤ n → ruletype_checker_block n ⟨a, none⟩ l env = some (fin a (foldS (stm d) (lkf env) l))
  | d, 0, l, env, _, _, _, hn => by omega
  | 0, n + 1, l, env, hg, hl, he, hn => by
    have : l = [] := by
      cases l with
      | nil => rfl
      | cons x l => exact (hg x (by simp)).1.elim
    subst this
    rw [ruletype_checker_block, chk_bind (by simp only [szMax]; simp)]; rfl
  | d + 1, n + 1, l, env, hg, hl, he, hn => by
    obtain ⟨r, hr, h2⟩ := block_L0_pure (n := n) (d := d) (a := a) (f := ruletype_checker_block n) (by omega) (fun env a e l r => block_same n a e l env r) (fun l' env' h1 h2 h3 => block_pure d n l' env' h1 h2 h3 (by omega)) (fun l' env' c' h1 h2 h3 => block_ok d n l' env' c' h1 h2 h3 (by omega)) l 0 env hg (by omega)
    rw [ruletype_checker_block, chk_bind (by simp only [szMax]; omega)]
    simp only
    rw [hr, Option.bind_some]
    cases q : foldS (stm (d + 1)) (lkf env) l with
    | error e => rw [q] at h2; simp only at h2; subst h2; rfl
    | ok ρ => rw [q] at h2; obtain ⟨e2, a1, a2, a3⟩ := h2; subst a1; rfl
noncomputable def chkR (d : Nat) (ys : List M) : Int × Err := match foldS (stm d) base ys with
  | .ok _ => (0, none)
  | .error e => (e.1, some e.2)
set_option maxRecDepth 100000 in
theorem Check_pure {n d : Nat} {y : M} {b : Bool} (h : Ok (d + 1) y) (hd : d ≤ 100) (hn : 400000 ≤ n) (hb : ruletree_Valid n y = some b) : ruletype_Check n y = some (if b = true then chkR d y.Kids else (0, some 2)) := by
  unfold ruletype_Check
  rw [hb, Option.bind_some]
  cases b with
  | false => rfl
  | true =>
    have hv := Valid_inv hb
    have := h.2.1
    rw [if_neg (by simp), block_pure d n y.Kids [] (fun k hk => ⟨h.2.2 k hk, n, hv k hk⟩) this (by simp only [List.length_nil]; omega) (by omega), Option.bind_some]
    unfold chkR
    rw [lkf_nil]
    cases foldS (stm d) base y.Kids <;> rfl
end Rt
/- Ruletype: programs of statements; codes of faults. -/
set_option linter.unusedVariables false
set_option linter.unusedSimpArgs false
open Go Go.SL Go.Proofs Pl
namespace Rt
theorem kidsE_err {f : M → Except Fault Int} {e : Fault} : ∀ {l : List M}, (∀ k ∈ l, ∀ e, f k = .error e → e.2 ≠ 0) → kidsE f l = .error e → e.2 ≠ 0
  | [], _, h => by cases h
  | k :: l, hf, h => by
    rw [kidsE] at h
    cases q : f k with
    | error e' => rw [q] at h; cases h; exact hf k (by simp) _ q
    | ok t =>
      rw [q] at h
      simp only at h
      cases q2 : kidsE f l with
      | error e' => rw [q2] at h; cases h; exact kidsE_err (fun k hk => hf k (by simp [hk])) q2
      | ok us => rw [q2] at h; cases h
theorem tyN_err {ρ : Env} {x : M} {ts : List Int} {e : Fault} (h : tyN ρ x ts = .error e) : e.2 ≠ 0 := by
  unfold tyN at h
  split at h; · cases h
  split at h; · cases h
  split at h; · cases h
  split at h
  · split at h
    · cases h; simp
    · cases h
  split at h
  · split at h
    · cases h; simp
    · split at h
      · cases h
      · cases h; simp
  split at h
  · cases h; simp
  · cases h
theorem tyE_err : ∀ {d : Nat} {ρ : Env} {x : M} {e : Fault}, tyE d ρ x = .error e → e.2 ≠ 0
  | 0, ρ, x, e, h => by rw [tyE] at h; cases h; simp
  | d + 1, ρ, x, e, h => by
    rw [tyE] at h
    cases q : kidsE (tyE d ρ) x.Kids with
    | error e' => rw [q] at h; cases h; exact kidsE_err (fun k _ e he => tyE_err he) q
    | ok ts => rw [q] at h; exact tyN_err h
/-! ### programs of statements -/
theorem num_eq (e : Err) : base_Num e = some (e.getD 0) := by cases e <;> rfl
theorem Valid_conv {d n : Nat} {x : N} {y : M} (h : OkN (d + 1) x) (hc : Cvd (d + 1) x y) (hn : d + 10002 ≤ n) (h1 : x.Kind = 1) (h2 : x.Text = []) (h3 : cntN (d + 1) x ≤ 512) (h4 : depN (d + 1) x ≤ 32) (h5 : ∀ k ∈ y.Kids, ruletree_stated n k = some true) : ruletree_Valid n y = some true := by
  obtain ⟨m, hm1, hm2⟩ := small_val (d + 1) n x y 512 32 h hc (by omega) (by omega) (by omega) (by omega) (by omega)
  obtain ⟨c1, c2, c3, c4⟩ := hc
  have all : ∀ (l : List M) (i : Nat), (∀ k ∈ l, ruletree_stated n k = some true) → ruletree_Valid_L0 n l i = some (Fl.go ()) := fun l => by
    induction l with
    | nil => exact fun i _ => rfl
    | cons k l ih =>
      intro i hk
      rw [ruletree_Valid_L0, hk k (by simp), Option.bind_some, if_neg (by simp)]
      exact ih _ fun q hq => hk q (by simp [hq])
  have hl := h.2.1
  unfold ruletree_Valid
  rw [hm1, c1, c2, if_neg (by simp [h1, h2]), Option.bind_some, if_neg (by simp; omega), chk_bind (by simp only [szMax]; rw [c4.len]; omega), all y.Kids 0 h5]; rfl
end Rt
/- Ruletype: the document's checker is the same plain function. -/
set_option linter.unusedVariables false
set_option linter.unusedSimpArgs false
open Go Go.SL Go.Proofs Pl
namespace Rt
/-! ### types are 1, 2, 3 -/
def Ty (t : Int) : Prop := t = 1 ∨ t = 2 ∨ t = 3
def Rg (ρ : Env) : Prop := ∀ s, ρ s = 0 ∨ Ty (ρ s)
theorem rg_base : Rg base := fun s => by
  unfold base
  split
  · right; left; rfl
  · left; rfl
theorem Rg.ext {ρ : Env} (h : Rg ρ) (s : Str) {t : Int} (ht : Ty t) : Rg (ext ρ s t) := fun q => by
  unfold Rt.ext
  split
  · exact .inr ht
  · exact h q
def QQ (o : Option Int) : Prop := ∀ t, o = some t → t = 0 ∨ Ty t
theorem QQ.ite {c : Bool} {a b : Option Int} (h1 : QQ a) (h2 : QQ b) : QQ (if c = true then a else b) := by cases c <;> assumption
theorem QQ.bind {α : Type} {o : Option α} {f : α → Option Int} (h : ∀ a, QQ (f a)) : QQ (o.bind f) := fun t ht => by
  cases o with
  | none => cases ht
  | some a => exact h a t ht
theorem QQ.z : QQ (some 0) := fun t h => by cases h; exact .inl rfl
theorem QQ.t1 : QQ (some 1) := fun t h => by cases h; exact .inr (.inl rfl)
theorem QQ.t2 : QQ (some 2) := fun t h => by cases h; exact .inr (.inr (.inl rfl))
theorem QQ.t3 : QQ (some 3) := fun t h => by cases h; exact .inr (.inr (.inr rfl))
theorem opr_rg (x : M) (l : List Int) : opr x l = 0 ∨ Ty (opr x l) := by
  have : QQ (ruletype_operator x l) := by
    unfold ruletype_operator
    refine .ite (.bind fun _ => .ite .t1 (.bind fun _ => .ite .t2 .z)) ?_
    refine .ite (.bind fun _ => .ite .t2 .z) ?_
    refine .ite (.bind fun _ => .ite .t2 .z) ?_
    refine .ite (.bind fun _ => .ite .t3 .z) ?_
    refine .ite (.bind fun _ => .ite .t3 .z) ?_
    refine .ite (.bind fun _ => .ite .t3 .z) ?_
    refine .ite ?_ .z
    refine .ite (.bind fun _ => .bind fun _ => .ite .t3 .z) ?_
    refine .ite (.bind fun _ => .bind fun _ => .ite .t3 .z) ?_
    refine .ite (.bind fun _ => .ite .t3 .z) ?_
    refine .ite (.bind fun _ => .ite .t3 .z) ?_
    exact .bind fun _ => .ite .t3 .z
  unfold opr
  cases q : ruletype_operator x l with
  | none => exact .inl rfl
  | some t => exact this t q
theorem fnc_ty (s : Str) : (fnc s).2 = 0 ∨ Ty (fnc s).2 := by
  have key : ∀ p, ruletype_function s = some p → p.2 = 0 ∨ Ty p.2 := fun p h => by
    unfold ruletype_function at h
    have st : ∀ {c : Bool} {a b : Int} {A : Option (Int × Int)}, Ty b → (if c = true then some (a, b) else A) = some p → (A = some p → p.2 = 0 ∨ Ty p.2) → p.2 = 0 ∨ Ty p.2 := fun {c a b A} ht h hA => by
      cases c with
      | false => exact hA h
      | true => cases h; exact .inr ht
    refine st (.inl rfl) h fun h => ?_
    refine st (.inl rfl) h fun h => ?_
    refine st (.inl rfl) h fun h => ?_
    refine st (.inr (.inr rfl)) h fun h => ?_
    refine st (.inr (.inl rfl)) h fun h => ?_
    refine st (.inr (.inl rfl)) h fun h => ?_
    refine st (.inl rfl) h fun h => ?_
    refine st (.inl rfl) h fun h => ?_
    cases h
    exact .inl rfl
  exact key _ (fnc_eq s)
theorem tyN_rg {ρ : Env} {x : M} {ts : List Int} {t : Int} (h : Rg ρ) (ht : tyN ρ x ts = .ok t) : Ty t := by
  unfold tyN at ht
  split at ht; · cases ht; right; left; rfl
  split at ht; · cases ht; left; rfl
  split at ht; · cases ht; right; right; rfl
  split at ht
  · split at ht
    · cases ht
    · cases ht; rename_i q; exact (h x.Text).resolve_left q
  split at ht
  · split at ht
    · cases ht
    · rename_i q
      split at ht
      · cases ht; exact (fnc_ty x.Text).resolve_left q
      · cases ht
  split at ht
  · cases ht
  · rename_i q
    cases ht; exact (opr_rg x ts).resolve_left q
theorem tyE_rg {d : Nat} {ρ : Env} {x : M} {t : Int} (h : Rg ρ) (ht : tyE d ρ x = .ok t) : Ty t := by
  cases d with
  | zero => rw [tyE] at ht; cases ht
  | succ d =>
    rw [tyE] at ht
    split at ht
    · cases ht
    · exact tyN_rg h ht
/-! ### operators -/
end Rt
/- Ruletype: the document's checker on expressions and statements. -/
set_option linter.unusedVariables false
set_option linter.unusedSimpArgs false
open Go Go.SL Go.Proofs Pl
namespace Rt
theorem tyN_op {ρ : Env} {y : M} {ts : List Int} (h20 : y.Kind ≠ 20) (h21 : y.Kind ≠ 21) (h22 : y.Kind ≠ 22) (h23 : y.Kind ≠ 23) (h24 : y.Kind ≠ 24) : tyN ρ y ts = if opr y ts = 0 then .error (y.Line, 9) else .ok (opr y ts) := by
  unfold tyN
  rw [if_neg h20, if_neg h21, if_neg h22, if_neg h23, if_neg h24]
/-! ### statements -/
end Rt
/- Ruletype: the steps of expressions, in both. -/
set_option linter.unusedVariables false
set_option linter.unusedSimpArgs false
open Go Go.SL Go.Proofs Pl
namespace Rt
/-! ### the document's steps -/
end Rt
