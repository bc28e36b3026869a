/- Ruletype: the lexer's functions return. -/
import Derived.Test.YtdnelkmckpapgaaDoorR
import Derived.Test.YtdnelkmckpapgaaDoorPlain
set_option linter.unusedVariables false
set_option linter.unusedSimpArgs false
open Go Go.SL Go.Proofs Pl
namespace Rt
theorem el_go {ρ σ γ : Type} {y : σ} {f : ρ → Option γ} {g : σ → Option γ} : (Fl.go y : Fl ρ σ).el f g = g y := rfl
theorem el_ret {ρ σ γ : Type} {y : ρ} {f : ρ → Option γ} {g : σ → Option γ} : (Fl.ret y : Fl ρ σ).el f g = f y := rfl
theorem ix_ok {α : Type} {s : List α} {i : Int} (h0 : 0 ≤ i) (h1 : i < (s.length : Int)) : ∃ x, ix s i = some x := by
  unfold ix
  rw [if_pos h0]
  exact ⟨s[i.toNat]'(by omega), List.getElem?_eq_getElem (by omega)⟩
theorem ite_ex {α : Type} {b : Bool} {x y : Option α} (h1 : b = true → ∃ r, x = some r) (h2 : b = false → ∃ r, y = some r) : ∃ r, (if b = true then x else y) = some r := by
  cases b with
  | true => exact h1 rfl
  | false => exact h2 rfl
theorem quote_L0 : ∀ (s : Str) (i : Nat) (y : Str), y.length + 2 * s.length ≤ 1000000 → ∃ r, rulelex_Quote_L0 s i y = some r ∧ ∀ z, r = Fl.go z → z.length ≤ 1000000
  | [], i, y, h => ⟨_, rfl, fun z e => by cases e; simpa using h⟩
  | c :: s, i, y, h => by
    simp only [List.length_cons] at h
    rw [rulelex_Quote_L0]
    have e1 : ∃ b, (if decide ((c.toNat : Int) < 32) = true then some true else some (decide ((c.toNat : Int) > 126))) = some b := ite_ex (fun _ => ⟨_, rfl⟩) (fun _ => ⟨_, rfl⟩)
    obtain ⟨b, hb⟩ := e1
    rw [hb, Option.bind_some]
    cases b with
    | true => exact ⟨_, if_pos rfl, fun z e => by cases e⟩
    | false =>
      rw [if_neg (by simp)]
      have e2 : ∃ b, (if decide ((c.toNat : Int) = 34) = true then some true else some (decide ((c.toNat : Int) = 92))) = some b := ite_ex (fun _ => ⟨_, rfl⟩) (fun _ => ⟨_, rfl⟩)
      obtain ⟨d, hd⟩ := e2
      rw [hd, Option.bind_some]
      cases d with
      | true =>
        rw [if_pos rfl, chk_bind (by simp only [lim, List.length_cons, List.length_nil]; omega), chk_bind (by simp only [lim, List.length_append, List.length_cons, List.length_nil]; omega)]
        exact quote_L0 s (i + 1) _ (by simp only [List.length_append, List.length_cons, List.length_nil]; omega)
      | false =>
        rw [if_neg (by simp), chk_bind (by simp only [lim, List.length_cons, List.length_nil]; omega)]
        exact quote_L0 s (i + 1) _ (by simp only [List.length_append, List.length_cons, List.length_nil]; omega)
theorem printable_ok {s : Str} (h : s.length ≤ 3000) : ∃ b, ruletree_printable s = some b := by
  obtain ⟨r, hr, hl⟩ := quote_L0 s 0 [34] (by simp <;> omega)
  unfold ruletree_printable rulelex_Quote
  rw [chk_bind (by simp only [szMax]; omega), hr, Option.bind_some]
  cases r with
  | ret z => rw [el_ret]; exact ⟨_, rfl⟩
  | go z =>
    have := hl z rfl
    rw [el_go, chk_bind (by simp only [lim, List.length_cons, List.length_nil]; omega)]; exact ⟨_, rfl⟩
theorem quoted_L0 {s : Str} (hs : s.length ≤ 5000) : ∀ (n : Nat) (y : Str) (i : Int), 0 ≤ i → i ≤ (s.length : Int) → (s.length : Int) - i < n → (y.length : Int) + (s.length - i) ≤ 100000 → ∃ r, rulelex_quoted_L0 s n y i = some r ∧ ∀ a b, r = Fl.ret (a, b) → a = 0 ∨ (0 < a ∧ a ≤ (s.length : Int))
  | 0, y, i, h0, h3, h1, h2 => by omega
  | n + 1, y, i, h0, h3, h1, h2 => by
    rw [rulelex_quoted_L0]
    by_cases hi : i < (s.length : Int)
    · obtain ⟨c, hc⟩ := ix_ok h0 hi
      rw [if_pos (by simpa using hi), hc, Option.bind_some]
      by_cases q : (c.toNat : Int) = 34
      · rw [if_pos (by simpa using q), chk_bind (by constructor <;> omega)]
        exact ⟨_, rfl, fun a b e => by cases e; right; omega⟩
      · rw [if_neg (by simpa using q)]
        by_cases q2 : (c.toNat : Int) = 92
        · rw [if_pos (by simpa using q2), chk_bind (by constructor <;> omega)]
          by_cases q3 : i + 1 = (s.length : Int)
          · rw [if_pos (by simpa using q3)]; exact ⟨_, rfl, fun a b e => by cases e; left; rfl⟩
          · obtain ⟨d, hd⟩ := ix_ok (s := s) (i := i + 1) (by omega) (by omega)
            rw [if_neg (by simpa using q3), hd, Option.bind_some]
            have e2 : ∃ b, (if decide ((d.toNat : Int) ≠ 34) = true then (some d).bind fun x40 => some (decide ((x40.toNat : Int) ≠ 92)) else some false) = some b := ite_ex (fun _ => ⟨_, rfl⟩) (fun _ => ⟨_, rfl⟩)
            obtain ⟨b, hb⟩ := e2
            rw [hb, Option.bind_some]
            cases b with
            | true => exact ⟨_, if_pos rfl, fun a b e => by cases e; left; rfl⟩
            | false =>
              rw [if_neg (by simp), Option.bind_some, chk_bind (by simp only [lim, List.length_cons, List.length_nil]; omega), chk_bind (by constructor <;> omega)]
              exact quoted_L0 hs n _ _ (by omega) (by omega) (by omega) (by simp only [List.length_append, List.length_cons, List.length_nil]; omega)
        · rw [if_neg (by simpa using q2)]
          refine (fun (h : ∀ b : Bool, b = (decide ((c.toNat : Int) < 32) || decide ((c.toNat : Int) > 126)) → _) => h _ rfl) fun b hb => ?_
          rw [← hb]
          cases b with
          | true => exact ⟨_, if_pos rfl, fun a b e => by cases e; left; rfl⟩
          | false =>
            rw [if_neg (by simp), chk_bind (by simp only [lim, List.length_cons, List.length_nil]; omega), chk_bind (by constructor <;> omega)]
            exact quoted_L0 hs n _ _ (by omega) (by omega) (by omega) (by simp only [List.length_append, List.length_cons, List.length_nil]; omega)
    · rw [if_neg (by simpa using hi)]; exact ⟨_, rfl, fun a b e => by cases e⟩
theorem token_L1 {s : Str} (hs : s.length ≤ 5000) : ∀ (n : Nat) (i : Int), 0 < i → i ≤ (s.length : Int) → (s.length : Int) - i < n → ∃ r, rulelex_token_L1 s n i = some r ∧ 0 < r ∧ r ≤ (s.length : Int)
  | 0, i, h0, h1, h2 => by omega
  | n + 1, i, h0, h1, h2 => by
    rw [rulelex_token_L1]
    by_cases hi : i < (s.length : Int)
    · obtain ⟨c, hc⟩ := ix_ok (by omega) hi
      rw [if_pos (by simpa using hi), hc, Option.bind_some]
      unfold rulelex_letter rulelex_digit
      rw [Option.bind_some]
      have e : ∀ b : Bool, ∃ d, (if b = true then some true else (some c).bind fun x28 => (some (decide ((x28.toNat : Int) ≥ 48) && decide ((x28.toNat : Int) ≤ 57))).bind fun x29 => some x29) = some d := fun b => ite_ex (fun _ => ⟨_, rfl⟩) (fun _ => ⟨_, rfl⟩)
      obtain ⟨d, hd⟩ := e _
      rw [hd, Option.bind_some]
      cases d with
      | true => rw [if_pos rfl, chk_bind (by constructor <;> omega)]; exact token_L1 hs n (i + 1) (by omega) (by omega) (by omega)
      | false => exact ⟨i, if_neg (by simp), h0, h1⟩
    · exact ⟨i, if_neg (by simpa using hi), h0, h1⟩
theorem token_L3 {s : Str} (hs : s.length ≤ 5000) : ∀ (n : Nat) (i : Int), 0 < i → i ≤ (s.length : Int) → (s.length : Int) - i < n → ∃ r, rulelex_token_L3 s n i = some r ∧ 0 < r ∧ r ≤ (s.length : Int)
  | 0, i, h0, h1, h2 => by omega
  | n + 1, i, h0, h1, h2 => by
    rw [rulelex_token_L3]
    by_cases hi : i < (s.length : Int)
    · obtain ⟨c, hc⟩ := ix_ok (by omega) hi
      rw [if_pos (by simpa using hi), hc, Option.bind_some]
      unfold rulelex_digit
      rw [Option.bind_some, Option.bind_some]
      refine (fun (h : ∀ b : Bool, b = (decide ((c.toNat : Int) ≥ 48) && decide ((c.toNat : Int) ≤ 57)) → _) => h _ rfl) fun b hb => ?_
      rw [← hb]
      cases b with
      | true => rw [if_pos rfl, chk_bind (by constructor <;> omega)]; exact token_L3 hs n (i + 1) (by omega) (by omega) (by omega)
      | false => exact ⟨i, if_neg (by simp), h0, h1⟩
    · rw [if_neg (by simpa using hi), Option.bind_some]
      exact ⟨i, if_neg (by simp), h0, h1⟩
theorem prefix_ok (s p : Str) : strings_HasPrefix s p = some (decide ((s.length : Int) ≥ (p.length : Int)) && decide (subL s (0 : Int) (p.length : Int) = p)) := by
  unfold strings_HasPrefix internal_stringslite_HasPrefix
  by_cases h : (s.length : Int) ≥ (p.length : Int)
  · rw [if_pos (by simpa using h), chk_bind (by omega)]; simp [h]
  · rw [if_neg (by simpa using h)]
    have : ¬ p.length ≤ s.length := by omega
    simp [this]
theorem token_L5 {s : Str} : ∀ (k i : Nat), i + k = 14 → ∃ r, rulelex_token_L5 s k i = some r ∧ ∀ a b c, r = Fl.ret (a, b, c) → 0 ≤ b ∧ b ≤ (s.length : Int)
  | 0, i, h => ⟨_, rfl, fun a b c e => by cases e⟩
  | k + 1, i, h => by
    rw [rulelex_token_L5]
    obtain ⟨p, hp⟩ := ix_ok (s := ([([61, 61] : Str), ([33, 61] : Str), ([60, 61] : Str), ([60] : Str), ([43] : Str), ([45] : Str), ([42] : Str), ([40] : Str), ([41] : Str), ([123] : Str), ([125] : Str), ([44] : Str), ([59] : Str), ([61] : Str)])) (i := (i : Int)) (by omega) (by simp; omega)
    rw [hp, Option.bind_some, prefix_ok, Option.bind_some]
    by_cases q : (decide ((s.length : Int) ≥ (p.length : Int)) && decide (subL s (0 : Int) (p.length : Int) = p)) = true
    · rw [if_pos q]
      simp only [Bool.and_eq_true, decide_eq_true_eq] at q
      exact ⟨_, rfl, fun a b c e => by cases e; omega⟩
    · rw [if_neg q]; exact token_L5 k (i + 1) (by omega)
theorem token_ok {n : Nat} {s : Str} (hn : 10000 ≤ n) (h0 : 0 < s.length) (hs : s.length ≤ 5000) : ∃ a b c, rulelex_token n s = some (a, b, c) ∧ 0 ≤ b ∧ b ≤ (s.length : Int) := by
  unfold rulelex_token
  obtain ⟨c, hc⟩ := ix_ok (s := s) (i := 0) (by omega) (by omega)
  rw [hc, Option.bind_some]
  unfold rulelex_letter
  rw [Option.bind_some]
  split
  · obtain ⟨r, hr, h1, h2⟩ := token_L1 hs n 1 (by omega) (by omega) (by omega)
    rw [hr, Option.bind_some, chk_bind (by omega)]
    exact ⟨_, _, _, rfl, by omega, h2⟩
  · unfold rulelex_digit
    rw [Option.bind_some]
    split
    · obtain ⟨r, hr, h1, h2⟩ := token_L3 hs n 1 (by omega) (by omega) (by omega)
      rw [hr, Option.bind_some]
      split
      · exact ⟨_, _, _, rfl, by omega, by omega⟩
      · rw [chk_bind (by omega)]; exact ⟨_, _, _, rfl, by omega, h2⟩
    · split
      · unfold rulelex_quoted
        obtain ⟨r, hr, h1⟩ := quoted_L0 hs n [] 1 (by omega) (by omega) (by omega) (by simp; omega)
        rw [hr, Option.bind_some]
        cases r with
        | ret z =>
          obtain ⟨a, b⟩ := z
          rw [el_ret, Option.bind_some]
          have := h1 a b rfl
          exact ⟨_, _, _, rfl, by omega, by omega⟩
        | go z => rw [el_go, Option.bind_some]; exact ⟨_, _, _, rfl, by omega, by omega⟩
      · obtain ⟨r, hr, h1⟩ := token_L5 (s := s) 14 0 rfl
        rw [chk_bind (by constructor <;> omega), show ((14 : Int)).toNat = 14 from rfl, hr, Option.bind_some]
        cases r with
        | ret z =>
          obtain ⟨a, b, c⟩ := z
          have := h1 a b c rfl
          exact ⟨_, _, _, rfl, this.1, this.2⟩
        | go z => exact ⟨_, _, _, rfl, by omega, by omega⟩
theorem split_L3 {s : Str} (hs : s.length ≤ 5000) : ∀ (n : Nat) (i : Int), 0 ≤ i → i ≤ (s.length : Int) → (s.length : Int) - i < n → ∃ r, rulelex_Split_L3 s n i = some r ∧ i ≤ r ∧ r ≤ (s.length : Int) ∧ (∀ c, ix s i = some c → (c.toNat : Int) ≠ 10 → i < r)
  | 0, i, h0, h1, h2 => by omega
  | n + 1, i, h0, h1, h2 => by
    rw [rulelex_Split_L3]
    by_cases hi : i < (s.length : Int)
    · obtain ⟨c, hc⟩ := ix_ok h0 hi
      rw [if_pos (by simpa using hi), hc, Option.bind_some, Option.bind_some]
      by_cases q : (c.toNat : Int) = 10
      · exact ⟨i, if_neg (by simpa using q), by omega, h1, fun d e => by cases e; exact fun h => absurd q h⟩
      · obtain ⟨r, hr, h3, h4, _⟩ := split_L3 hs n (i + 1) (by omega) (by omega) (by omega)
        rw [if_pos (by simpa using q), chk_bind (by constructor <;> omega)]
        exact ⟨r, hr, by omega, h4, fun _ _ _ => by omega⟩
    · rw [if_neg (by simpa using hi), Option.bind_some]
      refine ⟨i, if_neg (by simp), by omega, h1, fun c e => ?_⟩
      unfold ix at e
      rw [if_pos h0, List.getElem?_eq_none (by omega)] at e; cases e
theorem split_L0 {s : Str} {m : Nat} (hm : 10000 ≤ m) (hs : s.length ≤ 5000) : ∀ (n : Nat) (y : List S_rulelex_Token) (a b i : Int), 0 ≤ i → i ≤ (s.length : Int) → (s.length : Int) - i < n → (y.length : Int) + (s.length - i) ≤ 100000 → 0 ≤ a → a + (s.length - i) ≤ 100000 → 0 ≤ b → b ≤ i →
    ∃ r, rulelex_Split_L0 s m n y a b i = some r ∧ ∀ p q u v, r = Fl.go (p, q, u, v) → p.length ≤ 100000 ∧ 0 ≤ u ∧ u ≤ (s.length : Int)
  | 0, y, a, b, i, h0, h1, h2, h3, h4, h5, h6, h7 => by omega
  | n + 1, y, a, b, i, h0, h1, h2, h3, h4, h5, h6, h7 => by
    rw [rulelex_Split_L0]
    by_cases hi : i < (s.length : Int)
    · obtain ⟨c, hc⟩ := ix_ok h0 hi
      rw [if_pos (by simpa using hi), hc, Option.bind_some]
      split
      · rw [chk_bind (by constructor <;> omega), chk_bind (by constructor <;> omega)]
        exact split_L0 hm hs n _ _ _ _ (by omega) (by omega) (by omega) (by omega) (by omega) (by omega) (by omega) (by omega)
      · rename_i h10
        split
        · rw [chk_bind (by constructor <;> omega)]
          exact split_L0 hm hs n _ _ _ _ (by omega) (by omega) (by omega) (by omega) (by omega) (by omega) (by omega) (by omega)
        · split
          · rw [chk_bind (by constructor <;> omega)]
            exact split_L0 hm hs n _ _ _ _ (by omega) (by omega) (by omega) (by omega) (by omega) (by omega) (by omega) (by omega)
          · split
            · rw [chk_bind (by constructor <;> omega)]
              exact split_L0 hm hs n _ _ _ _ (by omega) (by omega) (by omega) (by omega) (by omega) (by omega) (by omega) (by omega)
            · split
              · obtain ⟨r, hr, g1, g2, g3⟩ := split_L3 hs m i h0 h1 (by omega)
                have := g3 c hc (by simpa using h10)
                rw [hr, Option.bind_some]
                exact split_L0 hm hs n _ _ _ _ (by omega) (by omega) (by omega) (by omega) (by omega) (by omega) (by omega) (by omega)
              · have hsl : (subL s i (s.length : Int)).length = s.length - i.toNat := by
                  unfold subL
                  rw [List.length_take, List.length_drop]; omega
                rw [chk_bind (by omega)]
                obtain ⟨u, v, w, hr, g1, g2⟩ := token_ok (n := m) (s := subL s i (s.length : Int)) hm (by omega) (by omega)
                rw [hr, Option.bind_some]
                split
                · exact ⟨_, rfl, fun p q u v e => by cases e⟩
                · rename_i hz
                  have hz' : v ≠ 0 := by simpa using hz
                  rw [chk_bind (by constructor <;> omega), chk_bind (by constructor <;> omega), chk_bind (by simp only [lim, List.length_cons, List.length_nil]; omega), chk_bind (by constructor <;> simp only <;> omega)]
                  exact split_L0 hm hs n _ _ _ _ (by simp only; omega) (by simp only; omega) (by simp only; omega) (by simp only [List.length_append, List.length_cons, List.length_nil]; omega) (by omega) (by simp only; omega) (by omega) (by simp only; omega)
    · rw [if_neg (by simpa using hi)]
      exact ⟨_, rfl, fun p q u v e => by cases e; omega⟩
theorem split_ok {n : Nat} {s : Str} (hn : 10000 ≤ n) : ∃ r, rulelex_Split n s = some r := by
  unfold rulelex_Split
  by_cases h : (s.length : Int) > 4096
  · exact ⟨_, if_pos (by simpa using h)⟩
  · obtain ⟨r, hr, h1⟩ := split_L0 hn (s := s) (by omega) n [] 1 0 0 (by omega) (by omega) (by omega) (by simp; omega) (by omega) (by omega) (by omega) (by omega)
    rw [if_neg (by simpa using h), hr, Option.bind_some]
    cases r with
    | ret z => rw [el_ret]; exact ⟨_, rfl⟩
    | go z =>
      obtain ⟨p, q, u, v⟩ := z
      obtain ⟨g1, g2, g3⟩ := h1 p q u v rfl
      rw [el_go, chk_bind (by constructor <;> simp only <;> omega), chk_bind (by constructor <;> simp only <;> omega), chk_bind (by simp only [lim, List.length_cons, List.length_nil]; omega)]
      exact ⟨_, rfl⟩
theorem index_L0 (v : Str) : ∀ (l : List Str) (i : Nat), ∃ r, slices_Index_string_L0 v l i = some r
  | [], i => ⟨_, rfl⟩
  | x :: l, i => by
    rw [slices_Index_string_L0]
    exact ite_ex (fun _ => ⟨_, rfl⟩) (fun _ => index_L0 v l (i + 1))
theorem keyword_ok (s : Str) : ∃ b, rulelex_Keyword s = some b := by
  obtain ⟨r, hr⟩ := index_L0 s gkw0 0
  unfold rulelex_Keyword slices_Contains_string slices_Index_string
  rw [chk_bind (by decide), hr, Option.bind_some]
  cases r <;> exact ⟨_, rfl⟩
theorem bind_ex {α β : Type} {o : Option α} {f : α → Option β} (h1 : ∃ a, o = some a) (h2 : ∀ a, o = some a → ∃ r, f a = some r) : ∃ r, o.bind f = some r := by
  obtain ⟨a, ha⟩ := h1
  rw [ha, Option.bind_some]; exact h2 a ha
theorem named_ok {n : Nat} (hn : 10000 ≤ n) (s : Str) : ∃ b, ruletree_named n s = some b := by
  unfold ruletree_named
  refine bind_ex (split_ok hn) fun r _ => ?_
  refine bind_ex (ite_ex (fun h => ?_) fun _ => ⟨_, rfl⟩) fun b hb => ?_
  · simp only [Bool.and_eq_true, decide_eq_true_eq] at h
    exact bind_ex (ix_ok (by omega) (by omega)) fun _ _ => ⟨_, rfl⟩
  · refine bind_ex (ite_ex (fun h => ?_) fun _ => ⟨_, rfl⟩) fun d hd => ?_
    · subst h
      cases q : (r.2.isNone && decide ((r.1.length : Int) = 2)) with
      | false => rw [q, if_neg (by simp)] at hb; cases hb
      | true =>
        simp only [Bool.and_eq_true, decide_eq_true_eq] at q
        exact bind_ex (ix_ok (by omega) (by omega)) fun _ _ => ⟨_, rfl⟩
    · refine bind_ex (ite_ex (fun h => bind_ex (keyword_ok s) fun _ _ => ⟨_, rfl⟩) fun _ => ⟨_, rfl⟩) fun d hd => ⟨_, rfl⟩
theorem digits_L0 : ∀ (s : Str) (i : Nat), ∃ r, ruletree_digits_L0 s i = some r
  | [], i => ⟨_, rfl⟩
  | c :: s, i => by
    rw [ruletree_digits_L0]
    exact bind_ex (ite_ex (fun _ => ⟨_, rfl⟩) fun _ => ⟨_, rfl⟩) fun _ _ => ite_ex (fun _ => ⟨_, rfl⟩) fun _ => digits_L0 s (i + 1)
theorem digits_ok {s : Str} (h : s.length ≤ 3000) : ∃ b, ruletree_digits s = some b := by
  obtain ⟨r, hr⟩ := digits_L0 s 0
  unfold ruletree_digits
  rw [chk_bind (by simp only [szMax]; omega), hr, Option.bind_some]
  cases r <;> exact ⟨_, rfl⟩
theorem compares_ok (k : Int) (s : Str) : ∃ b, ruletree_compares k s = some b := by
  unfold ruletree_compares
  repeat (refine ite_ex (fun _ => ⟨_, rfl⟩) fun _ => ?_)
  exact ⟨_, rfl⟩
end Rt
