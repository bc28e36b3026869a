import Derived.Test.YtkpipkpdnbconaaGreatDoorR
import Derived.Test.YtkpipkpdnbconaaGreatDoorPlain
set_option linter.unusedVariables false
set_option linter.unusedSimpArgs false
open Go Go.SL Go.Proofs Pl
namespace Rt
theorem el_go {ρ σ γ : Type} {y : σ} {f : ρ → Option γ} {g : σ → Option γ} : (Fl.go y : Fl ρ σ).el f g = g y := rfl
theorem el_ret {ρ σ γ : Type} {y : ρ} {f : ρ → Option γ} {g : σ → Option γ} : (Fl.ret y : Fl ρ σ).el f g = f y := rfl
theorem ix_ok {α : Type} {s : List α} {i : Int} (h0 : 0 ≤ i) (h1 : i < (s.length : Int)) : ∃ x, ix s i = some x := by
 unfold ix
 rw [if_pos h0]
 exact ⟨s[i.toNat]'(by omega), List.getElem?_eq_getElem (by omega)⟩
theorem ite_ex {α : Type} {b : Bool} {x y : Option α} (h1 : b = true → ∃ r, x = some r) (h2 : b = false → ∃ r, y = some r) : ∃ r, (if b = true then x else y) = some r := by
 cases b with
 | true => exact h1 rfl
 | false => exact h2 rfl
theorem quote_L0 : ∀ (s : Str) (i : Nat) (y : Str), y.length + 2 * s.length ≤ 1000000 → ∃ r, Jai s i y = some r ∧ ∀ z, r = Fl.go z → z.length ≤ 1000000
 | [], i, y, h => ⟨_, rfl, fun z e => by cases e; simpa using h⟩
 | c :: s, i, y, h => by
  simp only [List.length_cons] at h
  rw [Jai]
  have e1 : ∃ b, (if decide ((c.toNat : Int) < 32) = true then some true else some (decide ((c.toNat : Int) > 126))) = some b := ite_ex (fun _ => ⟨_, rfl⟩) (fun _ => ⟨_, rfl⟩)
  obtain ⟨b, hb⟩ := e1
  rw [hb, Option.bind_some]
  cases b with
  | true => exact ⟨_, if_pos rfl, fun z e => by cases e⟩
  | false =>
   rw [if_neg (by simp)]
   have e2 : ∃ b, (if decide ((c.toNat : Int) = 34) = true then some true else some (decide ((c.toNat : Int) = 92))) = some b := ite_ex (fun _ => ⟨_, rfl⟩) (fun _ => ⟨_, rfl⟩)
   obtain ⟨d, hd⟩ := e2
   rw [hd, Option.bind_some]
   cases d with
   | true =>
    rw [if_pos rfl, chk_bind (by simp only [lim, List.length_cons, List.length_nil]; omega), chk_bind (by simp only [lim, List.length_append, List.length_cons, List.length_nil]; omega)]
    exact quote_L0 s (i + 1) _ (by simp only [List.length_append, List.length_cons, List.length_nil]; omega)
   | false =>
    rw [if_neg (by simp), chk_bind (by simp only [lim, List.length_cons, List.length_nil]; omega)]
    exact quote_L0 s (i + 1) _ (by simp only [List.length_append, List.length_cons, List.length_nil]; omega)
theorem printable_ok {s : Str} (h : s.length ≤ 3000) : ∃ b, Jag s = some b := by
 obtain ⟨r, hr, hl⟩ := quote_L0 s 0 [34] (by simp <;> omega)
 unfold Jag Jbh
 rw [chk_bind (by simp only [szMax]; omega), hr, Option.bind_some]
 cases r with
 | ret z => rw [el_ret]; exact ⟨_, rfl⟩
 | go z =>
  have := hl z rfl
  rw [el_go, chk_bind (by simp only [lim, List.length_cons, List.length_nil]; omega)]; exact ⟨_, rfl⟩
theorem quoted_L0 {s : Str} (hs : s.length ≤ 5000) : ∀ (n : Nat) (y : Str) (i : Int), 0 ≤ i → i ≤ (s.length : Int) → (s.length : Int) - i < n → (y.length : Int) + (s.length - i) ≤ 100000 → ∃ r, JaB s n y i = some r ∧ ∀ a b, r = Fl.ret (a, b) → a = 0 ∨ (0 < a ∧ a ≤ (s.length : Int))
 | 0, y, i, h0, h3, h1, h2 => by omega
 | n + 1, y, i, h0, h3, h1, h2 => by
  rw [JaB]
  by_cases hi : i < (s.length : Int)
  ·obtain ⟨c, hc⟩ := ix_ok h0 hi
   rw [if_pos (by simpa using hi), hc, Option.bind_some]
   by_cases q : (c.toNat : Int) = 34
   ·rw [if_pos (by simpa using q), chk_bind (by constructor <;> omega)]
    exact ⟨_, rfl, fun a b e => by cases e; right; omega⟩
   ·rw [if_neg (by simpa using q)]
    by_cases q2 : (c.toNat : Int) = 92
    ·rw [if_pos (by simpa using q2), chk_bind (by constructor <;> omega)]
     by_cases q3 : i + 1 = (s.length : Int)
     ·rw [if_pos (by simpa using q3)]; exact ⟨_, rfl, fun a b e => by cases e; left; rfl⟩
     ·obtain ⟨d, hd⟩ := ix_ok (s := s) (i := i + 1) (by omega) (by omega)
      rw [if_neg (by simpa using q3), hd, Option.bind_some]
      have e2 : ∃ b, (if decide ((d.toNat : Int) ≠ 34) = true then (some d).bind fun x40 => some (decide ((x40.toNat : Int) ≠ 92)) else some false) = some b := ite_ex (fun _ => ⟨_, rfl⟩) (fun _ => ⟨_, rfl⟩)
      obtain ⟨b, hb⟩ := e2
      rw [hb, Option.bind_some]
      cases b with
      | true => exact ⟨_, if_pos rfl, fun a b e => by cases e; left; rfl⟩
      | false =>
       rw [if_neg (by simp), Option.bind_some, chk_bind (by simp only [lim, List.length_cons, List.length_nil]; omega), chk_bind (by constructor <;> omega)]
       exact quoted_L0 hs n _ _ (by omega) (by omega) (by omega) (by simp only [List.length_append, List.length_cons, List.length_nil]; omega)
    ·rw [if_neg (by simpa using q2)]
     refine (fun (h : ∀ b : Bool, b = (decide ((c.toNat : Int) < 32) || decide ((c.toNat : Int) > 126)) → _) => h _ rfl) fun b hb => ?_
     rw [← hb]
     cases b with
     | true => exact ⟨_, if_pos rfl, fun a b e => by cases e; left; rfl⟩
     | false =>
      rw [if_neg (by simp), chk_bind (by simp only [lim, List.length_cons, List.length_nil]; omega), chk_bind (by constructor <;> omega)]
      exact quoted_L0 hs n _ _ (by omega) (by omega) (by omega) (by simp only [List.length_append, List.length_cons, List.length_nil]; omega)
  ·rw [if_neg (by simpa using hi)]; exact ⟨_, rfl, fun a b e => by cases e⟩
theorem token_L1 {s : Str} (hs : s.length ≤ 5000) : ∀ (n : Nat) (i : Int), 0 < i → i ≤ (s.length : Int) → (s.length : Int) - i < n → ∃ r, JaU s n i = some r ∧ 0 < r ∧ r ≤ (s.length : Int)
 | 0, i, h0, h1, h2 => by omega
 | n + 1, i, h0, h1, h2 => by
  rw [JaU]
  by_cases hi : i < (s.length : Int)
  ·obtain ⟨c, hc⟩ := ix_ok (by omega) hi
   rw [if_pos (by simpa using hi), hc, Option.bind_some]
   unfold Jbq Jbi
   rw [Option.bind_some]
   have e : ∀ b : Bool, ∃ d, (if b = true then some true else (some c).bind fun x28 => (some (decide ((x28.toNat : Int) ≥ 48) && decide ((x28.toNat : Int) ≤ 57))).bind fun x29 => some x29) = some d := fun b => ite_ex (fun _ => ⟨_, rfl⟩) (fun _ => ⟨_, rfl⟩)
   obtain ⟨d, hd⟩ := e _
   rw [hd, Option.bind_some]
   cases d with
   | true => rw [if_pos rfl, chk_bind (by constructor <;> omega)]; exact token_L1 hs n (i + 1) (by omega) (by omega) (by omega)
   | false => exact ⟨i, if_neg (by simp), h0, h1⟩
  ·exact ⟨i, if_neg (by simpa using hi), h0, h1⟩
theorem token_L3 {s : Str} (hs : s.length ≤ 5000) : ∀ (n : Nat) (i : Int), 0 < i → i ≤ (s.length : Int) → (s.length : Int) - i < n → ∃ r, JaV s n i = some r ∧ 0 < r ∧ r ≤ (s.length : Int)
 | 0, i, h0, h1, h2 => by omega
 | n + 1, i, h0, h1, h2 => by
  rw [JaV]
  by_cases hi : i < (s.length : Int)
  ·obtain ⟨c, hc⟩ := ix_ok (by omega) hi
   rw [if_pos (by simpa using hi), hc, Option.bind_some]
   unfold Jbi
   rw [Option.bind_some, Option.bind_some]
   refine (fun (h : ∀ b : Bool, b = (decide ((c.toNat : Int) ≥ 48) && decide ((c.toNat : Int) ≤ 57)) → _) => h _ rfl) fun b hb => ?_
   rw [← hb]
   cases b with
   | true => rw [if_pos rfl, chk_bind (by constructor <;> omega)]; exact token_L3 hs n (i + 1) (by omega) (by omega) (by omega)
   | false => exact ⟨i, if_neg (by simp), h0, h1⟩
  ·rw [if_neg (by simpa using hi), Option.bind_some]
   exact ⟨i, if_neg (by simp), h0, h1⟩
theorem prefix_ok (s p : Str) : Jbm s p = some (decide ((s.length : Int) ≥ (p.length : Int)) && decide (subL s (0 : Int) (p.length : Int) = p)) := by
 unfold Jbm J6
 by_cases h : (s.length : Int) ≥ (p.length : Int)
 ·rw [if_pos (by simpa using h), chk_bind (by omega)]; simp [h]
 ·rw [if_neg (by simpa using h)]
  have : ¬ p.length ≤ s.length := by omega
  simp [this]
theorem token_L5 {s : Str} : ∀ (k i : Nat), i + k = 14 → ∃ r, JaW s k i = some r ∧ ∀ a b c, r = Fl.ret (a, b, c) → 0 ≤ b ∧ b ≤ (s.length : Int)
 | 0, i, h => ⟨_, rfl, fun a b c e => by cases e⟩
 | k + 1, i, h => by
  rw [JaW]
  obtain ⟨p, hp⟩ := ix_ok (s := ([([61, 61] : Str), ([33, 61] : Str), ([60, 61] : Str), ([60] : Str), ([43] : Str), ([45] : Str), ([42] : Str), ([40] : Str), ([41] : Str), ([123] : Str), ([125] : Str), ([44] : Str), ([59] : Str), ([61] : Str)])) (i := (i : Int)) (by omega) (by simp; omega)
  rw [hp, Option.bind_some, prefix_ok, Option.bind_some]
  by_cases q : (decide ((s.length : Int) ≥ (p.length : Int)) && decide (subL s (0 : Int) (p.length : Int) = p)) = true
  ·rw [if_pos q]
   simp only [Bool.and_eq_true, decide_eq_true_eq] at q
   exact ⟨_, rfl, fun a b c e => by cases e; omega⟩
  ·rw [if_neg q]; exact token_L5 k (i + 1) (by omega)
theorem token_ok {n : Nat} {s : Str} (hn : 10000 ≤ n) (h0 : 0 < s.length) (hs : s.length ≤ 5000) : ∃ a b c, JbV n s = some (a, b, c) ∧ 0 ≤ b ∧ b ≤ (s.length : Int) := by
 unfold JbV
 obtain ⟨c, hc⟩ := ix_ok (s := s) (i := 0) (by omega) (by omega)
 rw [hc, Option.bind_some]
 unfold Jbq
 rw [Option.bind_some]
 split
 ·obtain ⟨r, hr, h1, h2⟩ := token_L1 hs n 1 (by omega) (by omega) (by omega)
  rw [hr, Option.bind_some, chk_bind (by omega)]
  exact ⟨_, _, _, rfl, by omega, h2⟩
 ·unfold Jbi
  rw [Option.bind_some]
  split
  ·obtain ⟨r, hr, h1, h2⟩ := token_L3 hs n 1 (by omega) (by omega) (by omega)
   rw [hr, Option.bind_some]
   split
   ·exact ⟨_, _, _, rfl, by omega, by omega⟩
   ·rw [chk_bind (by omega)]; exact ⟨_, _, _, rfl, by omega, h2⟩
  ·split
   ·unfold JbK
    obtain ⟨r, hr, h1⟩ := quoted_L0 hs n [] 1 (by omega) (by omega) (by omega) (by simp; omega)
    rw [hr, Option.bind_some]
    cases r with
    | ret z =>
     obtain ⟨a, b⟩ := z
     rw [el_ret, Option.bind_some]
     have := h1 a b rfl
     exact ⟨_, _, _, rfl, by omega, by omega⟩
    | go z => rw [el_go, Option.bind_some]; exact ⟨_, _, _, rfl, by omega, by omega⟩
   ·obtain ⟨r, hr, h1⟩ := token_L5 (s := s) 14 0 rfl
    rw [chk_bind (by constructor <;> omega), show ((14 : Int)).toNat = 14 from rfl, hr, Option.bind_some]
    cases r with
    | ret z =>
     obtain ⟨a, b, c⟩ := z
     have := h1 a b c rfl
     exact ⟨_, _, _, rfl, this.1, this.2⟩
    | go z => exact ⟨_, _, _, rfl, by omega, by omega⟩
theorem split_L3 {s : Str} (hs : s.length ≤ 5000) : ∀ (n : Nat) (i : Int), 0 ≤ i → i ≤ (s.length : Int) → (s.length : Int) - i < n → ∃ r, JaX s n i = some r ∧ i ≤ r ∧ r ≤ (s.length : Int) ∧ (∀ c, ix s i = some c → (c.toNat : Int) ≠ 10 → i < r)
 | 0, i, h0, h1, h2 => by omega
 | n + 1, i, h0, h1, h2 => by
  rw [JaX]
  by_cases hi : i < (s.length : Int)
  ·obtain ⟨c, hc⟩ := ix_ok h0 hi
   rw [if_pos (by simpa using hi), hc, Option.bind_some, Option.bind_some]
   by_cases q : (c.toNat : Int) = 10
   ·exact ⟨i, if_neg (by simpa using q), by omega, h1, fun d e => by cases e; exact fun h => absurd q h⟩
   ·obtain ⟨r, hr, h3, h4, _⟩ := split_L3 hs n (i + 1) (by omega) (by omega) (by omega)
    rw [if_pos (by simpa using q), chk_bind (by constructor <;> omega)]
    exact ⟨r, hr, by omega, h4, fun _ _ _ => by omega⟩
  ·rw [if_neg (by simpa using hi), Option.bind_some]
   refine ⟨i, if_neg (by simp), by omega, h1, fun c e => ?_⟩
   unfold ix at e
   rw [if_pos h0, List.getElem?_eq_none (by omega)] at e; cases e
theorem split_L0 {s : Str} {m : Nat} (hm : 10000 ≤ m) (hs : s.length ≤ 5000) : ∀ (n : Nat) (y : List Jt) (a b i : Int), 0 ≤ i → i ≤ (s.length : Int) → (s.length : Int) - i < n → (y.length : Int) + (s.length - i) ≤ 100000 → 0 ≤ a → a + (s.length - i) ≤ 100000 → 0 ≤ b → b ≤ i →
  ∃ r, J3 s m n y a b i = some r ∧ ∀ p q u v, r = Fl.go (p, q, u, v) → p.length ≤ 100000 ∧ 0 ≤ u ∧ u ≤ (s.length : Int)
 | 0, y, a, b, i, h0, h1, h2, h3, h4, h5, h6, h7 => by omega
 | n + 1, y, a, b, i, h0, h1, h2, h3, h4, h5, h6, h7 => by
  rw [J3]
  by_cases hi : i < (s.length : Int)
  ·obtain ⟨c, hc⟩ := ix_ok h0 hi
   rw [if_pos (by simpa using hi), hc, Option.bind_some]
   split
   ·rw [chk_bind (by constructor <;> omega), chk_bind (by constructor <;> omega)]
    exact split_L0 hm hs n _ _ _ _ (by omega) (by omega) (by omega) (by omega) (by omega) (by omega) (by omega) (by omega)
   ·rename_i h10
    split
    ·rw [chk_bind (by constructor <;> omega)]
     exact split_L0 hm hs n _ _ _ _ (by omega) (by omega) (by omega) (by omega) (by omega) (by omega) (by omega) (by omega)
    ·split
     ·rw [chk_bind (by constructor <;> omega)]
      exact split_L0 hm hs n _ _ _ _ (by omega) (by omega) (by omega) (by omega) (by omega) (by omega) (by omega) (by omega)
     ·split
      ·rw [chk_bind (by constructor <;> omega)]
       exact split_L0 hm hs n _ _ _ _ (by omega) (by omega) (by omega) (by omega) (by omega) (by omega) (by omega) (by omega)
      ·split
       ·obtain ⟨r, hr, g1, g2, g3⟩ := split_L3 hs m i h0 h1 (by omega)
        have := g3 c hc (by simpa using h10)
        rw [hr, Option.bind_some]
        exact split_L0 hm hs n _ _ _ _ (by omega) (by omega) (by omega) (by omega) (by omega) (by omega) (by omega) (by omega)
       ·have hsl : (subL s i (s.length : Int)).length = s.length - i.toNat := by
         unfold subL
         rw [List.length_take, List.length_drop]; omega
        rw [chk_bind (by omega)]
        obtain ⟨u, v, w, hr, g1, g2⟩ := token_ok (n := m) (s := subL s i (s.length : Int)) hm (by omega) (by omega)
        rw [hr, Option.bind_some]
        split
        ·exact ⟨_, rfl, fun p q u v e => by cases e⟩
        ·rename_i hz
         have hz' : v ≠ 0 := by simpa using hz
         rw [chk_bind (by constructor <;> omega), chk_bind (by constructor <;> omega), chk_bind (by simp only [lim, List.length_cons, List.length_nil]; omega), chk_bind (by constructor <;> simp only <;> omega)]
         exact split_L0 hm hs n _ _ _ _ (by simp only; omega) (by simp only; omega) (by simp only; omega) (by simp only [List.length_append, List.length_cons, List.length_nil]; omega) (by omega) (by simp only; omega) (by omega) (by simp only; omega)
  ·rw [if_neg (by simpa using hi)]
   exact ⟨_, rfl, fun p q u v e => by cases e; omega⟩
theorem split_ok {n : Nat} {s : Str} (hn : 10000 ≤ n) : ∃ r, JbW n s = some r := by
 unfold JbW
 by_cases h : (s.length : Int) > 4096
 ·exact ⟨_, if_pos (by simpa using h)⟩
 ·obtain ⟨r, hr, h1⟩ := split_L0 hn (s := s) (by omega) n [] 1 0 0 (by omega) (by omega) (by omega) (by simp; omega) (by omega) (by omega) (by omega) (by omega)
  rw [if_neg (by simpa using h), hr, Option.bind_some]
  cases r with
  | ret z => rw [el_ret]; exact ⟨_, rfl⟩
  | go z =>
   obtain ⟨p, q, u, v⟩ := z
   obtain ⟨g1, g2, g3⟩ := h1 p q u v rfl
   rw [el_go, chk_bind (by constructor <;> simp only <;> omega), chk_bind (by constructor <;> simp only <;> omega), chk_bind (by simp only [lim, List.length_cons, List.length_nil]; omega)]
   exact ⟨_, rfl⟩
theorem index_L0 (v : Str) : ∀ (l : List Str) (i : Nat), ∃ r, Jaj v l i = some r
 | [], i => ⟨_, rfl⟩
 | x :: l, i => by
  rw [Jaj]
  exact ite_ex (fun _ => ⟨_, rfl⟩) (fun _ => index_L0 v l (i + 1))
theorem keyword_ok (s : Str) : ∃ b, JbA s = some b := by
 obtain ⟨r, hr⟩ := index_L0 s gkw0 0
 unfold JbA J8 Jbc
 rw [chk_bind (by decide), hr, Option.bind_some]
 cases r <;> exact ⟨_, rfl⟩
theorem bind_ex {α β : Type} {o : Option α} {f : α → Option β} (h1 : ∃ a, o = some a) (h2 : ∀ a, o = some a → ∃ r, f a = some r) : ∃ r, o.bind f = some r := by
 obtain ⟨a, ha⟩ := h1
 rw [ha, Option.bind_some]; exact h2 a ha
theorem named_ok {n : Nat} (hn : 10000 ≤ n) (s : Str) : ∃ b, Ja8 n s = some b := by
 unfold Ja8
 refine bind_ex (split_ok hn) fun r _ => ?_
 refine bind_ex (ite_ex (fun h => ?_) fun _ => ⟨_, rfl⟩) fun b hb => ?_
 ·simp only [Bool.and_eq_true, decide_eq_true_eq] at h
  exact bind_ex (ix_ok (by omega) (by omega)) fun _ _ => ⟨_, rfl⟩
 ·refine bind_ex (ite_ex (fun h => ?_) fun _ => ⟨_, rfl⟩) fun d hd => ?_
  ·subst h
   cases q : (r.2.isNone && decide ((r.1.length : Int) = 2)) with
   | false => rw [q, if_neg (by simp)] at hb; cases hb
   | true =>
    simp only [Bool.and_eq_true, decide_eq_true_eq] at q
    exact bind_ex (ix_ok (by omega) (by omega)) fun _ _ => ⟨_, rfl⟩
  ·refine bind_ex (ite_ex (fun h => bind_ex (keyword_ok s) fun _ _ => ⟨_, rfl⟩) fun _ => ⟨_, rfl⟩) fun d hd => ⟨_, rfl⟩
theorem digits_L0 : ∀ (s : Str) (i : Nat), ∃ r, Jaf s i = some r
 | [], i => ⟨_, rfl⟩
 | c :: s, i => by
  rw [Jaf]
  exact bind_ex (ite_ex (fun _ => ⟨_, rfl⟩) fun _ => ⟨_, rfl⟩) fun _ _ => ite_ex (fun _ => ⟨_, rfl⟩) fun _ => digits_L0 s (i + 1)
theorem digits_ok {s : Str} (h : s.length ≤ 3000) : ∃ b, Ja1 s = some b := by
 obtain ⟨r, hr⟩ := digits_L0 s 0
 unfold Ja1
 rw [chk_bind (by simp only [szMax]; omega), hr, Option.bind_some]
 cases r <;> exact ⟨_, rfl⟩
theorem compares_ok (k : Int) (s : Str) : ∃ b, Jan k s = some b := by
 unfold Jan
 repeat (refine ite_ex (fun _ => ⟨_, rfl⟩) fun _ => ?_)
 exact ⟨_, rfl⟩
end Rt
set_option linter.unusedVariables false
set_option linter.unusedSimpArgs false
open Go Go.SL Go.Proofs Pl
namespace Rt
abbrev M := Ja
abbrev N := Jk
def Ok : Nat → M → Prop
 | 0, _ => False
 | d + 1, x => x.Text.length ≤ 3000 ∧ x.Kids.length ≤ 700 ∧ ∀ k ∈ x.Kids, Ok d k
theorem Ok.succ : ∀ {d : Nat} {x : M}, Ok d x → Ok (d + 1) x
 | d + 1, x, h => ⟨h.1, h.2.1, fun k hk => (h.2.2 k hk).succ⟩
theorem operands_ok {n : Nat} (hn : 10000 ≤ n) {x : M} (ht : x.Text.length ≤ 3000) : ∃ k, JT n x = some k ∧ (x.Kind = 16 → k = 2 ∨ k = -2) := by
 have st : ∀ {b : Bool} {p q : Option Int} {P : Int → Prop}, (b = true → ∃ k, p = some k ∧ P k) → (b = false → ∃ k, q = some k ∧ P k) → ∃ k, (if b = true then p else q) = some k ∧ P k := fun {b p q P} h1 h2 => by
  cases b with
  | true => exact h1 rfl
  | false => exact h2 rfl
 have bd : ∀ {β : Type} {o : Option β} {f : β → Option Int} {P : Int → Prop}, (∃ a, o = some a) → (∀ a, ∃ k, f a = some k ∧ P k) → ∃ k, o.bind f = some k ∧ P k := fun {β o f P} h1 h2 => by
  obtain ⟨a, ha⟩ := h1
  rw [ha, Option.bind_some]; exact h2 a
 have two : ∀ {b : Bool} {q : Int}, (x.Kind = 16 → q = 2) → ∃ k, (if b = true then some (-2) else some q : Option Int) = some k ∧ (x.Kind = 16 → k = 2 ∨ k = -2) := fun {b q} hq => st (fun _ => ⟨_, rfl, fun _ => .inr rfl⟩) fun _ => ⟨_, rfl, fun h => .inl (hq h)⟩
 unfold JT
 refine st (fun _ => two fun _ => rfl) fun _ => ?_
 refine st (fun _ => two fun _ => rfl) fun _ => ?_
 refine st (fun _ => two fun _ => rfl) fun _ => ?_
 refine st (fun _ => two fun _ => rfl) fun _ => ?_
 refine st (fun _ => two fun _ => rfl) fun _ => ?_
 refine st (fun h => two fun h2 => by have h := of_decide_eq_true h; omega) fun _ => ?_
 refine st (fun _ => bd (compares_ok 4 _) fun a => bd (ite_ex (fun _ => ⟨_, rfl⟩) fun _ => bind_ex (compares_ok 1 _) fun _ _ => ⟨_, rfl⟩) fun b => two fun _ => rfl) fun h16 => ?_
 have h16 : x.Kind ≠ 16 := of_decide_eq_false h16
 refine st (fun _ => bd (digits_ok ht) fun a => two fun h => absurd h h16) fun _ => ?_
 refine st (fun _ => bd (printable_ok ht) fun a => two fun h => absurd h h16) fun _ => ?_
 refine st (fun _ => two fun h => absurd h h16) fun _ => ?_
 refine st (fun _ => bd (named_ok hn _) fun a => two fun h => absurd h h16) fun _ => ?_
 refine st (fun _ => bd (named_ok hn _) fun a => two fun h => absurd h h16) fun _ => ?_
 exact ⟨_, rfl, fun _ => .inr rfl⟩
theorem expression_L0 {f : M → Option Bool} : ∀ (l : List M) (i : Nat), (∀ k ∈ l, ∃ b, f k = some b) → ∃ r, JJ f l i = some r
 | [], i, _ => ⟨_, rfl⟩
 | k :: l, i, h => by
  rw [JJ]
  exact bind_ex (h k (by simp)) fun _ _ => ite_ex (fun _ => ⟨_, rfl⟩) fun _ => expression_L0 l (i + 1) fun k hk => h k (by simp [hk])
theorem expression_ok : ∀ (d n : Nat) (x : M), Ok d x → d + 10000 ≤ n → ∃ b, Jo n x = some b
 | d + 1, 0, x, h, hn => by omega
 | d + 1, n + 1, x, h, hn => by
  obtain ⟨h1, h2, h3⟩ := h
  obtain ⟨k, hk, _⟩ := operands_ok (n := n) (by omega) h1
  rw [Jo]
  rw [hk, Option.bind_some]
  refine ite_ex (fun _ => ⟨_, rfl⟩) fun _ => ite_ex (fun _ => ⟨_, rfl⟩) fun _ => ?_
  rw [chk_bind (by simp only [szMax]; omega)]
  obtain ⟨r, hr⟩ := expression_L0 (f := Jo n) x.Kids 0 fun c hc => expression_ok d n c (h3 c hc) (by omega)
  rw [hr, Option.bind_some]
  cases r <;> exact ⟨_, rfl⟩
theorem expression_L0_inv {f : M → Option Bool} : ∀ (l : List M) (i : Nat), (JJ f l i).bind (fun s0 => s0.el some fun t0 => some true) = some true → ∀ k ∈ l, f k = some true
 | [], i, _, k, hk => by cases hk
 | a :: l, i, h, k, hk => by
  rw [JJ] at h
  cases ha : f a with
  | none => rw [ha] at h; cases h
  | some b =>
   rw [ha, Option.bind_some] at h
   cases b with
   | false => simp [Fl.el] at h
   | true =>
    rw [if_neg (by simp)] at h
    rcases List.mem_cons.1 hk with rfl | hk
    ·exact ha
    ·exact expression_L0_inv l (i + 1) h k hk
theorem expression_inv {n : Nat} {x : M} (h : Jo n x = some true) : ∃ m k, n = m + 1 ∧ JT m x = some k ∧ k ≠ -2 ∧ (0 ≤ k → (x.Kids.length : Int) = k) ∧ ∀ c ∈ x.Kids, Jo m c = some true := by
 cases n with
 | zero => rw [Jo] at h; cases h
 | succ m =>
  rw [Jo] at h
  obtain ⟨k, hk, h⟩ := bnd h
  refine ⟨m, k, rfl, hk, ?_⟩
  cases q : decide (k = -2) with
  | true => rw [q, if_pos rfl] at h; cases h
  | false =>
   rw [q, if_neg (by simp)] at h
   refine ⟨of_decide_eq_false q, ?_⟩
   cases q2 : (decide (k ≥ 0) && decide ((x.Kids.length : Int) ≠ k)) with
   | true => rw [q2, if_pos rfl] at h; cases h
   | false =>
    rw [q2, if_neg (by simp)] at h
    obtain ⟨_, h⟩ := chkb h
    refine ⟨fun h0 => ?_, expression_L0_inv x.Kids 0 h⟩
    simp only [Bool.and_eq_false_iff, decide_eq_false_iff_not] at q2
    omega
theorem blocked_L0 {f : M → Option Bool} : ∀ (l : List M) (i : Nat), (∀ k ∈ l, ∃ b, f k = some b) → ∃ r, Jab f l i = some r
 | [], i, _ => ⟨_, rfl⟩
 | k :: l, i, h => by
  rw [Jab]
  exact bind_ex (h k (by simp)) fun _ _ => ite_ex (fun _ => ⟨_, rfl⟩) fun _ => blocked_L0 l (i + 1) fun k hk => h k (by simp [hk])
theorem blocked_ok {f : M → Option Bool} {n : Nat} {x : M} (hl : x.Kids.length ≤ 700) (h : ∀ k ∈ x.Kids, ∃ b, f k = some b) : ∃ b, JaE f n x = some b := by
 unfold JaE
 refine ite_ex (fun _ => ⟨_, rfl⟩) fun _ => ?_
 rw [chk_bind (by simp only [szMax]; omega)]
 obtain ⟨r, hr⟩ := blocked_L0 (f := f) x.Kids 0 h
 rw [hr, Option.bind_some]
 cases r <;> exact ⟨_, rfl⟩
theorem blocked_L0_inv {f : M → Option Bool} : ∀ (l : List M) (i : Nat), (Jab f l i).bind (fun s0 => s0.el some fun t0 => some true) = some true → ∀ k ∈ l, f k = some true
 | [], i, _, k, hk => by cases hk
 | a :: l, i, h, k, hk => by
  rw [Jab] at h
  cases ha : f a with
  | none => rw [ha] at h; cases h
  | some b =>
   rw [ha, Option.bind_some] at h
   cases b with
   | false => simp [Fl.el] at h
   | true =>
    rw [if_neg (by simp)] at h
    rcases List.mem_cons.1 hk with rfl | hk
    ·exact ha
    ·exact blocked_L0_inv l (i + 1) h k hk
theorem blocked_inv {f : M → Option Bool} {n : Nat} {x : M} (h : JaE f n x = some true) : x.Kind = 12 ∧ ∀ k ∈ x.Kids, f k = some true := by
 unfold JaE at h
 cases q : (decide (x.Kind ≠ 12) || decide (x.Text ≠ ([] : Str))) with
 | true => rw [q, if_pos rfl] at h; cases h
 | false =>
  rw [q, if_neg (by simp)] at h
  obtain ⟨_, h⟩ := chkb h
  simp only [Bool.or_eq_false_iff, decide_eq_false_iff_not, Classical.not_not] at q
  exact ⟨q.1, blocked_L0_inv x.Kids 0 h⟩
theorem stated_ok : ∀ (d n : Nat) (x : M), Ok d x → d + 10000 ≤ n → ∃ b, Jv n x = some b
 | d + 1, 0, x, h, hn => by omega
 | d + 1, n + 1, x, h, hn => by
  obtain ⟨h1, h2, h3⟩ := h
  have ex : ∀ c ∈ x.Kids, ∃ b, Jo n c = some b := fun c hc => expression_ok d n c (h3 c hc) (by omega)
  have stt : ∀ c ∈ x.Kids, ∃ b, Jv n c = some b := fun c hc => stated_ok d n c (h3 c hc) (by omega)
  have bl : ∀ c ∈ x.Kids, ∃ b, JaE (Jv n) n c = some b := fun c hc => by
   cases d with
   | zero => exact (h3 c hc).elim
   | succ e =>
    have hk := h3 c hc
    exact blocked_ok hk.2.1 fun k hk2 => stated_ok e n k (hk.2.2 k hk2) (by omega)
  have mem : ∀ {i : Int} {c : M}, ix x.Kids i = some c → c ∈ x.Kids := fun {i c} h => by
   unfold ix at h
   split at h
   ·exact List.mem_of_getElem? h
   ·cases h
  have one : ∃ b, (if decide ((x.Kids.length : Int) = 1) then (ix x.Kids 0).bind fun x121 => (Jo n x121).bind fun x123 => some x123 else some false).bind (fun x124 => some x124) = some b :=
   bind_ex (ite_ex (fun h => bind_ex (ix_ok (by omega) (by have := of_decide_eq_true h; omega)) fun c hc => bind_ex (ex c (mem hc)) fun _ _ => ⟨_, rfl⟩) fun _ => ⟨_, rfl⟩) fun _ _ => ⟨_, rfl⟩
  rw [Jv]
  refine ite_ex (fun _ => ?_) fun _ => ?_
  ·refine bind_ex (ite_ex (fun _ => ⟨_, rfl⟩) fun h => ?_) fun a ha => ?_
   ·simp only [Bool.or_eq_false_iff, decide_eq_false_iff_not] at h
    exact bind_ex (ix_ok (by omega) (by omega)) fun c hc => bind_ex (ex c (mem hc)) fun _ _ => ⟨_, rfl⟩
   ·have hlen : a = false → 2 ≤ x.Kids.length ∧ x.Kids.length ≤ 3 := fun e => by
     subst e
     cases q : ((decide (x.Text ≠ ([] : Str)) || decide ((x.Kids.length : Int) < 2)) || decide ((x.Kids.length : Int) > 3)) with
     | true => rw [q, if_pos rfl] at ha; cases ha
     | false => simp only [Bool.or_eq_false_iff, decide_eq_false_iff_not] at q; omega
    refine bind_ex (ite_ex (fun _ => ⟨_, rfl⟩) fun h => bind_ex (ix_ok (by omega) (by have := hlen h; omega)) fun c hc => bind_ex (bl c (mem hc)) fun _ _ => ⟨_, rfl⟩) fun b hb => ?_
    refine ite_ex (fun _ => ⟨_, rfl⟩) fun hbf => ?_
    have ha' : a = false := by
     cases a with
     | false => rfl
     | true => rw [if_pos rfl] at hb; cases hb; cases hbf
    have hl := hlen ha'
    refine bind_ex (ite_ex (fun _ => ⟨_, rfl⟩) fun h => bind_ex (ix_ok (by omega) (by have := of_decide_eq_false h; omega)) fun c hc => bind_ex (bl c (mem hc)) fun _ _ => ⟨_, rfl⟩) fun e he => ?_
    refine ite_ex (fun _ => ⟨_, rfl⟩) fun hef => ?_
    have h3' : x.Kids.length = 3 := by
     cases q : decide ((x.Kids.length : Int) = 2) with
     | true => rw [q, if_pos rfl] at he; cases he; cases hef
     | false => have := of_decide_eq_false q; omega
    refine bind_ex (ix_ok (by omega) (by omega)) fun c hc => ?_
    refine bind_ex (ite_ex (fun _ => ?_) fun _ => ⟨_, rfl⟩) fun _ _ => ⟨_, rfl⟩
    rw [hc, Option.bind_some]
    exact bind_ex (stt c (mem hc)) fun _ _ => ⟨_, rfl⟩
  ·refine ite_ex (fun _ => bind_ex (printable_ok h1) fun _ _ => ⟨_, rfl⟩) fun _ => ?_
   refine ite_ex (fun _ => ⟨_, rfl⟩) fun _ => ?_
   refine ite_ex (fun _ => ⟨_, rfl⟩) fun _ => ?_
   refine ite_ex (fun _ => bind_ex (named_ok (by omega) _) fun _ _ => ite_ex (fun _ => ⟨_, rfl⟩) fun _ => one) fun _ => ?_
   refine ite_ex (fun _ => ite_ex (fun _ => ⟨_, rfl⟩) fun _ => one) fun _ => ?_
   refine ite_ex (fun _ => bind_ex (printable_ok h1) fun _ _ => ite_ex (fun _ => ⟨_, rfl⟩) fun _ => one) fun _ => ?_
   refine ite_ex (fun _ => ite_ex (fun _ => ⟨_, rfl⟩) fun _ => one) fun _ => ?_
   refine ite_ex (fun _ => ite_ex (fun _ => ⟨_, rfl⟩) fun _ => one) fun _ => ?_
   refine ite_ex (fun _ => ite_ex (fun _ => ⟨_, rfl⟩) fun _ => one) fun _ => ?_
   exact ⟨_, rfl⟩
theorem small_L0 {f : M → Int → Int → Option (Bool × Int)} {d : Int} (hd : -1000 ≤ d ∧ d ≤ 1000) : ∀ (l : List M) (i : Nat) (y : Int), 0 ≤ y → y ≤ 1000 → (∀ k ∈ l, ∀ z, 0 ≤ z → z ≤ 1000 → ∃ b m, f k z (d - 1) = some (b, m) ∧ (b = true → 0 ≤ m) ∧ m ≤ 1000) →
  ∃ r, Jam d f l i y = some r ∧ (∀ z, r = Fl.go z → 0 ≤ z ∧ z ≤ 1000) ∧ ∀ z, r = Fl.ret z → z.1 = false ∧ z.2 ≤ 1000
 | [], i, y, h0, h1, _ => ⟨_, rfl, fun z e => by cases e; exact ⟨h0, h1⟩, fun z e => by cases e⟩
 | k :: l, i, y, h0, h1, h => by
  obtain ⟨b, m, hk, hb, hm⟩ := h k (by simp) y h0 h1
  rw [Jam, chk_bind (by constructor <;> omega), hk, Option.bind_some]
  cases b with
  | false => exact ⟨_, if_pos rfl, fun z e => (by cases e), fun z e => by cases e; exact ⟨rfl, hm⟩⟩
  | true => rw [if_neg (by simp)]; exact small_L0 hd l (i + 1) m (hb rfl) hm fun k hk => h k (by simp [hk])
theorem small_ok : ∀ (d n : Nat) (x : M) (z e : Int), Ok d x → d + 1 ≤ n → 0 ≤ z → z ≤ 1000 → 0 ≤ e → e ≤ 1000 → ∃ b m, Jaq n x z e = some (b, m) ∧ (b = true → 0 ≤ m) ∧ m ≤ 1000
 | d + 1, 0, x, z, e, h, hn, _, _, _, _ => by omega
 | d + 1, n + 1, x, z, e, h, hn, h0, h1, e0, e1 => by
  obtain ⟨g1, g2, g3⟩ := h
  rw [Jaq, chk_bind (by constructor <;> omega)]
  cases q : (decide (z - 1 < 0) || decide (e < 1)) with
  | true => exact ⟨false, z - 1, if_pos rfl, fun h => (by cases h), by omega⟩
  | false =>
   simp only [Bool.or_eq_false_iff, decide_eq_false_iff_not] at q
   rw [if_neg (by simp), chk_bind (by simp only [szMax]; omega)]
   obtain ⟨r, hr, r1, r2⟩ := small_L0 (f := Jaq n) (d := e) (by omega) x.Kids 0 (z - 1) (by omega) (by omega) fun k hk y y0 y1 => small_ok d n k y (e - 1) (g3 k hk) (by omega) y0 y1 (by omega) (by omega)
   rw [hr, Option.bind_some]
   cases r with
   | ret w => exact ⟨w.1, w.2, rfl, (fun h => by rw [(r2 w rfl).1] at h; cases h), (r2 w rfl).2⟩
   | go w => exact ⟨true, w, rfl, fun _ => (r1 w rfl).1, (r1 w rfl).2⟩
theorem Valid_L0 {n : Nat} : ∀ (l : List M) (i : Nat), (∀ k ∈ l, ∃ b, Jv n k = some b) → ∃ r, Jao n l i = some r
 | [], i, _ => ⟨_, rfl⟩
 | k :: l, i, h => by
  rw [Jao]
  exact bind_ex (h k (by simp)) fun _ _ => ite_ex (fun _ => ⟨_, rfl⟩) fun _ => Valid_L0 l (i + 1) fun k hk => h k (by simp [hk])
theorem Valid_L0_inv {n : Nat} : ∀ (l : List M) (i : Nat), (Jao n l i).bind (fun s0 => s0.el some fun t0 => some true) = some true → ∀ k ∈ l, Jv n k = some true
 | [], i, _, k, hk => by cases hk
 | a :: l, i, h, k, hk => by
  rw [Jao] at h
  cases ha : Jv n a with
  | none => rw [ha] at h; cases h
  | some b =>
   rw [ha, Option.bind_some] at h
   cases b with
   | false => simp [Fl.el] at h
   | true =>
    rw [if_neg (by simp)] at h
    rcases List.mem_cons.1 hk with rfl | hk
    ·exact ha
    ·exact Valid_L0_inv l (i + 1) h k hk
theorem Valid_ok {d n : Nat} {x : M} (h : Ok d x) (hn : d + 10000 ≤ n) : ∃ b, Jar n x = some b := by
 cases d with
 | zero => exact h.elim
 | succ d =>
  obtain ⟨b, m, hs, _, _⟩ := small_ok (d + 1) n x 512 32 h (by omega) (by omega) (by omega) (by omega) (by omega)
  unfold Jar
  refine ite_ex (fun _ => ⟨_, rfl⟩) fun _ => ?_
  rw [hs, Option.bind_some]
  refine ite_ex (fun _ => ⟨_, rfl⟩) fun _ => ?_
  have := h.2.1
  rw [chk_bind (by simp only [szMax]; omega)]
  obtain ⟨r, hr⟩ := Valid_L0 (n := n) x.Kids 0 fun k hk => stated_ok d n k (h.2.2 k hk) (by omega)
  rw [hr, Option.bind_some]
  cases r <;> exact ⟨_, rfl⟩
theorem Valid_inv {n : Nat} {x : M} (h : Jar n x = some true) : ∀ k ∈ x.Kids, Jv n k = some true := by
 unfold Jar at h
 split at h
 ·cases h
 ·obtain ⟨s, hs, h⟩ := bnd h
  split at h
  ·cases h
  ·obtain ⟨_, h⟩ := chkb h
   exact Valid_L0_inv x.Kids 0 h
end Rt
set_option linter.unusedVariables false
set_option linter.unusedSimpArgs false
open Go Go.SL Go.Proofs Pl
namespace Rt
abbrev Ck := Ji
abbrev Bd := Jh
theorem lookup_L0 {env : List Bd} {s : Str} (hl : env.length ≤ 100000) : ∀ (n : Nat) (i : Int), -1 ≤ i → i < (env.length : Int) → i + 1 < n → ∃ r, JZ env s n i = some r
 | 0, i, _, _, h => by omega
 | n + 1, i, h0, h1, h => by
  rw [JZ]
  refine ite_ex (fun hi => ?_) fun _ => ⟨_, rfl⟩
  have hi := of_decide_eq_true hi
  obtain ⟨b, hb⟩ := ix_ok (s := env) (i := i) (by omega) (by omega)
  rw [hb, Option.bind_some]
  refine ite_ex (fun _ => ⟨_, rfl⟩) fun _ => ?_
  rw [chk_bind (by constructor <;> omega)]
  exact lookup_L0 hl n (i - 1) (by omega) (by omega) (by omega)
theorem lookup_ok {env : List Bd} {s : Str} {n : Nat} (hl : env.length ≤ 100000) (hn : env.length + 1 ≤ n) : ∃ t, Jah n s env = some t := by
 unfold Jah
 obtain ⟨r, hr⟩ := lookup_L0 (s := s) hl n ((env.length : Int) - 1) (by omega) (by omega) (by omega)
 rw [chk_bind (by constructor <;> omega), hr, Option.bind_some]
 cases r with
 | ret z => exact ⟨_, rfl⟩
 | go z => rw [el_go]; exact bind_ex ⟨_, rfl⟩ fun _ _ => ite_ex (fun _ => ⟨_, rfl⟩) fun _ => ⟨_, rfl⟩
theorem op1_L0 (t : Int) : ∀ (l : List Int) (i : Nat), ∃ r, J0 t l i = some r
 | [], i => ⟨_, rfl⟩
 | x :: l, i => by
  rw [J0]
  exact ite_ex (fun _ => ⟨_, rfl⟩) fun _ => op1_L0 t l (i + 1)
theorem op1_ok (t : Int) {l : List Int} (h : l.length ≤ 1000) : ∃ b, JB t l = some b := by
 obtain ⟨r, hr⟩ := op1_L0 t l 0
 unfold JB
 rw [chk_bind (by simp only [szMax]; omega), hr, Option.bind_some]
 cases r <;> exact ⟨_, rfl⟩
theorem operator_ok {x : M} {l : List Int} (h : l.length ≤ 1000) (h16 : x.Kind = 16 → l.length = 2) : ∃ t, JH x l = some t := by
 have one : ∀ (t a : Int), ∃ r, (JB t l).bind (fun x => if x = true then some a else some 0) = some r := fun t a => bind_ex (op1_ok t h) fun _ _ => ite_ex (fun _ => ⟨_, rfl⟩) fun _ => ⟨_, rfl⟩
 unfold JH
 refine ite_ex (fun _ => bind_ex (op1_ok 1 h) fun _ _ => ite_ex (fun _ => ⟨_, rfl⟩) fun _ => one 2 2) fun _ => ?_
 refine ite_ex (fun _ => one 2 2) fun _ => ?_
 refine ite_ex (fun _ => one 2 2) fun _ => ?_
 refine ite_ex (fun _ => one 3 3) fun _ => ?_
 refine ite_ex (fun _ => one 3 3) fun _ => ?_
 refine ite_ex (fun _ => one 3 3) fun _ => ?_
 refine ite_ex (fun hk => ?_) fun _ => ⟨_, rfl⟩
 have h2 := h16 (of_decide_eq_true hk)
 have cmp : ∃ r, (ix l 0).bind (fun x36 => (ix l 1).bind fun x39 => if decide (x36 = x39) = true then some (3 : Int) else some 0) = some r := bind_ex (ix_ok (by omega) (by omega)) fun _ _ => bind_ex (ix_ok (by omega) (by omega)) fun _ _ => ite_ex (fun _ => ⟨_, rfl⟩) fun _ => ⟨_, rfl⟩
 refine ite_ex (fun _ => cmp) fun _ => ?_
 refine ite_ex (fun _ => cmp) fun _ => ?_
 refine ite_ex (fun _ => one 2 3) fun _ => ?_
 refine ite_ex (fun _ => one 2 3) fun _ => ?_
 exact one 1 3
theorem fail_ok (c : Ck) (x : M) (e : Err) : ∃ r, JA c x e = some r := by
 unfold JA
 exact ite_ex (fun _ => ⟨_, rfl⟩) fun _ => ⟨_, rfl⟩
theorem function_ok (s : Str) : ∃ r, J4 s = some r := by
 unfold J4
 repeat (refine ite_ex (fun _ => ⟨_, rfl⟩) fun _ => ?_)
 exact ⟨_, rfl⟩
theorem call_ok (c : Ck) (x : M) (l : List Int) : ∃ r, JM c x l = some r := by
 unfold JM
 refine bind_ex (function_ok _) fun f _ => ite_ex (fun _ => bind_ex (fail_ok _ _ _) fun _ _ => ⟨_, rfl⟩) fun _ => ?_
 refine bind_ex (ite_ex (fun _ => ⟨_, rfl⟩) fun h => ?_) fun _ _ => ite_ex (fun _ => bind_ex (fail_ok _ _ _) fun _ _ => ⟨_, rfl⟩) fun _ => ⟨_, rfl⟩
 have h := of_decide_eq_false h
 exact bind_ex (ix_ok (by omega) (by omega)) fun _ _ => ⟨_, rfl⟩
theorem cexpr_L0 {f : Ck → M → List Bd → Option (Int × Ck)} {env : List Bd} : ∀ (l : List M) (i : Nat) (y : List Int) (a : Int) (e : Err), (∀ k ∈ l, ∀ c, ∃ r, f c k env = some r) → y.length + l.length ≤ 1000 →
  ∃ r, JC f env l i y a e = some r ∧ ∀ z, r = Fl.go z → z.1.length = y.length + l.length
 | [], i, y, a, e, _, _ => ⟨_, rfl, fun z h => by cases h; rfl⟩
 | k :: l, i, y, a, e, h, hy => by
  simp only [List.length_cons] at hy
  obtain ⟨r, hr⟩ := h k (by simp) ⟨a, e⟩
  rw [JC, hr, Option.bind_some, chk_bind (by simp only [lim, List.length_cons, List.length_nil]; omega)]
  cases q : r.2.err.isSome with
  | true => exact ⟨_, if_pos rfl, fun z h => by cases h⟩
  | false =>
   rw [if_neg (by simp)]
   obtain ⟨r', hr', hl⟩ := cexpr_L0 (f := f) (env := env) l (i + 1) (y ++ [r.1]) r.2.line r.2.err (fun k hk => h k (by simp [hk])) (by simp only [List.length_append, List.length_cons, List.length_nil]; omega)
   exact ⟨r', hr', fun z hz => by rw [hl z hz]; simp only [List.length_append, List.length_cons, List.length_nil]; omega⟩
theorem operands_16 {m : Nat} {x : M} {k : Int} (hk : x.Kind = 16) (h : JT m x = some k) : k = 2 ∨ k = -2 := by
 unfold JT at h
 rw [hk] at h
 rw [if_neg (by decide), if_neg (by decide), if_neg (by decide), if_neg (by decide), if_neg (by decide), if_neg (by decide), if_pos (by decide)] at h
 obtain ⟨a, _, h⟩ := bnd h
 obtain ⟨b, _, h⟩ := bnd h
 split at h <;> cases h <;> simp
theorem cexpr_ok {env : List Bd} (he : env.length ≤ 100000) : ∀ (d n m : Nat) (x : M) (c : Ck), Ok d x → Jo m x = some true → d + 200000 ≤ n → ∃ r, Jy n c x env = some r
 | d + 1, 0, m, x, c, _, _, hn => by omega
 | d + 1, n + 1, m, x, c, h, hv, hn => by
  obtain ⟨h1, h2, h3⟩ := h
  obtain ⟨m', k, rfl, hk, k2, k3, k4⟩ := expression_inv hv
  obtain ⟨r, hr, hl⟩ := cexpr_L0 (f := Jy n) (env := env) x.Kids 0 [] c.line c.err (fun q hq c' => cexpr_ok he d n m' q c' (h3 q hq) (k4 q hq) (by omega)) (by simp <;> omega)
  rw [Jy, chk_bind (by simp only [szMax]; omega), hr, Option.bind_some]
  cases r with
  | ret z => exact ⟨_, rfl⟩
  | go z =>
   have hz := hl z rfl
   simp only [List.length_nil, Nat.zero_add] at hz
   rw [el_go]
   refine ite_ex (fun _ => ⟨_, rfl⟩) fun _ => ?_
   refine ite_ex (fun _ => ⟨_, rfl⟩) fun _ => ?_
   refine ite_ex (fun _ => ⟨_, rfl⟩) fun _ => ?_
   refine ite_ex (fun _ => bind_ex (lookup_ok he (by omega)) fun _ _ => ite_ex (fun _ => bind_ex (fail_ok _ _ _) fun _ _ => ⟨_, rfl⟩) fun _ => ⟨_, rfl⟩) fun _ => ?_
   refine ite_ex (fun _ => bind_ex (call_ok _ _ _) fun _ _ => ⟨_, rfl⟩) fun _ => ?_
   refine bind_ex (operator_ok (by omega) fun h16 => ?_) fun _ _ => ite_ex (fun _ => bind_ex (fail_ok _ _ _) fun _ _ => ⟨_, rfl⟩) fun _ => ⟨_, rfl⟩
   rcases operands_16 h16 hk with rfl | rfl
   ·have := k3 (by omega); omega
   ·exact absurd rfl k2
theorem needs_ok (x : M) : ∃ t, JaL x = some t := by
 unfold JaL
 repeat (refine ite_ex (fun _ => ⟨_, rfl⟩) fun _ => ?_)
 exact ⟨_, rfl⟩
theorem declared_ok {env : List Bd} {s : Str} {n : Nat} (hl : env.length ≤ 100000) (hn : env.length + 1 ≤ n) : ∃ t, Jac n s env = some t := by
 unfold Jac
 exact bind_ex (lookup_ok hl hn) fun _ _ => ⟨_, rfl⟩
theorem extended_eq {env : List Bd} {s : Str} {t : Int} (hl : env.length ≤ 100000) : JX env s t = some (env ++ [⟨s, t⟩]) := by
 unfold JX
 rw [chk_bind (by constructor <;> omega), chk_bind (by simp only [lim]; omega), chk_bind (by simp only [lim, List.length_nil]; omega), chk_bind (by simp only [lim, List.length_append, List.length_cons, List.length_nil]; omega)]; rfl
theorem stated_inv {n : Nat} {x : M} (h : Jv n x = some true) : ∃ m, n = m + 1 ∧ (∀ c, x.Kids[0]? = some c → Jo m c = some true) ∧
  (x.Kind = 2 → 2 ≤ x.Kids.length ∧ ∀ c ∈ x.Kids.drop 1, (c.Kind = 12 ∧ ∀ k ∈ c.Kids, Jv m k = some true) ∨ (c.Kind ≠ 12 ∧ Jv m c = some true)) := by
 cases n with
 | zero => rw [Jv] at h; cases h
 | succ m =>
  have one : (if decide ((x.Kids.length : Int) = 1) then (ix x.Kids 0).bind fun x121 => (Jo m x121).bind fun x123 => some x123 else some false).bind (fun x124 => some x124) = some true → ∀ c, x.Kids[0]? = some c → Jo m c = some true := fun h c hc => by
   obtain ⟨b, hb, h⟩ := bnd h
   cases h
   split at hb
   ·have hx : ix x.Kids 0 = some c := by unfold ix; rw [if_pos (by omega)]; exact hc
    rw [hx, Option.bind_some] at hb
    obtain ⟨b2, hb2, hb⟩ := bnd hb
    cases hb; exact hb2
   ·cases hb
  have nil : (x.Kids.length : Int) = 0 → ∀ c, x.Kids[0]? = some c → Jo m c = some true := fun h c hc => by
   rw [List.getElem?_eq_none (by omega)] at hc; cases hc
  refine ⟨m, rfl, ?_⟩
  rw [Jv] at h
  by_cases k2 : x.Kind = 2
  ·rw [if_pos (by simpa using k2)] at h
   obtain ⟨a, ha, g⟩ := bnd h
   obtain ⟨b, hb, gg⟩ := bnd g
   cases b with
   | true => rw [if_pos rfl] at gg; cases gg
   | false =>
    rw [if_neg (by simp)] at gg
    cases a with
    | true => rw [if_pos rfl] at hb; cases hb
    | false =>
     cases q : ((decide (x.Text ≠ ([] : Str)) || decide ((x.Kids.length : Int) < 2)) || decide ((x.Kids.length : Int) > 3)) with
     | true => rw [q, if_pos rfl] at ha; cases ha
     | false =>
      rw [q, if_neg (by simp)] at ha
      simp only [Bool.or_eq_false_iff, decide_eq_false_iff_not] at q
      rw [if_neg (by simp)] at hb
      obtain ⟨c0, hc0, ha⟩ := bnd ha
      obtain ⟨e0, he0, ha⟩ := bnd ha
      obtain ⟨c1, hc1, hb⟩ := bnd hb
      obtain ⟨e1, he1, hb⟩ := bnd hb
      have ha : e0 = true := by simpa using ha
      have hb : e1 = true := by simpa using hb
      subst ha; subst hb
      have g0 : x.Kids[0]? = some c0 := by unfold ix at hc0; rw [if_pos (by omega)] at hc0; exact hc0
      have g1 : x.Kids[1]? = some c1 := by unfold ix at hc1; rw [if_pos (by omega)] at hc1; exact hc1
      obtain ⟨i1, i2⟩ := blocked_inv he1
      refine ⟨fun c hc => by rw [g0] at hc; cases hc; exact he0, fun _ => ⟨by omega, fun c hc => ?_⟩⟩
      obtain ⟨i, hi⟩ := List.getElem?_of_mem hc
      rw [List.getElem?_drop] at hi
      have hil : 1 + i < x.Kids.length := (List.getElem?_eq_some_iff.1 hi).1
      by_cases z : i = 0
      ·subst z
       rw [g1] at hi; cases hi
       exact .inl ⟨i1, i2⟩
      ·have : i = 1 := by omega
       subst this
       have hx2 : ix x.Kids 2 = some c := by unfold ix; rw [if_pos (by omega)]; exact hi
       rw [if_neg (by simp <;> omega), hx2, Option.bind_some] at gg
       obtain ⟨e, he, g3⟩ := bnd gg
       obtain ⟨e', he', he2⟩ := bnd he
       cases he2
       cases e with
       | true => have := blocked_inv he'; exact .inl ⟨this.1, this.2⟩
       | false =>
        rw [if_neg (by simp), Option.bind_some] at g3
        obtain ⟨e2, he2, g4⟩ := bnd g3
        cases g4
        split at he2
        ·rename_i hk
         have hk := of_decide_eq_true hk
         rw [Option.bind_some] at he2
         obtain ⟨e3, he3, g5⟩ := bnd he2
         cases g5
         exact .inr ⟨by omega, he3⟩
        ·cases he2
  ·rw [if_neg (by simpa using k2)] at h
   refine ⟨?_, fun h2 => absurd h2 k2⟩
   by_cases q6 : x.Kind = 6
   ·rw [if_pos (by simpa using q6)] at h
    obtain ⟨_, _, g⟩ := bnd h
    exact nil (of_decide_eq_true (Bool.and_eq_true_iff.1 (Option.some.inj g)).2)
   rw [if_neg (by simpa using q6)] at h
   by_cases q10 : x.Kind = 10
   ·rw [if_pos (by simpa using q10)] at h
    exact nil (of_decide_eq_true (Bool.and_eq_true_iff.1 (Option.some.inj h)).2)
   rw [if_neg (by simpa using q10)] at h
   by_cases q11 : x.Kind = 11
   ·rw [if_pos (by simpa using q11)] at h
    exact nil (of_decide_eq_true (Bool.and_eq_true_iff.1 (Option.some.inj h)).2)
   rw [if_neg (by simpa using q11)] at h
   have fin : ∀ {b : Bool} {p : Option Bool}, (if b = true then some false else p) = some true → p = some true := fun {b p} h => by
    cases b with
    | true => rw [if_pos rfl] at h; cases h
    | false => rw [if_neg (by simp)] at h; exact h
   by_cases q3 : x.Kind = 3
   ·rw [if_pos (by simpa using q3)] at h
    obtain ⟨_, _, g⟩ := bnd h
    exact one (fin g)
   rw [if_neg (by simpa using q3)] at h
   by_cases q4 : x.Kind = 4
   ·rw [if_pos (by simpa using q4)] at h; exact one (fin h)
   rw [if_neg (by simpa using q4)] at h
   by_cases q5 : x.Kind = 5
   ·rw [if_pos (by simpa using q5)] at h
    obtain ⟨_, _, g⟩ := bnd h
    exact one (fin g)
   rw [if_neg (by simpa using q5)] at h
   by_cases q7 : x.Kind = 7
   ·rw [if_pos (by simpa using q7)] at h; exact one (fin h)
   rw [if_neg (by simpa using q7)] at h
   by_cases q8 : x.Kind = 8
   ·rw [if_pos (by simpa using q8)] at h; exact one (fin h)
   rw [if_neg (by simpa using q8)] at h
   by_cases q9 : x.Kind = 9
   ·rw [if_pos (by simpa using q9)] at h; exact one (fin h)
   rw [if_neg (by simpa using q9)] at h
   cases h
end Rt
set_option linter.unusedVariables false
set_option linter.unusedSimpArgs false
open Go Go.SL Go.Proofs Pl
namespace Rt
def Gd (d : Nat) (x : M) : Prop := Ok d x ∧ ∃ m, Jv m x = some true
theorem branch_ok {d : Nat} {k : M} (h : Ok d k) (hv : (k.Kind = 12 ∧ ∀ q ∈ k.Kids, ∃ m, Jv m q = some true) ∨ (k.Kind ≠ 12 ∧ ∃ m, Jv m k = some true)) :
  ∃ l, J1 k = some l ∧ l.length ≤ 700 ∧ ∀ x ∈ l, Gd d x := by
 unfold J1
 rcases hv with ⟨h1, h2⟩ | ⟨h1, h2⟩
 ·refine ⟨_, if_pos (by simpa using h1), ?_, ?_⟩
  ·cases d with
   | zero => exact h.elim
   | succ d => exact h.2.1
  ·cases d with
   | zero => exact h.elim
   | succ d => exact fun x hx => ⟨(h.2.2 x hx).succ, h2 x hx⟩
 ·refine ⟨_, if_neg (by simpa using h1), by simp, fun x hx => ?_⟩
  simp at hx; subst hx
  exact ⟨h, h2⟩
theorem block_L3 {f : Ck → List M → List Bd → Option Ck} {env : List Bd} : ∀ (l : List M) (i : Nat) (a : Int) (e : Err), (∀ k ∈ l, ∃ q, J1 k = some q ∧ ∀ c, ∃ r, f c q env = some r) → ∃ r, Jn f env l i a e = some r
 | [], i, a, e, _ => ⟨_, rfl⟩
 | k :: l, i, a, e, h => by
  obtain ⟨q, hq, hr⟩ := h k (by simp)
  rw [Jn, hq, Option.bind_some]
  exact bind_ex (hr _) fun _ _ => block_L3 l (i + 1) _ _ fun k hk => h k (by simp [hk])
set_option maxRecDepth 100000 in
theorem block_L0 {n d : Nat} {f : Ck → List M → List Bd → Option Ck} (hn : d + 200000 ≤ n) (hf : ∀ (l : List M) (env : List Bd) (c : Ck), (∀ x ∈ l, Gd d x) → l.length ≤ 700 → env.length + 701 * (d + 1) ≤ 90000 → ∃ r, f c l env = some r) :
  ∀ (l : List M) (i : Nat) (env : List Bd) (a : Int) (e : Err), (∀ x ∈ l, Gd (d + 1) x) → env.length + l.length + 701 * (d + 1) ≤ 90000 → ∃ r, Jm n f l i env a e = some r
 | [], i, env, a, e, _, _ => ⟨_, rfl⟩
 | x :: l, i, env, a, e, h, hl => by
  simp only [List.length_cons] at hl
  have ih : ∀ (env' : List Bd) (a' : Int) (e' : Err), env'.length ≤ env.length + 1 → ∃ r, Jm n f l (i + 1) env' a' e' = some r := fun env' a' e' he => block_L0 hn hf l (i + 1) env' a' e' (fun y hy => h y (by simp [hy])) (by omega)
  obtain ⟨⟨h1, h2, h3⟩, m0, hm⟩ := h x (by simp)
  obtain ⟨m, rfl, k0, k2⟩ := stated_inv hm
  rw [Jm]
  refine ite_ex (fun _ => ih _ _ _ (by omega)) fun hk => ?_
  have hk := of_decide_eq_false hk
  have hg0 : x.Kids[0]? = some (x.Kids[0]'(by omega)) := List.getElem?_eq_getElem (by omega)
  have hi0 : ix x.Kids 0 = some (x.Kids[0]'(by omega)) := by unfold ix; rw [if_pos (by omega)]; exact hg0
  rw [hi0, Option.bind_some]
  have tl : ∀ c1 : Ck, ∀ t : Int, ∃ r, (if decide (x.Kind = 3) then
    (Jac n x.Text env).bind fun x61 =>
    if x61 then
    (JA c1 x (some 4)).bind fun x65 =>
    (JX env x.Text t).bind fun x70 =>
    if x65.err.isSome then
    some (Fl.ret x65)
    else
    Jm n f l (i + 1) x70 x65.line x65.err
    else
    (JX env x.Text t).bind fun x70 =>
    if c1.err.isSome then
    some (Fl.ret c1)
    else
    Jm n f l (i + 1) x70 c1.line c1.err
    else
    if decide (x.Kind = 2) then
    (chk (0 ≤ (1 : Int) ∧ (1 : Int) ≤ (x.Kids.length : Int) ∧ (x.Kids.length : Int) ≤ (x.Kids.length : Int))).bind fun _ =>
    (chk ((subL x.Kids (1 : Int) (x.Kids.length : Int)).length ≤ szMax)).bind fun _ =>
    (Jn f env (subL x.Kids (1 : Int) (x.Kids.length : Int)) 0 c1.line c1.err).bind fun t3 =>
    if t3.2.isSome then
    some (Fl.ret (⟨t3.1, t3.2⟩ : Ck))
    else
    Jm n f l (i + 1) env t3.1 t3.2
    else
    if c1.err.isSome then
    some (Fl.ret c1)
    else
    Jm n f l (i + 1) env c1.line c1.err : Option (Fl Ck (List Bd × Int × Err))) = some r := fun c1 t => by
   refine ite_ex (fun _ => ?_) fun _ => ?_
   ·refine bind_ex (declared_ok (by omega) (by omega)) fun _ _ => ite_ex (fun _ => ?_) fun _ => ?_
    ·refine bind_ex (fail_ok _ _ _) fun _ _ => ?_
     rw [extended_eq (by omega), Option.bind_some]
     exact ite_ex (fun _ => ⟨_, rfl⟩) fun _ => ih _ _ _ (by simp)
    ·rw [extended_eq (by omega), Option.bind_some]
     exact ite_ex (fun _ => ⟨_, rfl⟩) fun _ => ih _ _ _ (by simp)
   ·refine ite_ex (fun hk2 => ?_) fun _ => ite_ex (fun _ => ⟨_, rfl⟩) fun _ => ih _ _ _ (by omega)
    obtain ⟨g1, g2⟩ := k2 (of_decide_eq_true hk2)
    have hsub : subL x.Kids (1 : Int) (x.Kids.length : Int) = x.Kids.drop 1 := by
     unfold subL
     rw [show ((1 : Int)).toNat = 1 from rfl]
     exact List.take_of_length_le (by rw [List.length_drop]; omega)
    rw [chk_bind (by omega), hsub, chk_bind (by rw [List.length_drop]; simp only [szMax]; omega)]
    refine bind_ex (block_L3 _ 0 _ _ fun k hk => ?_) fun _ _ => ite_ex (fun _ => ⟨_, rfl⟩) fun _ => ih _ _ _ (by omega)
    have hkm : k ∈ x.Kids := List.mem_of_mem_drop hk
    obtain ⟨q, hq, ql, qg⟩ := branch_ok (h3 k hkm) (by
     rcases g2 k hk with ⟨a1, a2⟩ | ⟨a1, a2⟩
     ·exact .inl ⟨a1, fun q hq => ⟨m, a2 q hq⟩⟩
     ·exact .inr ⟨a1, m, a2⟩)
    exact ⟨q, hq, fun c => hf q env c qg ql (by omega)⟩
  refine bind_ex (cexpr_ok (env := env) (by omega) d n m _ _ (h3 _ (List.getElem_mem _)) (k0 _ hg0) (by omega)) fun t ht => ?_
  refine bind_ex (needs_ok x) fun nd _ => ?_
  refine ite_ex (fun _ => ?_) fun _ => ?_
  ·refine bind_ex (fail_ok _ _ _) fun c1 _ => ?_
   exact ite_ex (fun _ => ⟨_, rfl⟩) fun _ => tl c1 t.1
  ·exact ite_ex (fun _ => ⟨_, rfl⟩) fun _ => tl t.2 t.1
set_option maxRecDepth 100000 in
theorem block_ok : ∀ (d n : Nat) (l : List M) (env : List Bd) (c : Ck), (∀ x ∈ l, Gd d x) → l.length ≤ 700 → env.length + 701 * (d + 1) ≤ 90000 → d + 300000 ≤ n → ∃ r, Jp n c l env = some r
 | d, 0, l, env, c, _, _, _, hn => by omega
 | 0, n + 1, l, env, c, h, hl, he, hn => by
  have : l = [] := by
   cases l with
   | nil => rfl
   | cons x l => exact (h x (by simp)).1.elim
  subst this
  rw [Jp, chk_bind (by simp [szMax])]
  exact ⟨_, rfl⟩
 | d + 1, n + 1, l, env, c, h, hl, he, hn => by
  obtain ⟨r, hr⟩ := block_L0 (n := n) (d := d) (f := Jp n) (by omega) (fun l' env' c' h1 h2 h3 => block_ok d n l' env' c' h1 h2 h3 (by omega)) l 0 env c.line c.err h (by omega)
  rw [Jp, chk_bind (by simp only [szMax]; omega), hr, Option.bind_some]
  cases r <;> exact ⟨_, rfl⟩
end Rt
set_option linter.unusedVariables false
set_option linter.unusedSimpArgs false
open Go Go.SL Go.Proofs Pl
namespace Rt
inductive A2 {α β : Type} (P : α → β → Prop) : List α → List β → Prop
 | nil : A2 P [] []
 | cons {a : α} {b : β} {l : List α} {k : List β} : P a b → A2 P l k → A2 P (a :: l) (b :: k)
theorem A2.len {α β : Type} {P : α → β → Prop} {l : List α} {k : List β} (h : A2 P l k) : k.length = l.length := by
 induction h with
 | nil => rfl
 | cons _ _ ih => simp [ih]
theorem A2.mem {α β : Type} {P : α → β → Prop} {l : List α} {k : List β} (h : A2 P l k) : ∀ b ∈ k, ∃ a ∈ l, P a b := by
 induction h with
 | nil => intro b hb; cases hb
 | cons hp _ ih =>
  intro b hb
  rcases List.mem_cons.1 hb with rfl | hb
  ·exact ⟨_, by simp, hp⟩
  ·obtain ⟨a, ha, q⟩ := ih b hb; exact ⟨a, by simp [ha], q⟩
def OkN : Nat → N → Prop
 | 0, _ => False
 | d + 1, x => x.Text.length ≤ 3000 ∧ x.Kids.length ≤ 700 ∧ ∀ k ∈ x.Kids, OkN d k
theorem weigh_L0 {f : N → Int → Option Int} {e B : Int} (he : -100 ≤ e ∧ e ≤ 100) (hB : 0 ≤ B ∧ B ≤ 1000000) {P : N → Prop} : ∀ (l : List N) (i : Nat) (y : Int), 1 ≤ y → y ≤ 700 → (∀ k ∈ l, ∃ v, f k (e - 1) = some v ∧ 1 ≤ v ∧ v ≤ B ∧ (v ≤ 700 → P k)) →
  ∃ r, Jap e f l i y = some r ∧ (∀ z, r = Fl.go z → z ≤ 700 ∧ y + l.length ≤ z ∧ ∀ k ∈ l, P k) ∧ ∀ z, r = Fl.ret z → 700 < z ∧ z ≤ 700 + B
 | [], i, y, h1, h2, _ => ⟨_, rfl, fun z e => by cases e; exact ⟨h2, by simp, fun k hk => by cases hk⟩, fun z e => by cases e⟩
 | k :: l, i, y, h1, h2, h => by
  obtain ⟨v, hv, v1, v2, v3⟩ := h k (by simp)
  rw [Jap, chk_bind (by constructor <;> omega), hv, Option.bind_some, chk_bind (by constructor <;> omega)]
  by_cases q : y + v > 700
  ·exact ⟨_, if_pos (by simpa using q), fun z e => (by cases e), fun z e => by cases e; omega⟩
  ·rw [if_neg (by simpa using q)]
   obtain ⟨r, hr, g1, g2⟩ := weigh_L0 he hB (P := P) l (i + 1) (y + v) (by omega) (by omega) fun k hk => h k (by simp [hk])
   refine ⟨r, hr, fun z hz => ?_, g2⟩
   obtain ⟨a1, a2, a3⟩ := g1 z hz
   refine ⟨a1, by rw [List.length_cons]; omega, fun q hq => ?_⟩
   rcases List.mem_cons.1 hq with rfl | hq
   ·exact v3 (by omega)
   ·exact a3 q hq
theorem weigh_ok : ∀ (e n : Nat) (x : N), Jk.ok x → e + 1 ≤ n → e ≤ 40 → ∃ v, Jae n x (e : Int) = some v ∧ 1 ≤ v ∧ v ≤ 1000 + 700 * e ∧ (v ≤ 700 → OkN e x)
 | e, 0, x, _, hn, _ => by omega
 | 0, n + 1, x, h, hn, he => by
  rw [Jae, if_pos (by simp)]
  exact ⟨_, rfl, by omega, by omega, fun h => by omega⟩
 | e + 1, n + 1, x, h, hn, he => by
  obtain ⟨k0, k1, l2, k2, k3⟩ := h
  rw [Jae]
  by_cases q : x.Text.length > 3000
  ·rw [if_pos (by simp; omega)]
   exact ⟨_, rfl, by omega, by omega, fun h => by omega⟩
  ·rw [if_neg (by simp; omega), chk_bind l2]
   obtain ⟨r, hr, g1, g2⟩ := weigh_L0 (f := Jae n) (e := ((e + 1 : Nat) : Int)) (B := 1000 + 700 * e) (by omega) (by omega) (P := fun k => OkN e k) x.Kids 0 1 (by omega) (by omega) fun k hk => by
    have := weigh_ok e n k (k2 k hk) (by omega) (by omega)
    rw [show (((e + 1 : Nat) : Int) - 1) = (e : Int) from by omega]
    exact this
   rw [hr, Option.bind_some]
   cases r with
   | ret z =>
    obtain ⟨a1, a2⟩ := g2 z rfl
    exact ⟨z, rfl, by omega, by omega, fun h => by omega⟩
   | go z =>
    obtain ⟨a1, a2, a3⟩ := g1 z rfl
    exact ⟨z, rfl, by omega, by omega, fun _ => ⟨by omega, by omega, a3⟩⟩
theorem Large_ok {n : Nat} {x : N} (h : Jk.ok x) (hn : 41 ≤ n) : JaS n x = some true ∨ (JaS n x = some false ∧ OkN 40 x) := by
 obtain ⟨v, hv, _, _, h2⟩ := weigh_ok 40 n x h hn (by omega)
 unfold JaS
 rw [show ((40 : Nat) : Int) = 40 from rfl] at hv
 rw [hv, Option.bind_some]
 by_cases q : v > 700
 ·left; simp [q]
 ·right; exact ⟨by simp [q], h2 (by omega)⟩
def Cvd : Nat → N → M → Prop
 | 0, _, _ => False
 | d + 1, x, y => y.Kind = x.Kind ∧ y.Text = x.Text ∧ y.Line = x.Line ∧ A2 (Cvd d) x.Kids y.Kids
def Mvd (b : Int) : Nat → N → N → Prop
 | 0, _, _ => False
 | d + 1, x, y => y.Kind = x.Kind ∧ y.Text = x.Text ∧ y.Line = IntKind.i64.wrap (x.Line + b) ∧ A2 (Mvd b d) x.Kids y.Kids
theorem Of_L0 {f : N → Option M} {P : N → M → Prop} : ∀ (l : List N) (i : Nat) (y : List M), (∀ k ∈ l, ∃ z, f k = some z ∧ P k z) → y.length + l.length ≤ 10000 → ∃ ys, Ja0 f l i y = some (y ++ ys) ∧ A2 P l ys
 | [], i, y, _, _ => ⟨[], by simp [Ja0], .nil⟩
 | k :: l, i, y, h, hl => by
  simp only [List.length_cons] at hl
  obtain ⟨z, hz, hp⟩ := h k (by simp)
  obtain ⟨ys, e, ha⟩ := Of_L0 (P := P) l (i + 1) (y ++ [z]) (fun k hk => h k (by simp [hk])) (by simp only [List.length_append, List.length_cons, List.length_nil]; omega)
  rw [Ja0, hz, Option.bind_some, chk_bind (by simp only [lim, List.length_cons, List.length_nil]; omega), e]
  exact ⟨z :: ys, by simp, .cons hp ha⟩
theorem Of_ok : ∀ (d n : Nat) (x : N), OkN d x → d + 1 ≤ n → ∃ y, Jbg n x = some y ∧ Cvd d x y
 | d + 1, 0, x, _, hn => by omega
 | d + 1, n + 1, x, h, hn => by
  obtain ⟨h1, h2, h3⟩ := h
  obtain ⟨ys, e, ha⟩ := Of_L0 (f := Jbg n) (P := Cvd d) x.Kids 0 [] (fun k hk => Of_ok d n k (h3 k hk) (by omega)) (by simp <;> omega)
  rw [Jbg, chk_bind (by simp only [szMax]; omega), e, Option.bind_some]
  exact ⟨_, rfl, rfl, rfl, rfl, ha⟩
theorem Cvd.ok : ∀ {d : Nat} {x : N} {y : M}, OkN d x → Cvd d x y → Ok d y
 | d + 1, x, y, h, hc => by
  obtain ⟨h1, h2, h3⟩ := h
  obtain ⟨c1, c2, c3, c4⟩ := hc
  refine ⟨by rw [c2]; exact h1, by rw [c4.len]; exact h2, fun k hk => ?_⟩
  obtain ⟨a, ha, q⟩ := c4.mem k hk
  exact Cvd.ok (h3 a ha) q
theorem Mvd.ok {b : Int} : ∀ {d : Nat} {x y : N}, OkN d x → Mvd b d x y → OkN d y
 | d + 1, x, y, h, hc => by
  obtain ⟨h1, h2, h3⟩ := h
  obtain ⟨c1, c2, c3, c4⟩ := hc
  refine ⟨by rw [c2]; exact h1, by rw [c4.len]; exact h2, fun k hk => ?_⟩
  obtain ⟨a, ha, q⟩ := c4.mem k hk
  exact Mvd.ok (h3 a ha) q
end Rt
set_option linter.unusedVariables false
set_option linter.unusedSimpArgs false
open Go Go.SL Go.Proofs Pl
namespace Rt
def cnt : Nat → M → Nat
 | 0, _ => 0
 | d + 1, x => 1 + (x.Kids.map (cnt d)).sum
def cntL (d : Nat) (l : List M) : Nat := (l.map (cnt d)).sum
theorem cntL_cons (d : Nat) (x : M) (l : List M) : cntL d (x :: l) = cnt d x + cntL d l := by simp [cntL]
theorem cnt_eq (d : Nat) (x : M) : cnt (d + 1) x = 1 + cntL d x.Kids := rfl
theorem cnt_mem {d : Nat} : ∀ {l : List M} {x : M}, x ∈ l → cnt d x ≤ cntL d l
 | a :: l, x, h => by
  rw [cntL_cons]
  rcases List.mem_cons.1 h with rfl | h
  ·omega
  ·have := cnt_mem (d := d) h; omega
theorem cnt_succ : ∀ {d : Nat} {x : M}, Ok d x → cnt (d + 1) x = cnt d x
 | d + 1, x, h => by
  rw [cnt_eq, cnt_eq]
  have : ∀ l : List M, (∀ k ∈ l, Ok d k) → cntL (d + 1) l = cntL d l := by
   intro l
   induction l with
   | nil => intro _; rfl
   | cons a l ih =>
    intro hl
    rw [cntL_cons, cntL_cons, ih fun k hk => hl k (by simp [hk]), cnt_succ (hl a (by simp))]
  rw [this x.Kids h.2.2]
def pre (s : Str) : Bool := ((decide (s = ([109, 101, 116, 104, 111, 100] : Str)) || decide (s = ([104, 111, 115, 116] : Str))) || decide (s = ([112, 97, 116, 104] : Str))) || decide (s = ([113, 117, 101, 114, 121] : Str))
def lk (s : Str) (env : List Bd) : Int := match env.reverse.find? (fun b => decide (b.Name = s)) with
 | some b => b.TypeZ
 | none => if pre s then 1 else 0
theorem lk_snoc (s : Str) (env : List Bd) (b : Bd) : lk s (env ++ [b]) = if b.Name = s then b.TypeZ else lk s env := by
 unfold lk
 rw [List.reverse_append]
 simp only [List.reverse_cons, List.reverse_nil, List.nil_append, List.cons_append, List.find?_cons]
 by_cases h : b.Name = s <;> simp [h]
theorem lookup_L0_eq {env : List Bd} {s : Str} (hl : env.length ≤ 100000) : ∀ (j n : Nat), j ≤ env.length → j + 1 ≤ n →
  JZ env s n ((j : Int) - 1) = some (match (env.take j).reverse.find? (fun b => decide (b.Name = s)) with | some b => Fl.ret b.TypeZ | none => Fl.go (-1))
 | 0, n + 1, _, _ => by
  rw [JZ, if_neg (by simp)]; simp
 | j + 1, n + 1, h, hn => by
  have hj : j < env.length := by omega
  have e : ((j + 1 : Nat) : Int) - 1 = (j : Int) := by omega
  have hix : ix env (j : Int) = some env[j] := by unfold ix; rw [if_pos (by omega)]; simp [hj]
  have ht : (env.take (j + 1)).reverse = env[j] :: (env.take j).reverse := by
   rw [List.take_succ_eq_append_getElem hj, List.reverse_append]; rfl
  rw [e, JZ, if_pos (by simp), hix, Option.bind_some, Option.bind_some, ht, List.find?_cons]
  by_cases q : env[j].Name = s
  ·rw [if_pos (by simpa using q)]; simp [q]
  ·rw [if_neg (by simpa using q), chk_bind (by constructor <;> omega), lookup_L0_eq hl j n (by omega) (by omega)]
   simp [q]
 | 0, 0, _, h => by omega
 | j + 1, 0, _, h => by omega
theorem lookup_eq {env : List Bd} {s : Str} {n : Nat} (hl : env.length ≤ 100000) (hn : env.length + 1 ≤ n) : Jah n s env = some (lk s env) := by
 unfold Jah
 rw [chk_bind (by constructor <;> omega), lookup_L0_eq hl env.length n (by omega) hn, Option.bind_some, List.take_length]
 unfold lk
 cases env.reverse.find? (fun b => decide (b.Name = s)) with
 | some b => rfl
 | none =>
  rw [el_go]
  show (if pre s = true then some (1 : Int) else some 0) = some (if pre s = true then 1 else 0)
  split <;> rfl
def Ev (e e' : List Bd) : Prop := ∀ s, lk s e ≠ 0 → lk s e' = lk s e
theorem Ev.ext {e : List Bd} {s : Str} {t : Int} (h : lk s e = 0) : Ev e (e ++ [⟨s, t⟩]) := fun q hq => by
 rw [lk_snoc]
 have : s ≠ q := fun e1 => hq (e1 ▸ h)
 rw [if_neg this]
end Rt
set_option linter.unusedVariables false
set_option linter.unusedSimpArgs false
open Go Go.SL Go.Proofs Pl
namespace Rt
def cntN : Nat → N → Nat
 | 0, _ => 0
 | d + 1, x => 1 + (x.Kids.map (cntN d)).sum
def cntNL (d : Nat) (l : List N) : Nat := (l.map (cntN d)).sum
theorem cntNL_cons (d : Nat) (x : N) (l : List N) : cntNL d (x :: l) = cntN d x + cntNL d l := by simp [cntNL]
theorem cntN_eq (d : Nat) (x : N) : cntN (d + 1) x = 1 + cntNL d x.Kids := rfl
theorem weigh_L0_cnt {f : N → Int → Option Int} {e : Int} {d : Nat} : ∀ (l : List N) (i : Nat) (y : Int) (r : Fl Int Int), 1 ≤ y → (∀ k ∈ l, ∀ v, f k (e - 1) = some v → v ≤ 700 → (cntN d k : Int) ≤ v) → Jap e f l i y = some r →
  (∀ z, r = Fl.go z → y + (cntNL d l : Int) ≤ z) ∧ ∀ z, r = Fl.ret z → 700 < z
 | [], i, y, r, _, _, h => by cases h; exact ⟨fun z e => by cases e; simp [cntNL], fun z e => by cases e⟩
 | k :: l, i, y, r, hy, hf, h => by
  rw [Jap] at h
  obtain ⟨_, h1⟩ := chkb h
  obtain ⟨v, hv, h2⟩ := bnd h1
  obtain ⟨_, h3⟩ := chkb h2
  by_cases q : y + v > 700
  ·rw [if_pos (by simpa using q)] at h3
   cases h3
   exact ⟨fun z e => (by cases e), fun z e => by cases e; exact q⟩
  ·rw [if_neg (by simpa using q)] at h3
   have hc := hf k (by simp) v hv (by omega)
   obtain ⟨g1, g2⟩ := weigh_L0_cnt l (i + 1) (y + v) r (by omega) (fun k hk => hf k (by simp [hk])) h3
   refine ⟨fun z e => ?_, g2⟩
   have := g1 z e
   rw [cntNL_cons]; omega
theorem weigh_cnt : ∀ (e n : Nat) (x : N) (v : Int), Jae n x (e : Int) = some v → v ≤ 700 → (cntN e x : Int) ≤ v
 | _, 0, x, v, h, _ => by rw [Jae] at h; cases h
 | 0, n + 1, x, v, h, hv => by
  rw [Jae, if_pos (by simp)] at h
  cases h; omega
 | e + 1, n + 1, x, v, h, hv => by
  rw [Jae] at h
  split at h
  ·cases h; omega
  ·obtain ⟨_, h1⟩ := chkb h
   obtain ⟨r, hr, h2⟩ := bnd h1
   obtain ⟨g1, g2⟩ := weigh_L0_cnt (d := e) x.Kids 0 1 r (by omega) (fun k hk v hv hv2 => by
    rw [show (((e + 1 : Nat) : Int) - 1) = (e : Int) from by omega] at hv
    exact weigh_cnt e n k v hv hv2) hr
   cases r with
   | ret z => rw [el_ret] at h2; cases h2; have := g2 _ rfl; omega
   | go z => rw [el_go] at h2; cases h2; have := g1 _ rfl; rw [cntN_eq]; omega
theorem Large_cnt {n : Nat} {x : N} (h : JaS n x = some false) : cntN 40 x ≤ 700 := by
 unfold JaS at h
 obtain ⟨v, hv, h1⟩ := bnd h
 simp only [Option.some.injEq, decide_eq_false_iff_not] at h1
 have := weigh_cnt 40 n x v hv (by omega)
 omega
theorem Cvd.cnt : ∀ {d : Nat} {x : N} {y : M}, Cvd d x y → Rt.cnt d y = cntN d x
 | d + 1, x, y, ⟨_, _, _, h⟩ => by
  rw [cnt_eq, cntN_eq]
  have : ∀ {l : List N} {k : List M}, A2 (Cvd d) l k → cntL d k = cntNL d l := by
   intro l k h
   induction h with
   | nil => rfl
   | cons hp _ ih => rw [cntL_cons, cntNL_cons, ih, hp.cnt]
  rw [this h]
theorem A2.append {α β : Type} {P : α → β → Prop} {l l' : List α} {k k' : List β} (h : A2 P l k) (h' : A2 P l' k') : A2 P (l ++ l') (k ++ k') := by
 induction h with
 | nil => exact h'
 | cons hp _ ih => exact .cons hp ih
end Rt
set_option linter.unusedVariables false
set_option linter.unusedSimpArgs false
open Go Go.SL Go.Proofs Pl
namespace Rt
def isL (c : UInt8) : Bool := (decide ((c.toNat : Int) ≥ 97) && decide ((c.toNat : Int) ≤ 122)) || decide ((c.toNat : Int) = 95)
def isD (c : UInt8) : Bool := decide ((c.toNat : Int) ≥ 48) && decide ((c.toNat : Int) ≤ 57)
def isA (c : UInt8) : Bool := isL c || isD c
theorem ixn {α : Type} {s : List α} {i : Nat} (h : i < s.length) : ix s (i : Int) = some s[i] := by
 unfold ix; rw [if_pos (by omega)]; exact List.getElem?_eq_getElem h
end Rt
set_option linter.unusedVariables false
set_option linter.unusedSimpArgs false
open Go Go.SL Go.Proofs Pl
namespace Rt
def wdy : Str → Bool
 | [] => false
 | c :: t => isL c && t.all isA
def nmr : Str → Bool
 | [] => false
 | c :: t => isD c && t.all isD && decide (t.length ≤ 8)
end Rt
set_option linter.unusedVariables false
set_option linter.unusedSimpArgs false
open Go Go.SL Go.Proofs Pl
namespace Rt
def kw (s : Str) : Bool := decide (s ∈ gkw0)
def nm (s : Str) : Bool := wdy s && decide (s.length ≤ 4096) && !kw s
theorem digits_L0_eq : ∀ (s : Str) (i : Nat), Jaf s i = some (if s.all isD = true then Fl.go () else Fl.ret false)
 | [], i => rfl
 | c :: s, i => by
  have e : (if decide ((c.toNat : Int) < 48) = true then some true else some (decide ((c.toNat : Int) > 57))) = some (!isD c) := by
   by_cases q : (c.toNat : Int) < 48
   ·have : isD c = false := by simp only [isD, Bool.and_eq_false_iff, decide_eq_false_iff_not]; omega
    rw [if_pos (by simpa using q), this]; rfl
   ·rw [if_neg (by simpa using q)]
    by_cases q2 : (c.toNat : Int) > 57
    ·have : isD c = false := by simp only [isD, Bool.and_eq_false_iff, decide_eq_false_iff_not]; omega
     rw [this, decide_eq_true q2]; rfl
    ·have : isD c = true := by simp only [isD, Bool.and_eq_true, decide_eq_true_eq]; omega
     rw [this, decide_eq_false q2]; rfl
  rw [Jaf, e, Option.bind_some]
  cases q : isD c with
  | true => rw [if_neg (by simp), digits_L0_eq s (i + 1), List.all_cons, q]; rfl
  | false => rw [if_pos (by simp), List.all_cons, q]; rfl
theorem digits_eq {s : Str} (h : s.length ≤ 3000) : Ja1 s = some (nmr s) := by
 unfold Ja1
 rw [chk_bind (by simp only [szMax]; omega), digits_L0_eq, Option.bind_some]
 cases s with
 | nil => rfl
 | cons c t =>
  rw [nmr, List.all_cons]
  cases q : (isD c && t.all isD) with
  | true =>
   rw [if_pos rfl, el_go, Bool.true_and]
   have e1 : decide (((c :: t).length : Int) ≥ 1) = true := by simp only [List.length_cons, decide_eq_true_eq]; omega
   have e2 : decide (((c :: t).length : Int) ≤ 9) = decide (t.length ≤ 8) := by
    simp only [List.length_cons, decide_eq_decide]; omega
   rw [e1, e2, Bool.true_and]
  | false => rw [if_neg (by simp), el_ret, Bool.false_and]
def prt (s : Str) : Bool := s.all fun c => !(decide ((c.toNat : Int) < 32) || decide ((c.toNat : Int) > 126))
theorem prt_cons (c : UInt8) (s : Str) : prt (c :: s) = (!(decide ((c.toNat : Int) < 32) || decide ((c.toNat : Int) > 126)) && prt s) := by simp [prt]
theorem prt_cond (c : UInt8) : (if decide ((c.toNat : Int) < 32) = true then some true else some (decide ((c.toNat : Int) > 126))) = some (decide ((c.toNat : Int) < 32) || decide ((c.toNat : Int) > 126)) := by
 cases decide ((c.toNat : Int) < 32) <;> simp
theorem esc_cond (c : UInt8) : (if decide ((c.toNat : Int) = 34) = true then some true else some (decide ((c.toNat : Int) = 92))) = some (decide ((c.toNat : Int) = 34) || decide ((c.toNat : Int) = 92)) := by
 cases decide ((c.toNat : Int) = 34) <;> simp
theorem quote_L0_eq : ∀ (s : Str) (i : Nat) (y : Str), y.length + 2 * s.length ≤ 1000000 → ∃ r, Jai s i y = some r ∧ (prt s = true → ∃ z, r = Fl.go z ∧ z.length ≤ 1000000) ∧ (prt s = false → r = Fl.ret ([], some 2))
 | [], i, y, h => ⟨_, rfl, fun _ => ⟨_, rfl, by simpa using h⟩, fun h => (by simp [prt] at h)⟩
 | c :: s, i, y, h => by
  simp only [List.length_cons] at h
  rw [Jai, prt_cond, Option.bind_some, prt_cons]
  cases q : (decide ((c.toNat : Int) < 32) || decide ((c.toNat : Int) > 126)) with
  | true => exact ⟨_, if_pos rfl, fun h => (by simp at h), fun _ => rfl⟩
  | false =>
   rw [if_neg (by simp), esc_cond, Option.bind_some, Bool.not_false, Bool.true_and]
   cases q2 : (decide ((c.toNat : Int) = 34) || decide ((c.toNat : Int) = 92)) with
   | true =>
    rw [if_pos rfl, chk_bind (by simp only [lim, List.length_cons, List.length_nil]; omega), chk_bind (by simp only [lim, List.length_append, List.length_cons, List.length_nil]; omega)]
    exact quote_L0_eq s (i + 1) _ (by simp only [List.length_append, List.length_cons, List.length_nil]; omega)
   | false =>
    rw [if_neg (by simp), chk_bind (by simp only [lim, List.length_cons, List.length_nil]; omega)]
    exact quote_L0_eq s (i + 1) _ (by simp only [List.length_append, List.length_cons, List.length_nil]; omega)
theorem printable_eq {s : Str} (h : s.length ≤ 3000) : Jag s = some (prt s) := by
 obtain ⟨r, hr, g1, g2⟩ := quote_L0_eq s 0 [34] (by simp <;> omega)
 unfold Jag Jbh
 rw [chk_bind (by simp only [szMax]; omega), hr, Option.bind_some]
 cases q : prt s with
 | false => rw [g2 q, el_ret]; rfl
 | true =>
  obtain ⟨z, rfl, hz⟩ := g1 q
  rw [el_go, chk_bind (by simp only [lim, List.length_cons, List.length_nil]; omega)]; rfl
end Rt
set_option linter.unusedVariables false
set_option linter.unusedSimpArgs false
open Go Go.SL Go.Proofs Pl
namespace Rt
end Rt
set_option linter.unusedVariables false
set_option linter.unusedSimpArgs false
open Go Go.SL Go.Proofs Pl
namespace Rt
theorem A2.imp_mem {α β : Type} {P Q : α → β → Prop} {l : List α} {k : List β} (h : A2 P l k) (hf : ∀ a ∈ l, ∀ b, P a b → Q a b) : A2 Q l k := by
 induction h with
 | nil => exact .nil
 | cons hp _ ih => exact .cons (hf _ (by simp) _ hp) (ih fun a ha => hf a (by simp [ha]))
def Sm (f : N → Option Bool) (g : M → Option Bool) (x : N) (y : M) : Prop := ∃ b, f x = some b ∧ g y = some b
def cmp (s : Str) : Bool := decide (s = [61, 61]) || (decide (s = [33, 61]) || (decide (s = [60]) || (decide (s = [60, 61]) || (decide (s = [115, 116, 97, 114, 116, 115]) || (decide (s = [101, 110, 100, 115]) || decide (s = [99, 111, 110, 116, 97, 105, 110, 115]))))))
theorem compares_eq (s : Str) : ((Jan 4 s).bind fun x22 => (if x22 = true then some true else (Jan 1 s).bind fun x26 => some x26)) = some (cmp s) := by
 by_cases h1 : s = [61, 61]; · subst h1; rfl
 by_cases h2 : s = [33, 61]; · subst h2; rfl
 by_cases h3 : s = [60]; · subst h3; rfl
 by_cases h4 : s = [60, 61]; · subst h4; rfl
 by_cases h5 : s = [115, 116, 97, 114, 116, 115]; · subst h5; rfl
 by_cases h6 : s = [101, 110, 100, 115]; · subst h6; rfl
 by_cases h7 : s = [99, 111, 110, 116, 97, 105, 110, 115]; · subst h7; rfl
 simp [Jan, h1, h2, h3, h4, h5, h6, h7, cmp]
end Rt
set_option linter.unusedVariables false
set_option linter.unusedSimpArgs false
open Go Go.SL Go.Proofs Pl
namespace Rt
theorem Sm.ix {f : N → Option Bool} {g : M → Option Bool} {l : List N} {k : List M} (h : A2 (Sm f g) l k) {i : Int} (h0 : 0 ≤ i) (h1 : i < (l.length : Int)) : ∃ a b r, ix l i = some a ∧ ix k i = some b ∧ f a = some r ∧ g b = some r := by
 induction h generalizing i with
 | nil => simp at h1; omega
 | cons hp _ ih =>
  rename_i a b l k _
  simp only [List.length_cons] at h1
  by_cases q : i = 0
  ·subst q
   obtain ⟨r, h2, h3⟩ := hp
   exact ⟨a, b, r, rfl, rfl, h2, h3⟩
  ·obtain ⟨a', b', r, e1, e2, e3, e4⟩ := ih (i := i - 1) (by omega) (by omega)
   have st : ∀ {α : Type} (x : α) (t : List α), Go.SL.ix (x :: t) i = Go.SL.ix t (i - 1) := fun x t => by
    unfold Go.SL.ix
    rw [if_pos h0, if_pos (by omega), show i.toNat = (i - 1).toNat + 1 from by omega, List.getElem?_cons_succ]
   exact ⟨a', b', r, by rw [st, e1], by rw [st, e2], e3, e4⟩
theorem A2.ix {α β : Type} {P : α → β → Prop} {l : List α} {k : List β} (h : A2 P l k) {i : Int} (h0 : 0 ≤ i) (h1 : i < (l.length : Int)) : ∃ a b, ix l i = some a ∧ ix k i = some b ∧ P a b ∧ a ∈ l := by
 induction h generalizing i with
 | nil => simp at h1; omega
 | cons hp _ ih =>
  rename_i a b l k _
  simp only [List.length_cons] at h1
  by_cases q : i = 0
  ·subst q
   exact ⟨a, b, rfl, rfl, hp, by simp⟩
  ·obtain ⟨a', b', e1, e2, e3, e4⟩ := ih (i := i - 1) (by omega) (by omega)
   have st : ∀ {α : Type} (x : α) (t : List α), Go.SL.ix (x :: t) i = Go.SL.ix t (i - 1) := fun x t => by
    unfold Go.SL.ix
    rw [if_pos h0, if_pos (by omega), show i.toNat = (i - 1).toNat + 1 from by omega, List.getElem?_cons_succ]
   exact ⟨a', b', by rw [st, e1], by rw [st, e2], e3, by simp [e4]⟩
end Rt
set_option linter.unusedVariables false
set_option linter.unusedSimpArgs false
open Go Go.SL Go.Proofs Pl
namespace Rt
theorem fail_some {a e : Int} {x : M} {f : Err} : JA ⟨a, some e⟩ x f = some ⟨a, some e⟩ := rfl
theorem fail_new {a : Int} {x : M} {f : Err} : JA ⟨a, none⟩ x f = some ⟨x.Line, f⟩ := rfl
theorem cexpr_L0_same {f : Ck → M → List Bd → Option (Int × Ck)} {env : List Bd} {a e : Int} (hf : ∀ k r, f ⟨a, some e⟩ k env = some r → r.2 = ⟨a, some e⟩) : ∀ (l : List M) (i : Nat) (y : List Int) (r : Fl (Int × Ck) (List Int × Int × Err)), JC f env l i y a (some e) = some r →
  (∀ z, r = Fl.ret z → z.2 = ⟨a, some e⟩) ∧ ∀ z, r = Fl.go z → z.2.1 = a ∧ z.2.2 = some e
 | [], i, y, r, h => by
  cases h
  exact ⟨fun z q => (by cases q), fun z q => by cases q; exact ⟨rfl, rfl⟩⟩
 | k :: l, i, y, r, h => by
  rw [JC] at h
  obtain ⟨x, hx, h1⟩ := bnd h
  obtain ⟨_, h2⟩ := chkb h1
  have hs := hf _ _ hx
  rw [hs, if_pos (by simp)] at h2
  cases h2
  exact ⟨fun z q2 => (by cases q2; rfl), fun z q => by cases q⟩
theorem call_same {a e : Int} {x : M} {l : List Int} {r : Int × Ck} (h : JM ⟨a, some e⟩ x l = some r) : r.2 = ⟨a, some e⟩ := by
 unfold JM at h
 obtain ⟨f, hf, h1⟩ := bnd h
 split at h1
 ·rw [fail_some] at h1; cases h1; rfl
 ·obtain ⟨b, hb, h2⟩ := bnd h1
  split at h2
  ·rw [fail_some] at h2; cases h2; rfl
  ·cases h2; rfl
theorem cexpr_same {env : List Bd} {a e : Int} : ∀ (n : Nat) (x : M) (r : Int × Ck), Jy n ⟨a, some e⟩ x env = some r → r.2 = ⟨a, some e⟩
 | 0, x, r, h => by rw [Jy] at h; cases h
 | n + 1, x, r, h => by
  rw [Jy] at h
  obtain ⟨_, h1⟩ := chkb h
  obtain ⟨s, hs, h2⟩ := bnd h1
  obtain ⟨g1, g2⟩ := cexpr_L0_same (a := a) (e := e) (fun k r => cexpr_same n k r) x.Kids 0 [] s hs
  cases s with
  | ret z => rw [el_ret] at h2; cases h2; exact g1 _ rfl
  | go z =>
   obtain ⟨z1, z2, z3⟩ := z
   obtain ⟨k1, k2⟩ := g2 _ rfl
   simp only at k1 k2
   subst k1
   subst k2
   rw [el_go] at h2
   by_cases q20 : x.Kind = 20
   ·rw [if_pos (by simpa using q20)] at h2; cases h2; rfl
   rw [if_neg (by simpa using q20)] at h2
   by_cases q21 : x.Kind = 21
   ·rw [if_pos (by simpa using q21)] at h2; cases h2; rfl
   rw [if_neg (by simpa using q21)] at h2
   by_cases q22 : x.Kind = 22
   ·rw [if_pos (by simpa using q22)] at h2; cases h2; rfl
   rw [if_neg (by simpa using q22)] at h2
   by_cases q23 : x.Kind = 23
   ·rw [if_pos (by simpa using q23)] at h2
    obtain ⟨u, hu, h3⟩ := bnd h2
    split at h3
    ·rw [fail_some] at h3; cases h3; rfl
    ·cases h3; rfl
   rw [if_neg (by simpa using q23)] at h2
   by_cases q24 : x.Kind = 24
   ·rw [if_pos (by simpa using q24)] at h2
    obtain ⟨u, hu, h3⟩ := bnd h2
    cases h3; exact call_same hu
   rw [if_neg (by simpa using q24)] at h2
   obtain ⟨u, hu, h3⟩ := bnd h2
   split at h3
   ·rw [fail_some] at h3; cases h3; rfl
   ·cases h3; rfl
theorem block_L0_same {n : Nat} {f : Ck → List M → List Bd → Option Ck} {a e : Int} : ∀ (l : List M) (i : Nat) (env : List Bd) (r : Fl Ck (List Bd × Int × Err)), Jm n f l i env a (some e) = some r →
  (∀ z, r = Fl.ret z → z = ⟨a, some e⟩) ∧ ∀ z, r = Fl.go z → z.2.1 = a ∧ z.2.2 = some e
 | [], i, env, r, h => by
  cases h
  exact ⟨fun z q => (by cases q), fun z q => by cases q; exact ⟨rfl, rfl⟩⟩
 | x :: l, i, env, r, h => by
  rw [Jm] at h
  cases q : decide ((x.Kids.length : Int) = 0) with
  | true => rw [q, if_pos rfl] at h; exact block_L0_same l (i + 1) env r h
  | false =>
   rw [q, if_neg (by simp)] at h
   obtain ⟨k, hk, h1⟩ := bnd h
   obtain ⟨t, ht, h2⟩ := bnd h1
   obtain ⟨nd, _, h3⟩ := bnd h2
   have hs := cexpr_same n _ _ ht
   rw [hs, if_neg (by simp), if_pos (by simp)] at h3
   cases h3
   exact ⟨fun z q3 => (by cases q3; rfl), fun z q => by cases q⟩
theorem block_same : ∀ (n : Nat) (a e : Int) (l : List M) (env : List Bd) (r : Ck), Jp n ⟨a, some e⟩ l env = some r → r = ⟨a, some e⟩
 | 0, a, e, l, env, r, h => by rw [Jp] at h; cases h
 | n + 1, a, e, l, env, r, h => by
  rw [Jp] at h
  obtain ⟨_, h1⟩ := chkb h
  obtain ⟨s, hs, h2⟩ := bnd h1
  obtain ⟨g1, g2⟩ := block_L0_same l 0 env s hs
  cases s with
  | ret z => rw [el_ret] at h2; cases h2; exact g1 _ rfl
  | go z =>
   rw [el_go] at h2; cases h2
   obtain ⟨k1, k2⟩ := g2 z rfl
   rw [k1, k2]
abbrev Env := Str → Int
abbrev Fault := Int × Int
def base : Env := fun s => if pre s then 1 else 0
def ext (ρ : Env) (s : Str) (t : Int) : Env := fun q => if s = q then t else ρ q
def lkf (env : List Bd) : Env := fun s => lk s env
theorem lkf_nil : lkf [] = base := rfl
theorem lkf_snoc (env : List Bd) (s : Str) (t : Int) : lkf (env ++ [⟨s, t⟩]) = ext (lkf env) s t := by
 funext q; exact lk_snoc q env ⟨s, t⟩
def kidsE (f : M → Except Fault Int) : List M → Except Fault (List Int)
 | [] => .ok []
 | k :: l => match f k with
  | .error e => .error e
  | .ok t => match kidsE f l with
   | .error e => .error e
   | .ok ts => .ok (t :: ts)
noncomputable def fnc (s : Str) : Int × Int := (J4 s).getD (0, 0)
noncomputable def opr (x : M) (ts : List Int) : Int := (JH x ts).getD 0
noncomputable def tyN (ρ : Env) (x : M) (ts : List Int) : Except Fault Int :=
 if x.Kind = 20 then .ok 2
 else if x.Kind = 21 then .ok 1
 else if x.Kind = 22 then .ok 3
 else if x.Kind = 23 then (if ρ x.Text = 0 then .error (x.Line, 8) else .ok (ρ x.Text))
 else if x.Kind = 24 then (if (fnc x.Text).2 = 0 then .error (x.Line, 8) else if ts = [(fnc x.Text).1] then .ok (fnc x.Text).2 else .error (x.Line, 9))
 else if opr x ts = 0 then .error (x.Line, 9) else .ok (opr x ts)
noncomputable def tyE : Nat → Env → M → Except Fault Int
 | 0, _, _ => .error (0, 9)
 | d + 1, ρ, x => match kidsE (tyE d ρ) x.Kids with
  | .error e => .error e
  | .ok ts => tyN ρ x ts
theorem kidsE_len {f : M → Except Fault Int} : ∀ {l : List M} {ts : List Int}, kidsE f l = .ok ts → ts.length = l.length
 | [], ts, h => by cases h; rfl
 | k :: l, ts, h => by
  rw [kidsE] at h
  cases q : f k with
  | error e => rw [q] at h; cases h
  | ok t =>
   rw [q] at h
   simp only at h
   cases q2 : kidsE f l with
   | error e => rw [q2] at h; cases h
   | ok us => rw [q2] at h; cases h; simp [kidsE_len q2]
def Res (a : Int) (r : Except Fault Int) (t : Int) (c : Ck) : Prop := match r with
 | .ok v => t = v ∧ c = ⟨a, none⟩
 | .error e => c = ⟨e.1, some e.2⟩
theorem cexpr_L0_pure {f : Ck → M → List Bd → Option (Int × Ck)} {g : M → Except Fault Int} {env : List Bd} {a : Int} : ∀ (l : List M) (i : Nat) (y : List Int), (∀ k ∈ l, ∃ t c, f ⟨a, none⟩ k env = some (t, c) ∧ Res a (g k) t c) → y.length + l.length ≤ 1000 →
  ∃ r, JC f env l i y a none = some r ∧ match kidsE g l with
   | .ok ts => r = Fl.go (y ++ ts, a, none)
   | .error e => r = Fl.ret (0, ⟨e.1, some e.2⟩)
 | [], i, y, _, _ => ⟨_, rfl, by simp [kidsE]⟩
 | k :: l, i, y, h, hy => by
  simp only [List.length_cons] at hy
  obtain ⟨t, c, hr, hq⟩ := h k (by simp)
  rw [JC, hr, Option.bind_some, chk_bind (by simp only [lim, List.length_cons, List.length_nil]; omega), kidsE]
  unfold Res at hq
  cases q : g k with
  | error e =>
   rw [q] at hq
   simp only at hq
   subst hq
   exact ⟨_, if_pos rfl, rfl⟩
  | ok v =>
   rw [q] at hq
   simp only at hq
   obtain ⟨rfl, rfl⟩ := hq
   simp only [Option.isSome_none, Bool.false_eq_true, if_false]
   obtain ⟨r, hr, h2⟩ := cexpr_L0_pure (f := f) (g := g) (env := env) (a := a) l (i + 1) (y ++ [t]) (fun k hk => h k (by simp [hk])) (by simp only [List.length_append, List.length_cons, List.length_nil]; omega)
   refine ⟨r, hr, ?_⟩
   cases q2 : kidsE g l with
   | error e => rw [q2] at h2; exact h2
   | ok ts => rw [q2] at h2; rw [h2]; simp
theorem fnc_eq (s : Str) : J4 s = some (fnc s) := by
 obtain ⟨r, hr⟩ := function_ok s
 unfold fnc; rw [hr]; rfl
theorem opr_eq {x : M} {l : List Int} (h : l.length ≤ 1000) (h16 : x.Kind = 16 → l.length = 2) : JH x l = some (opr x l) := by
 obtain ⟨r, hr⟩ := operator_ok h h16
 unfold opr; rw [hr]; rfl
theorem call_pure {a : Int} {x : M} {l : List Int} : JM ⟨a, none⟩ x l = some ((fnc x.Text).2, if (fnc x.Text).2 = 0 then ⟨x.Line, some 8⟩ else if l = [(fnc x.Text).1] then ⟨a, none⟩ else ⟨x.Line, some 9⟩) := by
 unfold JM
 rw [fnc_eq, Option.bind_some]
 by_cases q : (fnc x.Text).2 = 0
 ·rw [if_pos (by simpa using q), fail_new, if_pos q]; rfl
 ·rw [if_neg (by simpa using q), if_neg q]
  match l with
  | [] => rw [if_pos (by simp), Option.bind_some, if_pos rfl, fail_new, if_neg (by simp)]; rfl
  | [t] =>
   rw [if_neg (by simp), show ix [t] 0 = some t from rfl, Option.bind_some, Option.bind_some]
   by_cases q2 : t = (fnc x.Text).1
   ·rw [if_neg (by simpa using q2), if_pos (by rw [q2])]
   ·rw [if_pos (by simpa using q2), fail_new, if_neg (by simpa using q2)]; rfl
  | t :: u :: l => rw [if_pos (by simp; omega), Option.bind_some, if_pos rfl, fail_new, if_neg (by simp)]; rfl
theorem cexpr_pure {env : List Bd} (he : env.length ≤ 100000) {a : Int} : ∀ (d n m : Nat) (x : M), Ok d x → Jo m x = some true → d + 200000 ≤ n → ∃ t c, Jy n ⟨a, none⟩ x env = some (t, c) ∧ Res a (tyE d (lkf env) x) t c
 | d + 1, 0, m, x, _, _, hn => by omega
 | d + 1, n + 1, m, x, h, hv, hn => by
  obtain ⟨h1, h2, h3⟩ := h
  obtain ⟨m', k, rfl, hk, k2, k3, k4⟩ := expression_inv hv
  obtain ⟨r, hr, hl⟩ := cexpr_L0_pure (f := Jy n) (g := tyE d (lkf env)) (env := env) (a := a) x.Kids 0 [] (fun q hq => cexpr_pure he d n m' q (h3 q hq) (k4 q hq) (by omega)) (by simp <;> omega)
  rw [Jy, chk_bind (by simp only [szMax]; omega), hr, Option.bind_some, tyE]
  cases q : kidsE (tyE d (lkf env)) x.Kids with
  | error e =>
   rw [q] at hl
   simp only at hl
   subst hl
   exact ⟨_, _, rfl, rfl⟩
  | ok ts =>
   rw [q] at hl
   simp only [List.nil_append] at hl
   subst hl
   have hlen := kidsE_len q
   simp only [el_go, tyN]
   by_cases q20 : x.Kind = 20
   ·rw [if_pos (by simpa using q20), if_pos q20]; exact ⟨_, _, rfl, rfl, rfl⟩
   rw [if_neg (by simpa using q20), if_neg q20]
   by_cases q21 : x.Kind = 21
   ·rw [if_pos (by simpa using q21), if_pos q21]; exact ⟨_, _, rfl, rfl, rfl⟩
   rw [if_neg (by simpa using q21), if_neg q21]
   by_cases q22 : x.Kind = 22
   ·rw [if_pos (by simpa using q22), if_pos q22]; exact ⟨_, _, rfl, rfl, rfl⟩
   rw [if_neg (by simpa using q22), if_neg q22]
   by_cases q23 : x.Kind = 23
   ·rw [if_pos (by simpa using q23), if_pos q23, lookup_eq he (by omega), Option.bind_some]
    by_cases q0 : lk x.Text env = 0
    ·rw [if_pos (by simpa using q0), fail_new, Option.bind_some, if_pos (show lkf env x.Text = 0 from q0)]; exact ⟨_, _, rfl, rfl⟩
    ·rw [if_neg (by simpa using q0), if_neg (show ¬ lkf env x.Text = 0 from q0)]; exact ⟨_, _, rfl, rfl, rfl⟩
   rw [if_neg (by simpa using q23), if_neg q23]
   by_cases q24 : x.Kind = 24
   ·rw [if_pos (by simpa using q24), if_pos q24, call_pure, Option.bind_some]
    refine ⟨_, _, rfl, ?_⟩
    by_cases q0 : (fnc x.Text).2 = 0
    ·rw [if_pos q0, if_pos q0]; rfl
    ·rw [if_neg q0, if_neg q0]
     by_cases q1 : ts = [(fnc x.Text).1]
     ·rw [if_pos q1, if_pos q1]; exact ⟨rfl, rfl⟩
     ·rw [if_neg q1, if_neg q1]; rfl
   rw [if_neg (by simpa using q24), if_neg q24, opr_eq (by omega) fun h16 => by
    rcases operands_16 h16 hk with rfl | rfl
    ·have := k3 (by omega); omega
    ·exact absurd rfl k2]
   rw [Option.bind_some]
   by_cases q0 : opr x ts = 0
   ·rw [if_pos (by simpa using q0), fail_new, Option.bind_some, if_pos q0]; exact ⟨_, _, rfl, rfl⟩
   ·rw [if_neg (by simpa using q0), if_neg q0]; exact ⟨_, _, rfl, rfl, rfl⟩
def nds (k : Int) : Int := if k = 2 then 3 else if k = 4 then 1 else if k = 5 then 1 else if k = 7 then 1 else if k = 8 then 2 else if k = 9 then 2 else 0
theorem nds_eq (x : M) : JaL x = some (nds x.Kind) := by
 unfold JaL nds
 by_cases h1 : x.Kind = 2; · rw [if_pos (by simpa using h1), if_pos h1]
 rw [if_neg (by simpa using h1), if_neg h1]
 by_cases h2 : x.Kind = 4; · rw [if_pos (by simpa using h2), if_pos h2]
 rw [if_neg (by simpa using h2), if_neg h2]
 by_cases h3 : x.Kind = 5; · rw [if_pos (by simpa using h3), if_pos h3]
 rw [if_neg (by simpa using h3), if_neg h3]
 by_cases h4 : x.Kind = 7; · rw [if_pos (by simpa using h4), if_pos h4]
 rw [if_neg (by simpa using h4), if_neg h4]
 by_cases h5 : x.Kind = 8; · rw [if_pos (by simpa using h5), if_pos h5]
 rw [if_neg (by simpa using h5), if_neg h5]
 by_cases h6 : x.Kind = 9; · rw [if_pos (by simpa using h6), if_pos h6]
 rw [if_neg (by simpa using h6), if_neg h6]
def brn (k : M) : List M := if k.Kind = 12 then k.Kids else [k]
theorem brn_eq (k : M) : J1 k = some (brn k) := by
 unfold J1 brn
 by_cases h : k.Kind = 12
 ·rw [if_pos (by simpa using h), if_pos h]
 ·rw [if_neg (by simpa using h), if_neg h]
def foldS (g : Env → M → Except Fault Env) : Env → List M → Except Fault Env
 | ρ, [] => .ok ρ
 | ρ, x :: l => match g ρ x with
  | .error e => .error e
  | .ok ρ' => foldS g ρ' l
def brs (g : M → Except Fault Env) : List M → Option Fault
 | [] => none
 | k :: l => match g k with
  | .error e => some e
  | .ok _ => brs g l
noncomputable def stm : Nat → Env → M → Except Fault Env
 | 0, _, _ => .error (0, 9)
 | d + 1, ρ, x => match x.Kids with
  | [] => .ok ρ
  | k0 :: ks => match tyE d ρ k0 with
   | .error e => .error e
   | .ok t =>
    if nds x.Kind ≠ 0 ∧ t ≠ nds x.Kind then .error (x.Line, 9)
    else if x.Kind = 3 then (if ρ x.Text = 0 then .ok (ext ρ x.Text t) else .error (x.Line, 4))
    else if x.Kind = 2 then (match brs (fun k => foldS (stm d) ρ (brn k)) ks with
     | some e => .error e
     | none => .ok ρ)
    else .ok ρ
def fin (a : Int) (r : Except Fault Env) : Ck := match r with
 | .ok _ => ⟨a, none⟩
 | .error e => ⟨e.1, some e.2⟩
theorem L3_same {f : Ck → List M → List Bd → Option Ck} {env : List Bd} {a e : Int} (hs : ∀ l r, f ⟨a, some e⟩ l env = some r → r = ⟨a, some e⟩) : ∀ (l : List M) (i : Nat), (∀ k ∈ l, ∃ r, f ⟨a, some e⟩ (brn k) env = some r) → Jn f env l i a (some e) = some (a, some e)
 | [], i, _ => rfl
 | k :: l, i, h => by
  obtain ⟨r, hr⟩ := h k (by simp)
  have := hs _ _ hr
  rw [Jn, brn_eq, Option.bind_some, hr, Option.bind_some, this]
  exact L3_same hs l (i + 1) fun q hq => h q (by simp [hq])
theorem L3_pure {f : Ck → List M → List Bd → Option Ck} {g : M → Except Fault Env} {env : List Bd} {a : Int} (hs : ∀ a e l r, f ⟨a, some e⟩ l env = some r → r = ⟨a, some e⟩) : ∀ (l : List M) (i : Nat), (∀ k ∈ l, f ⟨a, none⟩ (brn k) env = some (fin a (g k))) → (∀ k ∈ l, ∀ c, ∃ r, f c (brn k) env = some r) →
  Jn f env l i a none = some (match brs g l with
   | none => (a, none)
   | some e => (e.1, some e.2))
 | [], i, _, _ => rfl
 | k :: l, i, h, h' => by
  rw [Jn, brn_eq, Option.bind_some, h k (by simp), Option.bind_some, brs]
  cases q : g k with
  | error e => exact L3_same (fun l r => hs _ _ l r) l (i + 1) fun q hq => h' q (by simp [hq]) _
  | ok ρ => exact L3_pure hs l (i + 1) (fun q hq => h q (by simp [hq])) fun q hq => h' q (by simp [hq])
theorem drop1 {α : Type} {x : α} {l : List α} : subL (x :: l) (1 : Int) (((x :: l).length : Nat) : Int) = l := by
 unfold subL
 rw [show ((1 : Int)).toNat = 1 from rfl, List.drop_succ_cons, List.drop_zero, List.take_of_length_le (by simp only [List.length_cons]; omega)]
set_option maxRecDepth 100000 in
theorem block_L0_pure {n d : Nat} {f : Ck → List M → List Bd → Option Ck} {a : Int} (hn : d + 200000 ≤ n)
  (hs : ∀ env a e l r, f ⟨a, some e⟩ l env = some r → r = ⟨a, some e⟩)
  (hf : ∀ (l : List M) (env : List Bd), (∀ x ∈ l, Gd d x) → l.length ≤ 700 → env.length + 701 * (d + 1) ≤ 90000 → f ⟨a, none⟩ l env = some (fin a (foldS (stm d) (lkf env) l)))
  (hx : ∀ (l : List M) (env : List Bd) (c : Ck), (∀ x ∈ l, Gd d x) → l.length ≤ 700 → env.length + 701 * (d + 1) ≤ 90000 → ∃ r, f c l env = some r) :
  ∀ (l : List M) (i : Nat) (env : List Bd), (∀ x ∈ l, Gd (d + 1) x) → env.length + l.length + 701 * (d + 1) ≤ 90000 →
   ∃ r, Jm n f l i env a none = some r ∧ match foldS (stm (d + 1)) (lkf env) l with
    | .ok ρ => ∃ env', r = Fl.go (env', a, none) ∧ lkf env' = ρ ∧ env'.length ≤ env.length + l.length
    | .error e => r = Fl.ret ⟨e.1, some e.2⟩
 | [], i, env, _, _ => ⟨_, rfl, env, rfl, rfl, by simp⟩
 | x :: l, i, env, hg, he => by
  simp only [List.length_cons] at he
  have hgl : ∀ x ∈ l, Gd (d + 1) x := fun q hq => hg q (by simp [hq])
  have rec_ : ∀ env', env'.length ≤ env.length + 1 → ∃ r, Jm n f l (i + 1) env' a none = some r ∧ match foldS (stm (d + 1)) (lkf env') l with
    | .ok ρ => ∃ env2, r = Fl.go (env2, a, none) ∧ lkf env2 = ρ ∧ env2.length ≤ env.length + (l.length + 1)
    | .error e => r = Fl.ret ⟨e.1, some e.2⟩ := fun env' h1 => by
   obtain ⟨r, hr, h2⟩ := block_L0_pure hn hs hf hx l (i + 1) env' hgl (by omega)
   refine ⟨r, hr, ?_⟩
   cases q : foldS (stm (d + 1)) (lkf env') l with
   | error e => rw [q] at h2; exact h2
   | ok ρ => rw [q] at h2; obtain ⟨e2, a1, a2, a3⟩ := h2; exact ⟨e2, a1, a2, by omega⟩
  obtain ⟨hok, m, hm⟩ := hg x (by simp)
  obtain ⟨m, rfl, hv0, hv2⟩ := stated_inv hm
  obtain ⟨o1, o2, o3⟩ := hok
  rw [Jm, foldS]
  simp only [List.length_cons]
  cases hk : x.Kids with
  | nil =>
   rw [if_pos (by simp), stm, hk]
   exact rec_ env (by omega)
  | cons k0 ks =>
   have hk0 : k0 ∈ x.Kids := by rw [hk]; simp
   obtain ⟨t, c, ht, hR⟩ := cexpr_pure (env := env) (by omega) (a := a) d n m k0 (o3 k0 hk0) (hv0 k0 (by rw [hk]; rfl)) (by omega)
   rw [if_neg (by simp; omega), show ix (k0 :: ks) 0 = some k0 from rfl, Option.bind_some, ht, Option.bind_some, nds_eq, Option.bind_some, stm, hk]
   simp only
   unfold Res at hR
   cases q : tyE d (lkf env) k0 with
   | error e =>
    rw [q] at hR
    simp only at hR
    subst hR
    rw [if_neg (by simp), if_pos (by simp)]
    exact ⟨_, rfl, rfl⟩
   | ok v =>
    rw [q] at hR
    simp only at hR
    obtain ⟨rfl, rfl⟩ := hR
    simp only
    by_cases qn : nds x.Kind ≠ 0 ∧ t ≠ nds x.Kind
    ·rw [if_pos (by simpa using qn), fail_new, Option.bind_some, if_pos (by simp), if_pos qn]
     exact ⟨_, rfl, rfl⟩
    ·rw [if_neg (by simpa using qn), if_neg qn, if_neg (by simp)]
     by_cases q3 : x.Kind = 3
     ·rw [if_pos (by simpa using q3), if_pos q3]
      unfold Jac
      rw [lookup_eq (by omega) (by omega), Option.bind_some, Option.bind_some, extended_eq (by omega)]
      by_cases q0 : lk x.Text env = 0
      ·rw [if_neg (by simpa using q0), Option.bind_some, if_neg (by simp), if_pos (show lkf env x.Text = 0 from q0)]
       simp only
       rw [← lkf_snoc]
       exact rec_ _ (by simp)
      ·rw [if_pos (by simpa using q0), fail_new, Option.bind_some, Option.bind_some, if_pos (by simp), if_neg (show ¬ lkf env x.Text = 0 from q0)]
       exact ⟨_, rfl, rfl⟩
     ·rw [if_neg (by simpa using q3), if_neg q3]
      by_cases q2 : x.Kind = 2
      ·obtain ⟨l2, hb⟩ := hv2 q2
       rw [hk] at l2 hb
       have hbr : ∀ k ∈ ks, (∀ q ∈ brn k, Gd d q) ∧ (brn k).length ≤ 700 := fun k hk1 => by
        have hk2 : k ∈ x.Kids := by rw [hk]; simp [hk1]
        obtain ⟨l', e1, e2, e3⟩ := branch_ok (o3 k hk2) ((hb k (by simpa using hk1)).imp (fun h => ⟨h.1, fun q hq => ⟨m, h.2 q hq⟩⟩) fun h => ⟨h.1, m, h.2⟩)
        rw [brn_eq] at e1
        cases e1
        exact ⟨e3, e2⟩
       have hkl : (k0 :: ks).length ≤ 700 := by rw [← hk]; exact o2
       rw [if_pos (by simpa using q2), if_pos q2, chk_bind (by simp only [List.length_cons] at l2 ⊢; omega), drop1, chk_bind (by simp only [szMax]; simp only [List.length_cons] at hkl; omega),
        L3_pure (g := fun k => foldS (stm d) (lkf env) (brn k)) (hs env) ks 0 (fun k hk1 => hf _ _ (hbr k hk1).1 (hbr k hk1).2 (by omega)) (fun k hk1 c => hx _ _ c (hbr k hk1).1 (hbr k hk1).2 (by omega)), Option.bind_some]
       cases brs (fun k => foldS (stm d) (lkf env) (brn k)) ks with
       | some e => rw [if_pos (by simp)]; exact ⟨_, rfl, rfl⟩
       | none => rw [if_neg (by simp)]; exact rec_ env (by omega)
      ·rw [if_neg (by simpa using q2), if_neg q2, if_neg (by simp)]
       exact rec_ env (by omega)
set_option maxRecDepth 100000 in
theorem block_pure {a : Int} : ∀ (d n : Nat) (l : List M) (env : List Bd), (∀ x ∈ l, Gd d x) → l.length ≤ 700 → env.length + 701 * (d + 1) ≤ 90000 → d + 300000 ≤ n → Jp n ⟨a, none⟩ l env = some (fin a (foldS (stm d) (lkf env) l))
 | d, 0, l, env, _, _, _, hn => by omega
 | 0, n + 1, l, env, hg, hl, he, hn => by
  have : l = [] := by
   cases l with
   | nil => rfl
   | cons x l => exact (hg x (by simp)).1.elim
  subst this
  rw [Jp, chk_bind (by simp only [szMax]; simp)]; rfl
 | d + 1, n + 1, l, env, hg, hl, he, hn => by
  obtain ⟨r, hr, h2⟩ := block_L0_pure (n := n) (d := d) (a := a) (f := Jp n) (by omega) (fun env a e l r => block_same n a e l env r) (fun l' env' h1 h2 h3 => block_pure d n l' env' h1 h2 h3 (by omega)) (fun l' env' c' h1 h2 h3 => block_ok d n l' env' c' h1 h2 h3 (by omega)) l 0 env hg (by omega)
  rw [Jp, chk_bind (by simp only [szMax]; omega)]
  simp only
  rw [hr, Option.bind_some]
  cases q : foldS (stm (d + 1)) (lkf env) l with
  | error e => rw [q] at h2; simp only at h2; subst h2; rfl
  | ok ρ => rw [q] at h2; obtain ⟨e2, a1, a2, a3⟩ := h2; subst a1; rfl
noncomputable def chkR (d : Nat) (ys : List M) : Int × Err := match foldS (stm d) base ys with
 | .ok _ => (0, none)
 | .error e => (e.1, some e.2)
set_option maxRecDepth 100000 in
theorem Check_pure {n d : Nat} {y : M} {b : Bool} (h : Ok (d + 1) y) (hd : d ≤ 100) (hn : 400000 ≤ n) (hb : Jar n y = some b) : JaY n y = some (if b = true then chkR d y.Kids else (0, some 2)) := by
 unfold JaY
 rw [hb, Option.bind_some]
 cases b with
 | false => rfl
 | true =>
  have hv := Valid_inv hb
  have := h.2.1
  rw [if_neg (by simp), block_pure d n y.Kids [] (fun k hk => ⟨h.2.2 k hk, n, hv k hk⟩) this (by simp only [List.length_nil]; omega) (by omega), Option.bind_some]
  unfold chkR
  rw [lkf_nil]
  cases foldS (stm d) base y.Kids <;> rfl
end Rt
set_option linter.unusedVariables false
set_option linter.unusedSimpArgs false
open Go Go.SL Go.Proofs Pl
namespace Rt
end Rt
set_option linter.unusedVariables false
set_option linter.unusedSimpArgs false
open Go Go.SL Go.Proofs Pl
namespace Rt
def Ty (t : Int) : Prop := t = 1 ∨ t = 2 ∨ t = 3
def Rg (ρ : Env) : Prop := ∀ s, ρ s = 0 ∨ Ty (ρ s)
theorem Rg.ext {ρ : Env} (h : Rg ρ) (s : Str) {t : Int} (ht : Ty t) : Rg (ext ρ s t) := fun q => by
 unfold Rt.ext
 split
 ·exact .inr ht
 ·exact h q
def QQ (o : Option Int) : Prop := ∀ t, o = some t → t = 0 ∨ Ty t
theorem QQ.ite {c : Bool} {a b : Option Int} (h1 : QQ a) (h2 : QQ b) : QQ (if c = true then a else b) := by cases c <;> assumption
theorem QQ.bind {α : Type} {o : Option α} {f : α → Option Int} (h : ∀ a, QQ (f a)) : QQ (o.bind f) := fun t ht => by
 cases o with
 | none => cases ht
 | some a => exact h a t ht
theorem QQ.z : QQ (some 0) := fun t h => by cases h; exact .inl rfl
theorem QQ.t1 : QQ (some 1) := fun t h => by cases h; exact .inr (.inl rfl)
theorem QQ.t2 : QQ (some 2) := fun t h => by cases h; exact .inr (.inr (.inl rfl))
theorem QQ.t3 : QQ (some 3) := fun t h => by cases h; exact .inr (.inr (.inr rfl))
theorem fnc_cases (s : Str) : Jat s = some ((fnc s).1, (fnc s).2, decide ((fnc s).2 ≠ 0)) ∧ ((fnc s).2 = 0 ∨ Ty (fnc s).2) := by
 have key : ∀ p, J4 s = some p → Jat s = some (p.1, p.2, decide (p.2 ≠ 0)) ∧ (p.2 = 0 ∨ Ty p.2) := fun p h => by
  unfold J4 at h
  unfold Jat
  have st : ∀ {c : Bool} {a b : Int} {A : Option (Int × Int)} {B : Option (Int × Int × Bool)}, Ty b → (if c = true then some (a, b) else A) = some p → (A = some p → B = some (p.1, p.2, decide (p.2 ≠ 0)) ∧ (p.2 = 0 ∨ Ty p.2)) → (if c = true then some (a, b, true) else B) = some (p.1, p.2, decide (p.2 ≠ 0)) ∧ (p.2 = 0 ∨ Ty p.2) := fun {c a b A B} ht h hA => by
   cases c with
   | false => exact hA h
   | true =>
    cases h
    refine ⟨?_, .inr ht⟩
    have : b ≠ 0 := by rcases ht with rfl | rfl | rfl <;> decide
    simp [this]
  refine st (.inl rfl) h fun h => ?_
  refine st (.inl rfl) h fun h => ?_
  refine st (.inl rfl) h fun h => ?_
  refine st (.inr (.inr rfl)) h fun h => ?_
  refine st (.inr (.inl rfl)) h fun h => ?_
  refine st (.inr (.inl rfl)) h fun h => ?_
  refine st (.inl rfl) h fun h => ?_
  refine st (.inl rfl) h fun h => ?_
  cases h
  exact ⟨rfl, .inl rfl⟩
 exact key _ (fnc_eq s)
theorem operands_len {m : Nat} {y : M} {k : Int} (h : JT m y = some k) (hk : k ≠ -2) :
  ((y.Kind = 13 ∨ y.Kind = 14 ∨ y.Kind = 17 ∨ y.Kind = 18 ∨ y.Kind = 19) ∧ k = 2) ∨ (y.Kind = 15 ∧ k = 1) ∨ (y.Kind = 16 ∧ k = 2 ∧ cmp y.Text = true) ∨ ((y.Kind = 20 ∨ y.Kind = 21 ∨ y.Kind = 22 ∨ y.Kind = 23) ∧ k = 0) ∨ (y.Kind = 24 ∧ k = -1) := by
 unfold JT at h
 have s2 : ∀ {c : Bool} {v : Int}, (if (!c) = true then some (-2) else some v) = some k → k = v ∧ c = true := fun {c v} h => by
  cases c with
  | false => rw [if_pos (by simp)] at h; cases h; exact absurd rfl hk
  | true => rw [if_neg (by simp)] at h; cases h; exact ⟨rfl, rfl⟩
 by_cases q : y.Kind = 13
 ·rw [if_pos (by simpa using q)] at h
  exact .inl ⟨.inl q, (s2 h).1⟩
 rw [if_neg (by simpa using q)] at h
 clear q
 by_cases q : y.Kind = 14
 ·rw [if_pos (by simpa using q)] at h
  exact .inl ⟨.inr (.inl q), (s2 h).1⟩
 rw [if_neg (by simpa using q)] at h
 clear q
 by_cases q : y.Kind = 17
 ·rw [if_pos (by simpa using q)] at h
  exact .inl ⟨.inr (.inr (.inl q)), (s2 h).1⟩
 rw [if_neg (by simpa using q)] at h
 clear q
 by_cases q : y.Kind = 18
 ·rw [if_pos (by simpa using q)] at h
  exact .inl ⟨.inr (.inr (.inr (.inl q))), (s2 h).1⟩
 rw [if_neg (by simpa using q)] at h
 clear q
 by_cases q : y.Kind = 19
 ·rw [if_pos (by simpa using q)] at h
  exact .inl ⟨.inr (.inr (.inr (.inr q))), (s2 h).1⟩
 rw [if_neg (by simpa using q)] at h
 clear q
 by_cases q : y.Kind = 15
 ·rw [if_pos (by simpa using q)] at h
  exact .inr (.inl ⟨q, (s2 h).1⟩)
 rw [if_neg (by simpa using q)] at h
 clear q
 by_cases q : y.Kind = 16
 ·rw [if_pos (by simpa using q)] at h
  have e := compares_eq y.Text
  obtain ⟨a, ha, h⟩ := bnd h
  rw [ha, Option.bind_some] at e
  rw [e, Option.bind_some] at h
  exact .inr (.inr (.inl ⟨q, s2 h⟩))
 rw [if_neg (by simpa using q)] at h
 clear q
 by_cases q : y.Kind = 20
 ·rw [if_pos (by simpa using q)] at h
  obtain ⟨a, ha, h⟩ := bnd h
  exact .inr (.inr (.inr (.inl ⟨.inl q, (s2 h).1⟩)))
 rw [if_neg (by simpa using q)] at h
 clear q
 by_cases q : y.Kind = 21
 ·rw [if_pos (by simpa using q)] at h
  obtain ⟨a, ha, h⟩ := bnd h
  exact .inr (.inr (.inr (.inl ⟨.inr (.inl q), (s2 h).1⟩)))
 rw [if_neg (by simpa using q)] at h
 clear q
 by_cases q : y.Kind = 22
 ·rw [if_pos (by simpa using q)] at h
  exact .inr (.inr (.inr (.inl ⟨.inr (.inr (.inl q)), (s2 h).1⟩)))
 rw [if_neg (by simpa using q)] at h
 clear q
 by_cases q : y.Kind = 23
 ·rw [if_pos (by simpa using q)] at h
  obtain ⟨a, ha, h⟩ := bnd h
  exact .inr (.inr (.inr (.inl ⟨.inr (.inr (.inr q)), (s2 h).1⟩)))
 rw [if_neg (by simpa using q)] at h
 clear q
 by_cases q : y.Kind = 24
 ·rw [if_pos (by simpa using q)] at h
  obtain ⟨a, ha, h⟩ := bnd h
  exact .inr (.inr (.inr (.inr ⟨q, (s2 h).1⟩)))
 rw [if_neg (by simpa using q)] at h
 clear q
 cases h
 exact absurd rfl hk
end Rt
set_option linter.unusedVariables false
set_option linter.unusedSimpArgs false
open Go Go.SL Go.Proofs Pl
namespace Rt
theorem stated_if {m : Nat} {x : M} (hk : x.Kind = 2) (h : Jv (m + 1) x = some true) : ∀ c ∈ x.Kids.drop 1, c.Kind ≠ 12 → c.Kind = 2 := by
 rw [Jv, if_pos (by simpa using hk)] at h
 obtain ⟨a, ha, g⟩ := bnd h
 obtain ⟨b, hb, gg⟩ := bnd g
 cases b with
 | true => rw [if_pos rfl] at gg; cases gg
 | false =>
  rw [if_neg (by simp)] at gg
  cases a with
  | true => rw [if_pos rfl] at hb; cases hb
  | false =>
   cases q : ((decide (x.Text ≠ ([] : Str)) || decide ((x.Kids.length : Int) < 2)) || decide ((x.Kids.length : Int) > 3)) with
   | true => rw [q, if_pos rfl] at ha; cases ha
   | false =>
    simp only [Bool.or_eq_false_iff, decide_eq_false_iff_not] at q
    rw [if_neg (by simp)] at hb
    obtain ⟨c1, hc1, hb⟩ := bnd hb
    obtain ⟨e1, he1, hb⟩ := bnd hb
    have hb : e1 = true := by simpa using hb
    subst hb
    have g1 : x.Kids[1]? = some c1 := by unfold ix at hc1; rw [if_pos (by omega)] at hc1; exact hc1
    obtain ⟨i1, i2⟩ := blocked_inv he1
    intro c hc hne
    obtain ⟨i, hi⟩ := List.getElem?_of_mem hc
    rw [List.getElem?_drop] at hi
    have hil : 1 + i < x.Kids.length := (List.getElem?_eq_some_iff.1 hi).1
    by_cases z : i = 0
    ·subst z
     rw [g1] at hi; cases hi
     exact absurd i1 hne
    ·have : i = 1 := by omega
     subst this
     have hx2 : ix x.Kids 2 = some c := by unfold ix; rw [if_pos (by omega)]; exact hi
     rw [if_neg (by simp <;> omega), hx2, Option.bind_some] at gg
     obtain ⟨e, he, g3⟩ := bnd gg
     obtain ⟨e', he', he2⟩ := bnd he
     cases he2
     cases e with
     | true => exact absurd (blocked_inv he').1 hne
     | false =>
      rw [if_neg (by simp), Option.bind_some] at g3
      obtain ⟨e2, he2, g4⟩ := bnd g3
      cases g4
      split at he2
      ·rename_i hk; exact of_decide_eq_true hk
      ·cases he2
end Rt
set_option linter.unusedVariables false
set_option linter.unusedSimpArgs false
open Go Go.SL Go.Proofs Pl
namespace Rt
noncomputable def tyv (d : Nat) (ρ : Env) (y : M) : Int := match tyE d ρ y with
 | .ok t => t
 | .error _ => 0
def hd0 : List Int → Int
 | [] => 0
 | s :: _ => s
def stN (k t : Int) (ss : List Int) : Int :=
 if k = 20 then 1 else if k = 21 then 1 else if k = 22 then 3 else if k = 23 then 1
 else if k = 24 then (if t = 1 then ss.sum + 32 else ss.sum) + 1
 else if k = 14 then hd0 ss + 1 + max 3 (ss.sum - hd0 ss + 1)
 else if k = 13 then hd0 ss + 1 + max 4 (ss.sum - hd0 ss)
 else (if t = 1 then ss.sum + 32 else ss.sum) + 1
noncomputable def stE : Nat → Env → M → Int
 | 0, _, _ => 0
 | d + 1, ρ, y => stN y.Kind (tyv (d + 1) ρ y) (y.Kids.map (stE d ρ))
theorem hd0_le : ∀ {ss : List Int}, (∀ s ∈ ss, 0 ≤ s) → 0 ≤ hd0 ss ∧ hd0 ss ≤ ss.sum ∧ 0 ≤ ss.sum
 | [], _ => by simp [hd0]
 | s :: ss, h => by
  have := hd0_le (ss := ss) fun s hs => h s (by simp [hs])
  have := h s (by simp)
  simp only [hd0, List.sum_cons]
  omega
theorem stN_bd {k t : Int} {ss : List Int} (h : ∀ s ∈ ss, 0 ≤ s) : 0 ≤ stN k t ss ∧ stN k t ss ≤ ss.sum + 33 := by
 have := hd0_le h
 unfold stN
 split; · omega
 split; · omega
 split; · omega
 split; · omega
 split; · split <;> omega
 split; · omega
 split; · omega
 split <;> omega
theorem stE_bd : ∀ (d : Nat) (ρ : Env) (y : M), 0 ≤ stE d ρ y ∧ stE d ρ y ≤ 64 * (cnt d y : Int)
 | 0, ρ, y => by simp [stE]; omega
 | d + 1, ρ, y => by
  have hs : ∀ (l : List M), (∀ s ∈ l.map (stE d ρ), 0 ≤ s) ∧ (l.map (stE d ρ)).sum ≤ 64 * (cntL d l : Int) := fun l => by
   induction l with
   | nil => simp [cntL]
   | cons k l ih =>
    have := stE_bd d ρ k
    refine ⟨fun s hs => ?_, ?_⟩
    ·rw [List.map_cons] at hs
     rcases List.mem_cons.1 hs with rfl | hs
     ·exact this.1
     ·exact ih.1 s hs
    ·rw [List.map_cons, List.sum_cons, cntL_cons]
     have := ih.2
     omega
  have h := hs y.Kids
  have := stN_bd (k := y.Kind) (t := tyv (d + 1) ρ y) h.1
  rw [cnt_eq, stE]
  omega
theorem kidsE_a2 {f : M → Except Fault Int} : ∀ {l : List M} {ts : List Int}, kidsE f l = .ok ts → A2 (fun k t => f k = .ok t) l ts
 | [], ts, h => by cases h; exact .nil
 | k :: l, ts, h => by
  rw [kidsE] at h
  cases q : f k with
  | error e => rw [q] at h; cases h
  | ok t =>
   rw [q] at h
   simp only at h
   cases q2 : kidsE f l with
   | error e => rw [q2] at h; cases h
   | ok us => rw [q2] at h; cases h; exact .cons q (kidsE_a2 q2)
theorem stepsL0_tail {f : M → List Bd → Option (Int × Int)} {env : List Bd} {g : M → Int} {l : List M} {ts : List Int} (h : A2 (fun k t => f k env = some (t, g k) ∧ 0 ≤ g k) l ts) : ∀ (i : Nat) (y : List Int) (a s : Int), i ≠ 0 → 0 ≤ s → s + (l.map g).sum ≤ 1000000 → y.length + l.length ≤ 1000 →
  JY f env l i y a s = some (y ++ ts, a, s + (l.map g).sum) := by
 induction h with
 | nil => intro i y a s _ _ _ _; simp [JY]
 | cons hp h ih =>
  rename_i k t l ts
  intro i y a s hi hs hb hl
  have hpos : 0 ≤ (l.map g).sum := by
   clear ih hb hl
   induction h with
   | nil => simp
   | cons hp _ ih => rw [List.map_cons, List.sum_cons]; have := hp.2; omega
  rw [List.map_cons, List.sum_cons] at hb ⊢
  simp only [List.length_cons] at hl
  have := hp.2
  rw [JY, hp.1, Option.bind_some, chk_bind (by simp only [lim, List.length_cons, List.length_nil]; omega), if_neg (by simpa using hi), chk_bind (by constructor <;> simp only <;> omega), ih (i + 1) _ a _ (by omega) (by omega) (by simp only; omega) (by simp only [List.length_append, List.length_cons, List.length_nil]; omega)]
  simp; omega
theorem stepsL0_head {f : M → List Bd → Option (Int × Int)} {env : List Bd} {g : M → Int} {l : List M} {ts : List Int} (h : A2 (fun k t => f k env = some (t, g k) ∧ 0 ≤ g k) l ts) (hb : (l.map g).sum ≤ 1000000) (hl : l.length ≤ 900) :
  JY f env l 0 [] 0 0 = some (ts, hd0 (l.map g), (l.map g).sum) := by
 cases h with
 | nil => rfl
 | cons hp h =>
  rename_i k t l ts
  rw [List.map_cons, List.sum_cons] at hb ⊢
  simp only [List.length_cons] at hl
  have := hp.2
  have hs : 0 ≤ (l.map g).sum := by
   have aux : ∀ {l : List M} {ts : List Int}, A2 (fun k t => f k env = some (t, g k) ∧ 0 ≤ g k) l ts → 0 ≤ (l.map g).sum := fun h => by
    induction h with
    | nil => simp
    | cons hp _ ih => rw [List.map_cons, List.sum_cons]; have := hp.2; omega
   exact aux h
  rw [JY, hp.1, Option.bind_some, chk_bind (by simp [lim]), if_pos (by simp), chk_bind (by constructor <;> simp only <;> omega), stepsL0_tail h 1 _ _ _ (by omega) (by simp only; omega) (by simp only; omega) (by simp only [List.length_append, List.length_cons, List.length_nil]; omega)]
  simp [hd0]
theorem tyN_inv {ρ : Env} {y : M} {ts : List Int} {t : Int} (h : tyN ρ y ts = .ok t) : (y.Kind = 20 → t = 2) ∧ (y.Kind = 21 → t = 1) ∧ (y.Kind = 22 → t = 3) ∧ (y.Kind = 23 → t = ρ y.Text) ∧ (y.Kind = 24 → t = (fnc y.Text).2) ∧ (y.Kind ≠ 20 → y.Kind ≠ 21 → y.Kind ≠ 22 → y.Kind ≠ 23 → y.Kind ≠ 24 → t = opr y ts ∧ opr y ts ≠ 0) := by
 unfold tyN at h
 by_cases q20 : y.Kind = 20
 ·rw [if_pos q20] at h; cases h; exact ⟨fun _ => rfl, fun _ => by omega, fun _ => by omega, fun _ => by omega, fun _ => by omega, fun a => absurd q20 a⟩
 rw [if_neg q20] at h
 by_cases q21 : y.Kind = 21
 ·rw [if_pos q21] at h; cases h; exact ⟨fun _ => by omega, fun _ => rfl, fun _ => by omega, fun _ => by omega, fun _ => by omega, fun _ a => absurd q21 a⟩
 rw [if_neg q21] at h
 by_cases q22 : y.Kind = 22
 ·rw [if_pos q22] at h; cases h; exact ⟨fun _ => by omega, fun _ => by omega, fun _ => rfl, fun _ => by omega, fun _ => by omega, fun _ _ a => absurd q22 a⟩
 rw [if_neg q22] at h
 by_cases q23 : y.Kind = 23
 ·rw [if_pos q23] at h
  split at h
  ·cases h
  ·cases h; exact ⟨fun _ => by omega, fun _ => by omega, fun _ => by omega, fun _ => rfl, fun _ => by omega, fun _ _ _ a => absurd q23 a⟩
 rw [if_neg q23] at h
 by_cases q24 : y.Kind = 24
 ·rw [if_pos q24] at h
  split at h
  ·cases h
  ·split at h
   ·cases h; exact ⟨fun _ => by omega, fun _ => by omega, fun _ => by omega, fun _ => by omega, fun _ => rfl, fun _ _ _ _ a => absurd q24 a⟩
   ·cases h
 rw [if_neg q24] at h
 split at h
 ·cases h
 ·rename_i q
  cases h; exact ⟨fun a => absurd a q20, fun a => absurd a q21, fun a => absurd a q22, fun a => absurd a q23, fun a => absurd a q24, fun _ _ _ _ _ => ⟨rfl, q⟩⟩
theorem tyE_inv {d : Nat} {ρ : Env} {y : M} {t : Int} (h : tyE (d + 1) ρ y = .ok t) : ∃ ts, kidsE (tyE d ρ) y.Kids = .ok ts ∧ tyN ρ y ts = .ok t := by
 rw [tyE] at h
 cases q : kidsE (tyE d ρ) y.Kids with
 | error e => rw [q] at h; cases h
 | ok ts => rw [q] at h; exact ⟨ts, rfl, h⟩
theorem steps_pure {env : List Bd} (he : env.length ≤ 100000) : ∀ (d n m : Nat) (y : M) (t : Int), Ok d y → Jo m y = some true → tyE d (lkf env) y = .ok t → cnt d y ≤ 10000 → d + 200000 ≤ n → Jau n y env = some (t, stE d (lkf env) y)
 | 0, n, m, y, t, h, _, _, _, _ => h.elim
 | d + 1, 0, m, y, t, h, _, _, _, hn => by omega
 | d + 1, n + 1, m, y, t, h, hv, ht, hc, hn => by
  have htv : tyv (d + 1) (lkf env) y = t := by unfold tyv; rw [ht]
  obtain ⟨h1, h2, h3⟩ := h
  obtain ⟨m', k, rfl, hk, k2, k3, k4⟩ := expression_inv hv
  obtain ⟨ts, hks, hN⟩ := tyE_inv ht
  have hlen := kidsE_len hks
  rw [cnt_eq] at hc
  have hA := (kidsE_a2 hks).imp_mem (Q := fun k t => Jau n k env = some (t, stE d (lkf env) k) ∧ 0 ≤ stE d (lkf env) k) fun k hk t ht => ⟨steps_pure he d n m' k t (h3 k hk) (k4 k hk) ht (by have := cnt_mem (d := d) hk; omega) (by omega), (stE_bd d _ k).1⟩
  have hpos : ∀ s ∈ y.Kids.map (stE d (lkf env)), 0 ≤ s := fun s hs => by
   obtain ⟨k, _, rfl⟩ := List.mem_map.1 hs
   exact (stE_bd d _ k).1
  have hsum : (y.Kids.map (stE d (lkf env))).sum ≤ 64 * (cntL d y.Kids : Int) := by
   have : ∀ l : List M, (l.map (stE d (lkf env))).sum ≤ 64 * (cntL d l : Int) := fun l => by
    induction l with
    | nil => simp [cntL]
    | cons k l ih =>
     have := (stE_bd d (lkf env) k).2
     rw [List.map_cons, List.sum_cons, cntL_cons]
     omega
   exact this _
  have hb := hd0_le hpos
  obtain ⟨t20, t21, t22, t23, t24, top⟩ := tyN_inv hN
  rw [Jau, chk_bind (by simp only [szMax]; omega), stepsL0_head hA (by omega) (by omega), Option.bind_some, stE, htv]
  generalize y.Kids.map (stE d (lkf env)) = ss at hb hsum
  unfold stN
  simp only
  by_cases q20 : y.Kind = 20
  ·rw [if_pos (by simpa using q20), if_pos q20, t20 q20]
  rw [if_neg (by simpa using q20), if_neg q20]
  by_cases q21 : y.Kind = 21
  ·rw [if_pos (by simpa using q21), if_pos q21, t21 q21]
  rw [if_neg (by simpa using q21), if_neg q21]
  by_cases q22 : y.Kind = 22
  ·rw [if_pos (by simpa using q22), if_pos q22, t22 q22]
  rw [if_neg (by simpa using q22), if_neg q22]
  by_cases q23 : y.Kind = 23
  ·rw [if_pos (by simpa using q23), if_pos q23, lookup_eq he (by omega), Option.bind_some, t23 q23]; rfl
  rw [if_neg (by simpa using q23), if_neg q23]
  by_cases q24 : y.Kind = 24
  ·rw [if_pos (by simpa using q24), if_pos q24, call_pure, Option.bind_some, ← t24 q24]
   by_cases q1 : t = 1
   ·rw [if_pos (by simpa using q1), if_pos q1, chk_bind (by constructor <;> omega), chk_bind (by constructor <;> omega)]
   ·rw [if_neg (by simpa using q1), if_neg q1, chk_bind (by constructor <;> omega)]
  rw [if_neg (by simpa using q24), if_neg q24]
  by_cases q14 : y.Kind = 14
  ·have ht3 : t = 3 := by
    have := top q20 q21 q22 q23 q24
    have h16 : JH y ts = some (opr y ts) := opr_eq (by omega) fun h => by omega
    unfold JH at h16
    rw [if_neg (by simp [q14]), if_neg (by simp [q14]), if_neg (by simp [q14]), if_neg (by simp [q14]), if_pos (by simpa using q14)] at h16
    obtain ⟨b, _, h16⟩ := bnd h16
    cases b with
    | true => rw [if_pos rfl] at h16; have := Option.some.inj h16; omega
    | false => rw [if_neg (by simp)] at h16; have := Option.some.inj h16; omega
   rw [if_pos (by simpa using q14), if_pos q14, if_pos (by simpa using q14), chk_bind (by constructor <;> omega), chk_bind (by constructor <;> omega), chk_bind (by constructor <;> omega), chk_bind (by constructor <;> omega), ht3]
  rw [if_neg (by simpa using q14), if_neg q14]
  by_cases q13 : y.Kind = 13
  ·have ht3 : t = 3 := by
    have := top q20 q21 q22 q23 q24
    have h16 : JH y ts = some (opr y ts) := opr_eq (by omega) fun h => by omega
    unfold JH at h16
    rw [if_neg (by simp [q13]), if_neg (by simp [q13]), if_neg (by simp [q13]), if_pos (by simpa using q13)] at h16
    obtain ⟨b, _, h16⟩ := bnd h16
    cases b with
    | true => rw [if_pos rfl] at h16; have := Option.some.inj h16; omega
    | false => rw [if_neg (by simp)] at h16; have := Option.some.inj h16; omega
   rw [if_pos (by simpa using q13), if_pos q13, if_neg (by simpa using q14), chk_bind (by constructor <;> omega), chk_bind (by constructor <;> omega), chk_bind (by constructor <;> omega), ht3]
  rw [if_neg (by simpa using q13), if_neg q13, opr_eq (by omega) fun h16 => by
   rcases operands_16 h16 hk with rfl | rfl
   ·have := k3 (by omega); omega
   ·exact absurd rfl k2]
  rw [Option.bind_some, ← (top q20 q21 q22 q23 q24).1]
  by_cases q1 : t = 1
  ·rw [if_pos (by simpa using q1), if_pos q1, chk_bind (by constructor <;> omega), chk_bind (by constructor <;> omega)]
  ·rw [if_neg (by simpa using q1), if_neg q1, chk_bind (by constructor <;> omega)]
end Rt
set_option linter.unusedVariables false
set_option linter.unusedSimpArgs false
open Go Go.SL Go.Proofs Pl
namespace Rt
def foldW (w : Env → M → Int) (g : Env → M → Except Fault Env) : Env → List M → Int
 | _, [] => 0
 | ρ, x :: l => w ρ x + (match g ρ x with
  | .ok ρ' => foldW w g ρ' l
  | .error _ => 0)
noncomputable def wS : Nat → Env → M → Int
 | 0, _, _ => 0
 | d + 1, ρ, x => match x.Kids with
  | [] => 1
  | k0 :: ks => 1 + stE d ρ k0 + (if x.Kind = 2 then (match ks with
   | [] => 0
   | [b] => foldW (wS d) (stm d) ρ (brn b)
   | b :: c :: _ => max (foldW (wS d) (stm d) ρ (brn b) + 1) (foldW (wS d) (stm d) ρ (brn c))) else 0)
theorem brn_ok {d : Nat} {k : M} (h : Ok d k) : (∀ q ∈ brn k, Ok d q) ∧ cntL d (brn k) ≤ cnt d k := by
 cases d with
 | zero => exact h.elim
 | succ d =>
  unfold brn
  split
  ·refine ⟨fun q hq => (h.2.2 q hq).succ, ?_⟩
   rw [cnt_eq]
   have : ∀ l : List M, (∀ q ∈ l, Ok d q) → cntL (d + 1) l = cntL d l := fun l => by
    induction l with
    | nil => intro _; rfl
    | cons q l ih => intro hq; rw [cntL_cons, cntL_cons, cnt_succ (hq q (by simp)), ih fun p hp => hq p (by simp [hp])]
   rw [this k.Kids h.2.2]; omega
  ·exact ⟨fun q hq => by rw [List.mem_singleton] at hq; subst hq; exact h, by simp [cntL]⟩
theorem foldW_bd {d : Nat} {w : Env → M → Int} {g : Env → M → Except Fault Env} : ∀ (l : List M) (ρ : Env), (∀ x ∈ l, ∀ ρ, 0 ≤ w ρ x ∧ w ρ x ≤ 200 * (cnt d x : Int)) → 0 ≤ foldW w g ρ l ∧ foldW w g ρ l ≤ 200 * (cntL d l : Int)
 | [], ρ, _ => by simp [foldW, cntL]
 | x :: l, ρ, h => by
  rw [foldW, cntL_cons]
  have h1 := h x (by simp) ρ
  have h2 : 0 ≤ (match g ρ x with | .ok ρ' => foldW w g ρ' l | .error _ => (0 : Int)) ∧ (match g ρ x with | .ok ρ' => foldW w g ρ' l | .error _ => (0 : Int)) ≤ 200 * (cntL d l : Int) := by
   cases g ρ x with
   | error e => simp only; omega
   | ok ρ' => exact foldW_bd l ρ' fun q hq => h q (by simp [hq])
  omega
theorem wS_bd : ∀ (d : Nat) (x : M), Ok d x → ∀ ρ, 0 ≤ wS d ρ x ∧ wS d ρ x ≤ 200 * (cnt d x : Int)
 | 0, x, h, ρ => h.elim
 | d + 1, x, h, ρ => by
  have br : ∀ b, Ok d b → 0 ≤ foldW (wS d) (stm d) ρ (brn b) ∧ foldW (wS d) (stm d) ρ (brn b) ≤ 200 * (cnt d b : Int) := fun b hb => by
   obtain ⟨b1, b2⟩ := brn_ok hb
   have := foldW_bd (d := d) (w := wS d) (g := stm d) (brn b) ρ fun q hq ρ => wS_bd d q (b1 q hq) ρ
   omega
  rw [wS, cnt_eq]
  match hk : x.Kids with
  | [] => simp only [cntL, List.map_nil, List.sum_nil]; omega
  | k0 :: ks =>
   have h0 := stE_bd d ρ k0
   simp only [cntL_cons]
   split
   ·match hks : ks with
    | [] => simp only; omega
    | [b] =>
     have := br b (h.2.2 b (by rw [hk]; simp))
     simp only [cntL_cons]; omega
    | b :: c :: r =>
     have := br b (h.2.2 b (by rw [hk]; simp))
     have := br c (h.2.2 c (by rw [hk]; simp))
     simp only [cntL_cons]; omega
   ·omega
theorem stm_inv {d : Nat} {ρ ρ' : Env} {x k0 : M} {ks : List M} (hk : x.Kids = k0 :: ks) (h : stm (d + 1) ρ x = .ok ρ') : ∃ t, tyE d ρ k0 = .ok t ∧
  ((x.Kind = 3 ∧ ρ' = ext ρ x.Text t) ∨ (x.Kind = 2 ∧ ρ' = ρ ∧ brs (fun k => foldS (stm d) ρ (brn k)) ks = none) ∨ (x.Kind ≠ 3 ∧ x.Kind ≠ 2 ∧ ρ' = ρ)) := by
 rw [stm, hk] at h
 simp only at h
 cases q : tyE d ρ k0 with
 | error e => rw [q] at h; cases h
 | ok t =>
  rw [q] at h
  simp only at h
  refine ⟨t, rfl, ?_⟩
  split at h
  ·cases h
  ·split at h
   ·rename_i q3
    split at h
    ·cases h; exact .inl ⟨q3, rfl⟩
    ·cases h
   ·rename_i q3
    split at h
    ·rename_i q2
     split at h
     ·cases h
     ·rename_i qb
      cases h; exact .inr (.inl ⟨q2, rfl, qb⟩)
    ·rename_i q2
     cases h; exact .inr (.inr ⟨q3, q2, rfl⟩)
theorem brs_none {g : M → Except Fault Env} : ∀ {l : List M}, brs g l = none → ∀ k ∈ l, ∃ ρ, g k = .ok ρ
 | [], _, k, hk => by cases hk
 | a :: l, h, k, hk => by
  rw [brs] at h
  cases q : g a with
  | error e => rw [q] at h; cases h
  | ok ρ =>
   rw [q] at h
   rcases List.mem_cons.1 hk with rfl | hk
   ·exact ⟨ρ, q⟩
   ·exact brs_none h k hk
theorem foldS_cons {g : Env → M → Except Fault Env} {ρ ρ' : Env} {x : M} {l : List M} (h : foldS g ρ (x :: l) = .ok ρ') : ∃ ρ1, g ρ x = .ok ρ1 ∧ foldS g ρ1 l = .ok ρ' := by
 rw [foldS] at h
 cases q : g ρ x with
 | error e => rw [q] at h; cases h
 | ok ρ1 => rw [q] at h; exact ⟨ρ1, rfl, h⟩
theorem stated_if2 {m : Nat} {x : M} (hk : x.Kind = 2) (h : Jv (m + 1) x = some true) : x.Kids.length ≤ 3 ∧ ∀ c, x.Kids[1]? = some c → c.Kind = 12 := by
 rw [Jv, if_pos (by simpa using hk)] at h
 obtain ⟨a, ha, g⟩ := bnd h
 obtain ⟨b, hb, gg⟩ := bnd g
 cases b with
 | true => rw [if_pos rfl] at gg; cases gg
 | false =>
  cases a with
  | true => rw [if_pos rfl] at hb; cases hb
  | false =>
   cases q : ((decide (x.Text ≠ ([] : Str)) || decide ((x.Kids.length : Int) < 2)) || decide ((x.Kids.length : Int) > 3)) with
   | true => rw [q, if_pos rfl] at ha; cases ha
   | false =>
    simp only [Bool.or_eq_false_iff, decide_eq_false_iff_not] at q
    rw [if_neg (by simp)] at hb
    obtain ⟨c1, hc1, hb⟩ := bnd hb
    obtain ⟨e1, he1, hb⟩ := bnd hb
    have hb : e1 = true := by simpa using hb
    subst hb
    have g1 : x.Kids[1]? = some c1 := by unfold ix at hc1; rw [if_pos (by omega)] at hc1; exact hc1
    refine ⟨by omega, fun c hc => ?_⟩
    rw [g1] at hc; cases hc
    exact (blocked_inv he1).1
set_option maxRecDepth 100000 in
theorem worst_L0_pure {n d : Nat} {f : List M → List Bd → Option Int} (hn : d + 200000 ≤ n)
  (hf : ∀ (l : List M) (env : List Bd) (ρ' : Env), (∀ x ∈ l, Gd d x) → l.length ≤ 700 → cntL d l ≤ 10000 → env.length + 701 * (d + 1) ≤ 90000 → foldS (stm d) (lkf env) l = .ok ρ' → f l env = some (foldW (wS d) (stm d) (lkf env) l)) :
  ∀ (l : List M) (i : Nat) (env : List Bd) (y : Int) (ρ' : Env), (∀ x ∈ l, Gd (d + 1) x) → cntL (d + 1) l ≤ 10000 → env.length + l.length + 701 * (d + 1) ≤ 90000 → 0 ≤ y → y + 200 * (cntL (d + 1) l : Int) ≤ 5000000 → foldS (stm (d + 1)) (lkf env) l = .ok ρ' →
   ∃ env', JQ n f l i env y = some (env', y + foldW (wS (d + 1)) (stm (d + 1)) (lkf env) l)
 | [], i, env, y, ρ', _, _, _, _, _, _ => ⟨env, by simp [JQ, foldW]⟩
 | x :: l, i, env, y, ρ', hg, hc, he, h0, hy, hs => by
  simp only [List.length_cons] at he
  rw [cntL_cons] at hc hy
  obtain ⟨ρ1, hx, hl⟩ := foldS_cons hs
  have hgl : ∀ x ∈ l, Gd (d + 1) x := fun q hq => hg q (by simp [hq])
  obtain ⟨hok, m, hm⟩ := hg x (by simp)
  have hm' := hm
  have hwb := wS_bd (d + 1) x hok (lkf env)
  have rec_ : ∀ (env1 : List Bd) (y1 : Int), env1.length ≤ env.length + 1 → lkf env1 = ρ1 → y1 = y + wS (d + 1) (lkf env) x → ∃ env', JQ n f l (i + 1) env1 y1 = some (env', y + foldW (wS (d + 1)) (stm (d + 1)) (lkf env) (x :: l)) := fun env1 y1 a1 a2 a3 => by
   obtain ⟨e2, h2⟩ := worst_L0_pure hn hf l (i + 1) env1 y1 ρ' hgl (by omega) (by omega) (by omega) (by omega) (by rw [a2]; exact hl)
   refine ⟨e2, ?_⟩
   rw [h2, foldW, hx, a2, a3]
   simp only
   congr 2; omega
  obtain ⟨m, rfl, hv0, hv2⟩ := stated_inv hm
  obtain ⟨o1, o2, o3⟩ := hok
  rw [cnt_eq] at hc hy hwb
  rw [JQ, chk_bind (by constructor <;> omega)]
  match hk : x.Kids with
  | [] =>
   have hw : wS (d + 1) (lkf env) x = 1 := by rw [wS, hk]
   rw [if_pos (by simp)]
   refine rec_ env (y + 1) (by omega) ?_ (by rw [hw])
   rw [stm, hk] at hx
   cases hx; rfl
  | k0 :: ks =>
   have hk0 : k0 ∈ x.Kids := by rw [hk]; simp
   obtain ⟨t, ht, hcase⟩ := stm_inv hk hx
   have hcl : cntL d x.Kids = cnt d k0 + cntL d ks := by rw [hk, cntL_cons]
   have hst := stE_bd d (lkf env) k0
   have hstp := steps_pure (env := env) (by omega) d n m k0 t (o3 k0 hk0) (hv0 k0 (by rw [hk]; rfl)) ht (by omega) (by omega)
   rw [if_neg (by simp; omega), show ix (k0 :: ks) 0 = some k0 from rfl, Option.bind_some, hstp, Option.bind_some, chk_bind (by constructor <;> simp only <;> omega)]
   simp only
   rcases hcase with ⟨q3, e⟩ | ⟨q2, e, hb⟩ | ⟨q3, q2, e⟩
   ·have hw : wS (d + 1) (lkf env) x = 1 + stE d (lkf env) k0 := by rw [wS, hk]; simp only; rw [if_neg (by omega)]; omega
    rw [if_pos (by simpa using q3), extended_eq (by omega), Option.bind_some]
    exact rec_ _ _ (by simp) (by rw [lkf_snoc, e]) (by rw [hw]; omega)
   ·obtain ⟨l2, hbl⟩ := hv2 q2
    have hif := stated_if2 q2 hm'
    rw [hk] at l2 hbl hif
    have hall := brs_none hb
    have hbr : ∀ k ∈ ks, J1 k = some (brn k) ∧ f (brn k) env = some (foldW (wS d) (stm d) (lkf env) (brn k)) ∧ 0 ≤ foldW (wS d) (stm d) (lkf env) (brn k) ∧ foldW (wS d) (stm d) (lkf env) (brn k) ≤ 200 * (cnt d k : Int) := fun k hk1 => by
     have hk2 : k ∈ x.Kids := by rw [hk]; simp [hk1]
     obtain ⟨l', e1, e2, e3⟩ := branch_ok (o3 k hk2) ((hbl k (by simpa using hk1)).imp (fun h => ⟨h.1, fun q hq => ⟨m, h.2 q hq⟩⟩) fun h => ⟨h.1, m, h.2⟩)
     rw [brn_eq] at e1
     cases e1
     obtain ⟨b1, b2⟩ := brn_ok (o3 k hk2)
     obtain ⟨ρk, hρ⟩ := hall k hk1
     have := cnt_mem (d := d) hk1
     have bd := foldW_bd (d := d) (w := wS d) (g := stm d) (brn k) (lkf env) fun q hq ρ => wS_bd d q (b1 q hq) ρ
     exact ⟨brn_eq k, hf _ _ ρk e3 e2 (by omega) (by omega) hρ, by omega, by omega⟩
    rw [if_neg (by simp [q2]), if_pos (by simpa using q2)]
    match hks : ks, l2 with
    | [b], _ =>
     obtain ⟨b0, b1, b2, b3⟩ := hbr b (by simp)
     have hw : wS (d + 1) (lkf env) x = 1 + stE d (lkf env) k0 + foldW (wS d) (stm d) (lkf env) (brn b) := by rw [wS, hk]; simp only; rw [if_pos q2]
     simp only [cntL_cons] at hcl
     rw [show ix [k0, b] 1 = some b from rfl, Option.bind_some, b0, Option.bind_some, b1, Option.bind_some, if_neg (by simp), chk_bind (by constructor <;> omega)]
     exact rec_ env _ (by omega) e.symm (by rw [hw]; omega)
    | b :: c :: r, _ =>
     obtain ⟨b0, b1, b2, b3⟩ := hbr b (by simp)
     obtain ⟨c0, c1, c2, c3⟩ := hbr c (by simp)
     have hw : wS (d + 1) (lkf env) x = 1 + stE d (lkf env) k0 + max (foldW (wS d) (stm d) (lkf env) (brn b) + 1) (foldW (wS d) (stm d) (lkf env) (brn c)) := by rw [wS, hk]; simp only; rw [if_pos q2]
     simp only [cntL_cons] at hcl
     rw [show ix (k0 :: b :: c :: r) 1 = some b from rfl, Option.bind_some, b0, Option.bind_some, b1, Option.bind_some, if_pos (by simp only [List.length_cons, decide_eq_true_eq]; omega), chk_bind (by constructor <;> omega),
      show ix (k0 :: b :: c :: r) 2 = some c from rfl, Option.bind_some, c0, Option.bind_some, c1, Option.bind_some, chk_bind (by constructor <;> omega)]
     exact rec_ env _ (by omega) e.symm (by rw [hw]; omega)
    | [], l2 => simp at l2
   ·have hw : wS (d + 1) (lkf env) x = 1 + stE d (lkf env) k0 := by rw [wS, hk]; simp only; rw [if_neg q2]; omega
    rw [if_neg (by simpa using q3), if_neg (by simpa using q2)]
    exact rec_ env _ (by omega) e.symm (by rw [hw]; omega)
set_option maxRecDepth 100000 in
theorem worst_pure : ∀ (d n : Nat) (l : List M) (env : List Bd) (ρ' : Env), (∀ x ∈ l, Gd d x) → l.length ≤ 700 → cntL d l ≤ 10000 → env.length + 701 * (d + 1) ≤ 90000 → d + 300000 ≤ n → foldS (stm d) (lkf env) l = .ok ρ' → Jad n l env = some (foldW (wS d) (stm d) (lkf env) l)
 | d, 0, l, env, ρ', _, _, _, _, hn, _ => by omega
 | 0, n + 1, l, env, ρ', hg, hl, hc, he, hn, hs => by
  have : l = [] := by
   cases l with
   | nil => rfl
   | cons x l => exact (hg x (by simp)).1.elim
  subst this
  rw [Jad, chk_bind (by simp only [szMax]; simp)]; rfl
 | d + 1, n + 1, l, env, ρ', hg, hl, hc, he, hn, hs => by
  obtain ⟨e2, h2⟩ := worst_L0_pure (n := n) (d := d) (f := Jad n) (by omega) (fun l' env' ρ' h1 h2 h3 h4 h5 => worst_pure d n l' env' ρ' h1 h2 h3 h4 (by omega) h5) l 0 env 0 ρ' hg hc (by omega) (by omega) (by omega) hs
  rw [Jad, chk_bind (by simp only [szMax]; omega), h2, Option.bind_some]
  simp
end Rt
set_option linter.unusedVariables false
set_option linter.unusedSimpArgs false
open Go Go.SL Go.Proofs Pl
namespace Rt
def brn2 (k : N) : List N := if k.Kind = 2 then [k] else k.Kids
end Rt
set_option linter.unusedVariables false
set_option linter.unusedSimpArgs false
open Go Go.SL Go.Proofs Pl
namespace Rt.Rc
abbrev I := Jj
abbrev Cp := Jc
abbrev Sg := Str → Option Int
def num (s : Str) : Int := s.foldl (fun n c => 10 * n + ((c.toNat : Int) - 48)) 0
def sTrue : Str := [116, 114, 117, 101]
def tr (b : Bool) : List I := [⟨1, 0, []⟩, ⟨1, if b then 0 else 1, []⟩, ⟨7, 0, [61, 61]⟩]
theorem tr_len (b : Bool) : (tr b).length = 3 := rfl
def opw (x : M) : Str := if x.Kind = 17 then [43] else if x.Kind = 18 then [45] else if x.Kind = 19 then [42] else x.Text
def nmI (σ : Sg) (s : Str) : I := match σ s with
 | some k => ⟨3, k, []⟩
 | none => ⟨5, 0, s⟩
def cE : Nat → Sg → Nat → M → List I
 | 0, _, _, _ => []
 | d + 1, σ, b, x =>
  if x.Kind = 20 then [⟨1, num x.Text, []⟩]
  else if x.Kind = 21 then [⟨2, 0, x.Text⟩]
  else if x.Kind = 22 then tr (decide (x.Text = sTrue))
  else if x.Kind = 23 then [nmI σ x.Text]
  else match x.Kids with
   | [k] => cE d σ b k ++ [if x.Kind = 24 then ⟨6, 0, x.Text⟩ else ⟨8, 0, []⟩]
   | [k, l] =>
    if x.Kind = 14 then cE d σ b k ++ ⟨10, (b + (cE d σ b k).length + 1 + (cE d σ (b + (cE d σ b k).length + 1) l).length + 1 : Nat), []⟩ :: (cE d σ (b + (cE d σ b k).length + 1) l ++ ⟨9, (b + (cE d σ b k).length + 1 + (cE d σ (b + (cE d σ b k).length + 1) l).length + 4 : Nat), []⟩ :: tr false)
    else if x.Kind = 13 then cE d σ b k ++ ⟨10, (b + (cE d σ b k).length + 5 : Nat), []⟩ :: (tr true ++ ⟨9, (b + (cE d σ b k).length + 5 + (cE d σ (b + (cE d σ b k).length + 5) l).length : Nat), []⟩ :: cE d σ (b + (cE d σ b k).length + 5) l)
    else cE d σ b k ++ (cE d σ (b + (cE d σ b k).length) l ++ [⟨7, 0, opw x⟩])
   | _ => []
def XE (ρ : Env) : Nat → M → Prop
 | 0, _ => False
 | d + 1, x => x.Text.length ≤ 3000 ∧
  ((x.Kind = 20 ∧ nmr x.Text = true ∧ x.Kids = []) ∨ (x.Kind = 21 ∧ prt x.Text = true ∧ x.Kids = []) ∨ (x.Kind = 22 ∧ x.Kids = []) ∨ (x.Kind = 23 ∧ ρ x.Text ≠ 0 ∧ x.Kids = []) ∨
   (((x.Kind = 24 ∧ (fnc x.Text).2 ≠ 0) ∨ x.Kind = 15) ∧ ∃ k, x.Kids = [k] ∧ XE ρ d k) ∨
   ((x.Kind = 13 ∨ x.Kind = 14 ∨ x.Kind = 17 ∨ x.Kind = 18 ∨ x.Kind = 19 ∨ (x.Kind = 16 ∧ cmp x.Text = true)) ∧ ∃ k l, x.Kids = [k, l] ∧ XE ρ d k ∧ XE ρ d l))
theorem kidsE_mem {f : M → Except Fault Int} : ∀ {l : List M} {ts : List Int}, kidsE f l = .ok ts → ∀ k ∈ l, ∃ t, f k = .ok t
 | [], _, _, k, hk => by cases hk
 | a :: l, ts, h, k, hk => by
  rw [kidsE] at h
  cases q : f a with
  | error e => rw [q] at h; cases h
  | ok t =>
   rw [q] at h
   simp only at h
   cases q2 : kidsE f l with
   | error e => rw [q2] at h; cases h
   | ok us =>
    rcases List.mem_cons.1 hk with rfl | hk
    ·exact ⟨t, q⟩
    ·exact kidsE_mem q2 k hk
theorem len2 {α : Type} {l : List α} (h : (l.length : Int) = 2) : ∃ a b, l = [a, b] := by
 match l, h with
 | [a, b], _ => exact ⟨a, b, rfl⟩
 | [], h => simp at h
 | [a], h => simp at h
 | a :: b :: c :: l, h => simp at h; omega
theorem len1 {α : Type} {l : List α} (h : (l.length : Int) = 1) : ∃ a, l = [a] := by
 match l, h with
 | [a], _ => exact ⟨a, rfl⟩
 | [], h => simp at h
 | a :: b :: l, h => simp at h; omega
theorem len0 {α : Type} {l : List α} (h : (l.length : Int) = 0) : l = [] := by
 cases l with
 | nil => rfl
 | cons a l => simp at h; omega
theorem operands_20 {m : Nat} {x : M} {k : Int} (ht : x.Text.length ≤ 3000) (hk : x.Kind = 20) (h : JT m x = some k) (h2 : k ≠ -2) : nmr x.Text = true := by
 unfold JT at h
 rw [hk] at h
 rw [if_neg (by decide), if_neg (by decide), if_neg (by decide), if_neg (by decide), if_neg (by decide), if_neg (by decide), if_neg (by decide), if_pos (by decide), digits_eq ht, Option.bind_some] at h
 cases q : nmr x.Text with
 | true => rfl
 | false => rw [q, if_pos (by simp)] at h; cases h; exact absurd rfl h2
theorem operands_21 {m : Nat} {x : M} {k : Int} (ht : x.Text.length ≤ 3000) (hk : x.Kind = 21) (h : JT m x = some k) (h2 : k ≠ -2) : prt x.Text = true := by
 unfold JT at h
 rw [hk] at h
 rw [if_neg (by decide), if_neg (by decide), if_neg (by decide), if_neg (by decide), if_neg (by decide), if_neg (by decide), if_neg (by decide), if_neg (by decide), if_pos (by decide), printable_eq (by omega), Option.bind_some] at h
 cases q : prt x.Text with
 | true => rfl
 | false => rw [q, if_pos (by simp)] at h; cases h; exact absurd rfl h2
theorem XE_of {ρ : Env} : ∀ {d m : Nat} {x : M} {t : Int}, Ok d x → Jo m x = some true → tyE d ρ x = .ok t → XE ρ d x
 | 0, _, _, _, h, _, _ => h.elim
 | d + 1, m, x, t, h, hv, ht => by
  obtain ⟨h1, h2, h3⟩ := h
  obtain ⟨m', k, rfl, hk, k2, k3, k4⟩ := expression_inv hv
  rw [tyE] at ht
  cases q : kidsE (tyE d ρ) x.Kids with
  | error e => rw [q] at ht; cases ht
  | ok ts =>
   rw [q] at ht
   simp only at ht
   have hm := kidsE_mem q
   have rec_ : ∀ c ∈ x.Kids, XE ρ d c := fun c hc => by
    obtain ⟨t', h'⟩ := hm c hc
    exact XE_of (h3 c hc) (k4 c hc) h'
   refine ⟨h1, ?_⟩
   have two : k = 2 → ∃ k l, x.Kids = [k, l] ∧ XE ρ d k ∧ XE ρ d l := fun e => by
    obtain ⟨a, b, e⟩ := len2 (by rw [k3 (by omega), e])
    exact ⟨a, b, e, rec_ a (by rw [e]; simp), rec_ b (by rw [e]; simp)⟩
   rcases operands_len hk k2 with ⟨q1, e⟩ | ⟨q1, e⟩ | ⟨q1, e, e2⟩ | ⟨q1, e⟩ | ⟨q1, e⟩
   ·exact .inr (.inr (.inr (.inr (.inr ⟨by omega, two e⟩))))
   ·obtain ⟨a, e⟩ := len1 (by rw [k3 (by omega), e])
    exact .inr (.inr (.inr (.inr (.inl ⟨.inr q1, a, e, rec_ a (by rw [e]; simp)⟩))))
   ·exact .inr (.inr (.inr (.inr (.inr ⟨.inr (.inr (.inr (.inr (.inr ⟨q1, e2⟩)))), two e⟩))))
   ·have e0 : x.Kids = [] := len0 (by rw [k3 (by omega), e])
    rcases q1 with q1 | q1 | q1 | q1
    ·exact .inl ⟨q1, operands_20 h1 q1 hk k2, e0⟩
    ·exact .inr (.inl ⟨q1, operands_21 h1 q1 hk k2, e0⟩)
    ·exact .inr (.inr (.inl ⟨q1, e0⟩))
    ·refine .inr (.inr (.inr (.inl ⟨q1, fun hz => ?_, e0⟩)))
     unfold tyN at ht
     rw [if_neg (by omega), if_neg (by omega), if_neg (by omega), if_pos q1, if_pos hz] at ht
     cases ht
   ·unfold tyN at ht
    rw [if_neg (by omega), if_neg (by omega), if_neg (by omega), if_neg (by omega), if_pos q1] at ht
    by_cases q0 : (fnc x.Text).2 = 0
    ·rw [if_pos q0] at ht; cases ht
    ·rw [if_neg q0] at ht
     by_cases q3 : ts = [(fnc x.Text).1]
     ·have hl := kidsE_len q
      obtain ⟨a, e'⟩ := len1 (l := x.Kids) (by rw [← hl, q3]; rfl)
      exact .inr (.inr (.inr (.inr (.inl ⟨.inl ⟨q1, q0⟩, a, e', rec_ a (by rw [e']; simp)⟩))))
     ·rw [if_neg q3] at ht; cases ht
theorem cE_len {σ : Sg} : ∀ (d b : Nat) (x : M), (cE d σ b x).length ≤ 6 * cnt d x
 | 0, b, x => by simp [cE]
 | d + 1, b, x => by
  rw [cE, cnt_eq]
  by_cases q20 : x.Kind = 20; · rw [if_pos q20]; simp; omega
  by_cases q21 : x.Kind = 21; · rw [if_neg q20, if_pos q21]; simp; omega
  by_cases q22 : x.Kind = 22; · rw [if_neg q20, if_neg q21, if_pos q22, tr_len]; omega
  by_cases q23 : x.Kind = 23; · rw [if_neg q20, if_neg q21, if_neg q22, if_pos q23]; simp; omega
  rw [if_neg q20, if_neg q21, if_neg q22, if_neg q23]
  split
  ·rename_i k e
   have := cE_len (σ := σ) d b k
   rw [e, cntL_cons]
   simp only [List.length_append, List.length_cons, List.length_nil]; omega
  ·rename_i k l e
   rw [e, cntL_cons, cntL_cons]
   have h1 := cE_len (σ := σ) d b k
   split
   ·have h2 := cE_len (σ := σ) d (b + (cE d σ b k).length + 1) l
    simp only [List.length_append, List.length_cons, tr_len]; omega
   ·split
    ·have h2 := cE_len (σ := σ) d (b + (cE d σ b k).length + 5) l
     simp only [List.length_append, List.length_cons, tr_len]; omega
    ·have h2 := cE_len (σ := σ) d (b + (cE d σ b k).length) l
     simp only [List.length_append, List.length_cons, List.length_nil]; omega
  ·simp
def sgP (nm : List Jf) : Sg := fun s => (nm.reverse.find? (fun b => decide (b.name = s))).map (·.slot)
theorem emit_eq {C : List I} {nm : List Jf} {k op n : Int} {s : Str} (h : C.length ≤ 1000000) : Jd ⟨C, nm, k⟩ op n s = some ((C.length : Int), ⟨C ++ [⟨op, n, s⟩], nm, k⟩) := by
 unfold Jd
 rw [chk_bind (by simp only [List.length_cons, List.length_nil, lim]; omega), chk_bind (by simp only [List.length_append, List.length_cons, List.length_nil]; constructor <;> omega)]
 simp
theorem here_eq {C D : List I} {i : I} {nm : List Jf} {k : Int} : Jq ⟨C ++ i :: D, nm, k⟩ (C.length : Int) = some ⟨C ++ ⟨i.Op, ((C ++ i :: D).length : Int), i.S⟩ :: D, nm, k⟩ := by
 unfold Jq ix
 rw [if_pos (by omega), show ((C.length : Nat) : Int).toNat = C.length from by simp]
 simp
theorem here_at {L C D : List I} {i : I} {j : Int} {nm : List Jf} {k : Int} (t : Nat) (hL : L = C ++ i :: D) (hj : j = (C.length : Int)) (ht : L.length = t) : Jq ⟨L, nm, k⟩ j = some ⟨C ++ ⟨i.Op, (t : Int), i.S⟩ :: D, nm, k⟩ := by
 subst hL hj ht; exact here_eq
theorem truth_eq {C : List I} {nm : List Jf} {k : Int} {b : Bool} (h : C.length ≤ 900000) : JL ⟨C, nm, k⟩ b = some ⟨C ++ tr b, nm, k⟩ := by
 unfold JL
 cases b with
 | true => rw [if_pos rfl, emit_eq (by omega), Option.bind_some, emit_eq (by simp; omega), Option.bind_some, emit_eq (by simp; omega), Option.bind_some]; simp [tr]
 | false => rw [if_neg (by simp), emit_eq (by omega), Option.bind_some, emit_eq (by simp; omega), Option.bind_some, emit_eq (by simp; omega), Option.bind_some]; simp [tr]
theorem name_L0_eq {C : List I} {nm : List Jf} {k : Int} {s : Str} (hC : C.length ≤ 1000000) (hl : nm.length ≤ 100000) : ∀ (j n : Nat), j ≤ nm.length → j + 1 ≤ n →
  JN ⟨C, nm, k⟩ s n ((j : Int) - 1) = some (match (nm.take j).reverse.find? (fun b => decide (b.name = s)) with
   | some b => Fl.ret ⟨C ++ [⟨3, b.slot, []⟩], nm, k⟩
   | none => Fl.go (-1))
 | 0, n + 1, _, _ => by
  rw [JN, if_neg (by simp)]; simp
 | j + 1, n + 1, hj, hn => by
  have hlt : j < nm.length := by omega
  rw [JN, if_pos (by simp), show (((j + 1 : Nat) : Int) - 1) = (j : Int) by omega]
  simp only
  rw [ixn hlt, Option.bind_some, Option.bind_some, List.take_succ_eq_append_getElem hlt, List.reverse_append, List.reverse_cons, List.reverse_nil, List.nil_append, List.cons_append, List.find?_cons]
  by_cases q : nm[j].name = s
  ·rw [if_pos (by simpa using q), emit_eq hC, Option.bind_some, decide_eq_true q]
  ·rw [if_neg (by simpa using q), chk_bind (by constructor <;> omega), name_L0_eq hC hl j n (by omega) (by omega), decide_eq_false q]
   rfl
theorem name_eq {C : List I} {nm : List Jf} {k : Int} {s : Str} {n : Nat} (hC : C.length ≤ 1000000) (hl : nm.length ≤ 100000) (hn : nm.length + 1 ≤ n) : Jak n ⟨C, nm, k⟩ s = some ⟨C ++ [nmI (sgP nm) s], nm, k⟩ := by
 unfold Jak
 rw [chk_bind (by simp only []; constructor <;> omega)]
 have h := name_L0_eq (s := s) (k := k) hC hl nm.length n (by omega) hn
 rw [List.take_length] at h
 simp only at h ⊢
 rw [h, Option.bind_some]
 unfold nmI sgP
 cases q : nm.reverse.find? (fun b => decide (b.name = s)) with
 | some b => rw [el_ret]; rfl
 | none => rw [el_go, emit_eq hC, Option.bind_some]; rfl
theorem digitVal_eq {c : UInt8} (h : isD c = true) : Go.Lib.digitVal c = some (c.toNat - 48) := by
 simp only [isD, Bool.and_eq_true, decide_eq_true_eq] at h
 unfold Go.Lib.digitVal
 rw [if_pos (by omega)]
theorem decFrom_eq : ∀ (s : Str) (a : Nat), s.all isD = true → Go.Lib.decFrom a s = some (s.foldl (fun n c => 10 * n + (c.toNat - 48)) a)
 | [], a, _ => rfl
 | c :: s, a, h => by
  simp only [List.all_cons, Bool.and_eq_true] at h
  rw [Go.Lib.decFrom, digitVal_eq h.1]
  simp only
  rw [decFrom_eq s _ h.2, List.foldl_cons, Nat.mul_comm a 10]
theorem num_cast : ∀ (s : Str) (a : Nat), s.all isD = true → s.foldl (fun (n : Int) c => 10 * n + ((c.toNat : Int) - 48)) (a : Int) = ((s.foldl (fun n c => 10 * n + (c.toNat - 48)) a : Nat) : Int)
 | [], a, _ => rfl
 | c :: s, a, h => by
  simp only [List.all_cons, Bool.and_eq_true] at h
  have h1 := h.1
  simp only [isD, Bool.and_eq_true, decide_eq_true_eq] at h1
  rw [List.foldl_cons, List.foldl_cons, ← num_cast s _ h.2]
  congr 1
  omega
theorem nmr_all {s : Str} (h : nmr s = true) : s.all isD = true ∧ s.length ≤ 9 ∧ 1 ≤ s.length := by
 cases s with
 | nil => simp [nmr] at h
 | cons c t =>
  simp only [nmr, Bool.and_eq_true, decide_eq_true_eq] at h
  exact ⟨by rw [List.all_cons, h.1.1, h.1.2]; rfl, by simp; omega, by simp⟩
theorem atoiEq {s : Str} (h : nmr s = true) : atoiM s = some (num s, none) := by
 obtain ⟨h1, h2, h3⟩ := nmr_all h
 unfold atoiM
 rw [if_pos (by omega)]
 have e : Go.Lib.atoi s = some (num s) := by
  cases s with
  | nil => simp at h3
  | cons c t =>
   have hc : isD c = true := by simp only [List.all_cons, Bool.and_eq_true] at h1; exact h1.1
   simp only [isD, Bool.and_eq_true, decide_eq_true_eq] at hc
   have n1 : (c == 45) = false := by
    rw [beq_eq_false_iff_ne]; intro e; subst e; simp at hc
   have n2 : (c == 43) = false := by
    rw [beq_eq_false_iff_ne]; intro e; subst e; simp at hc
   rw [Go.Lib.atoi, n1, n2]
   simp only [Bool.false_eq_true, if_false]
   rw [Go.Lib.decNat]
   simp only [List.isEmpty_cons, Bool.false_eq_true, if_false]
   rw [decFrom_eq _ _ h1, Option.map_some, num, ← num_cast _ 0 h1]
   rfl
 rw [e]; rfl
theorem cE_20 {d b : Nat} {σ : Sg} {x : M} (h : x.Kind = 20) : cE (d + 1) σ b x = [⟨1, num x.Text, []⟩] := by rw [cE, if_pos h]
theorem cE_21 {d b : Nat} {σ : Sg} {x : M} (h : x.Kind = 21) : cE (d + 1) σ b x = [⟨2, 0, x.Text⟩] := by rw [cE, if_neg (by omega), if_pos h]
theorem cE_22 {d b : Nat} {σ : Sg} {x : M} (h : x.Kind = 22) : cE (d + 1) σ b x = tr (decide (x.Text = sTrue)) := by rw [cE, if_neg (by omega), if_neg (by omega), if_pos h]
theorem cE_23 {d b : Nat} {σ : Sg} {x : M} (h : x.Kind = 23) : cE (d + 1) σ b x = [nmI σ x.Text] := by rw [cE, if_neg (by omega), if_neg (by omega), if_neg (by omega), if_pos h]
theorem cE_24 {d b : Nat} {σ : Sg} {x k : M} (h : x.Kind = 24) (hk : x.Kids = [k]) : cE (d + 1) σ b x = cE d σ b k ++ [⟨6, 0, x.Text⟩] := by
 rw [cE, if_neg (by omega), if_neg (by omega), if_neg (by omega), if_neg (by omega), hk]; simp only; rw [if_pos h]
theorem cE_15 {d b : Nat} {σ : Sg} {x k : M} (h : x.Kind = 15) (hk : x.Kids = [k]) : cE (d + 1) σ b x = cE d σ b k ++ [⟨8, 0, []⟩] := by
 rw [cE, if_neg (by omega), if_neg (by omega), if_neg (by omega), if_neg (by omega), hk]; simp only; rw [if_neg (by omega)]
theorem cE_14 {d b : Nat} {σ : Sg} {x k l : M} (h : x.Kind = 14) (hk : x.Kids = [k, l]) : cE (d + 1) σ b x = cE d σ b k ++ ⟨10, (b + (cE d σ b k).length + 1 + (cE d σ (b + (cE d σ b k).length + 1) l).length + 1 : Nat), []⟩ :: (cE d σ (b + (cE d σ b k).length + 1) l ++ ⟨9, (b + (cE d σ b k).length + 1 + (cE d σ (b + (cE d σ b k).length + 1) l).length + 4 : Nat), []⟩ :: tr false) := by
 rw [cE, if_neg (by omega), if_neg (by omega), if_neg (by omega), if_neg (by omega), hk]; simp only; rw [if_pos h]
theorem cE_13 {d b : Nat} {σ : Sg} {x k l : M} (h : x.Kind = 13) (hk : x.Kids = [k, l]) : cE (d + 1) σ b x = cE d σ b k ++ ⟨10, (b + (cE d σ b k).length + 5 : Nat), []⟩ :: (tr true ++ ⟨9, (b + (cE d σ b k).length + 5 + (cE d σ (b + (cE d σ b k).length + 5) l).length : Nat), []⟩ :: cE d σ (b + (cE d σ b k).length + 5) l) := by
 rw [cE, if_neg (by omega), if_neg (by omega), if_neg (by omega), if_neg (by omega), hk]; simp only; rw [if_neg (by omega), if_pos h]
theorem cE_op {d b : Nat} {σ : Sg} {x k l : M} (h : x.Kind = 17 ∨ x.Kind = 18 ∨ x.Kind = 19 ∨ x.Kind = 16) (hk : x.Kids = [k, l]) : cE (d + 1) σ b x = cE d σ b k ++ (cE d σ (b + (cE d σ b k).length) l ++ [⟨7, 0, opw x⟩]) := by
 rw [cE, if_neg (by omega), if_neg (by omega), if_neg (by omega), if_neg (by omega), hk]; simp only; rw [if_neg (by omega), if_neg (by omega)]
theorem ix0 {α : Type} {a : α} {l : List α} : ix (a :: l) 0 = some a := rfl
theorem ix1 {α : Type} {a b : α} {l : List α} : ix (a :: b :: l) 1 = some b := rfl
theorem pboth {n : Nat} {f : Cp → M → Option Cp} {c c1 c2 : Cp} {x k l : M} {w : Str} (hk : x.Kids = [k, l]) (h1 : f c k = some c1) (h2 : f c1 l = some c2) (hl : c2.code.length ≤ 1000000) :
  JR f n c x w = some ⟨c2.code ++ [⟨7, 0, w⟩], c2.names, c2.slots⟩ := by
 unfold JR
 rw [hk, ix0, Option.bind_some, h1, Option.bind_some, ix1, Option.bind_some, h2, Option.bind_some, emit_eq hl, Option.bind_some]
theorem pand {f : Cp → M → Option Cp} {C A B : List I} {nm : List Jf} {z : Int} {k l : M} (h1 : f ⟨C, nm, z⟩ k = some ⟨C ++ A, nm, z⟩) (h2 : f ⟨C ++ A ++ [⟨10, 0, []⟩], nm, z⟩ l = some ⟨C ++ A ++ [⟨10, 0, []⟩] ++ B, nm, z⟩) (hl : C.length + A.length + B.length ≤ 800000) :
  ((f ⟨C, nm, z⟩ k).bind fun x95 => (Jd x95 10 0 []).bind fun x97 => (f x97.2 l).bind fun x103 => (Jd x103 9 0 []).bind fun x105 => (Jq x105.2 x97.1).bind fun x108 =>
   (JL x108 false).bind fun x110 => (Jq x110 x105.1).bind fun x113 => some x113) = some ⟨C ++ (A ++ ⟨10, (C.length + A.length + 1 + B.length + 1 : Nat), []⟩ :: (B ++ ⟨9, (C.length + A.length + 1 + B.length + 4 : Nat), []⟩ :: tr false)), nm, z⟩ := by
 rw [h1, Option.bind_some, emit_eq (by simp; omega), Option.bind_some]
 simp only
 rw [h2, Option.bind_some, emit_eq (by simp; omega), Option.bind_some]
 simp only
 rw [here_at (C := C ++ A) (i := ⟨10, 0, []⟩) (D := B ++ [⟨9, 0, []⟩]) (C.length + A.length + 1 + B.length + 1) (by simp) rfl (by simp; omega), Option.bind_some, truth_eq (by simp; omega), Option.bind_some]
 rw [here_at (C := C ++ A ++ (⟨10, (C.length + A.length + 1 + B.length + 1 : Nat), []⟩ : I) :: B) (i := ⟨9, 0, []⟩) (D := tr false) (C.length + A.length + 1 + B.length + 4) (by simp) (by simp) (by simp [tr_len]; omega), Option.bind_some]
 simp only [List.append_assoc, List.cons_append, List.nil_append]
theorem por {f : Cp → M → Option Cp} {C A B : List I} {nm : List Jf} {z : Int} {k l : M} (h1 : f ⟨C, nm, z⟩ k = some ⟨C ++ A, nm, z⟩)
  (h2 : f ⟨C ++ (A ++ ⟨10, (C.length + A.length + 5 : Nat), []⟩ :: (tr true ++ [⟨9, 0, []⟩])), nm, z⟩ l = some ⟨C ++ (A ++ ⟨10, (C.length + A.length + 5 : Nat), []⟩ :: (tr true ++ [⟨9, 0, []⟩])) ++ B, nm, z⟩) (hl : C.length + A.length + B.length ≤ 800000) :
  ((f ⟨C, nm, z⟩ k).bind fun x121 => (Jd x121 10 0 []).bind fun x123 => (JL x123.2 true).bind fun x125 => (Jd x125 9 0 []).bind fun x127 => (Jq x127.2 x123.1).bind fun x130 =>
   (f x130 l).bind fun x136 => (Jq x136 x127.1).bind fun x139 => some x139) = some ⟨C ++ (A ++ ⟨10, (C.length + A.length + 5 : Nat), []⟩ :: (tr true ++ ⟨9, (C.length + A.length + 5 + B.length : Nat), []⟩ :: B)), nm, z⟩ := by
 rw [h1, Option.bind_some, emit_eq (by simp; omega), Option.bind_some]
 simp only
 rw [truth_eq (by simp; omega), Option.bind_some, emit_eq (by simp [tr_len]; omega), Option.bind_some]
 simp only
 rw [here_at (C := C ++ A) (i := ⟨10, 0, []⟩) (D := tr true ++ [⟨9, 0, []⟩]) (C.length + A.length + 5) (by simp) (by simp) (by simp [tr_len]; omega), Option.bind_some, List.append_assoc]
 simp only
 rw [h2, Option.bind_some]
 rw [here_at (C := C ++ (A ++ ⟨10, (C.length + A.length + 5 : Nat), []⟩ :: tr true)) (i := ⟨9, 0, []⟩) (D := B) (C.length + A.length + 5 + B.length) (by simp) (by simp [tr_len]) (by simp [tr_len]; omega), Option.bind_some]
 simp only [List.append_assoc, List.cons_append, List.nil_append]
theorem pexpr {ρ : Env} {nm : List Jf} {z : Int} (hnm : nm.length ≤ 100000) : ∀ (d n : Nat) (C : List I) (x : M), XE ρ d x → d + 200000 ≤ n → C.length + 6 * cnt d x ≤ 800000 →
  Jr n ⟨C, nm, z⟩ x = some ⟨C ++ cE d (sgP nm) C.length x, nm, z⟩
 | 0, _, _, _, h, _, _ => h.elim
 | d + 1, 0, _, _, _, hn, _ => by omega
 | d + 1, n + 1, C, x, ⟨h1, h2⟩, hn, hC => by
  rw [cnt_eq] at hC
  rw [Jr]
  rcases h2 with ⟨q, ht, hk⟩ | ⟨q, ht, hk⟩ | ⟨q, hk⟩ | ⟨q, ht, hk⟩ | ⟨q, k, hk, hx⟩ | ⟨q, k, l, hk, hx, hy⟩
  ·rw [if_pos (by simpa using q), atoiEq ht, Option.bind_some, if_neg (by simp), emit_eq (by omega), Option.bind_some, cE_20 q]
  ·rw [if_neg (by simp; omega), if_pos (by simpa using q), emit_eq (by omega), Option.bind_some, cE_21 q]
  ·rw [if_neg (by simp; omega), if_neg (by simp; omega), if_pos (by simpa using q), truth_eq (by omega), Option.bind_some, cE_22 q]; rfl
  ·rw [if_neg (by simp; omega), if_neg (by simp; omega), if_neg (by simp; omega), if_pos (by simpa using q), name_eq (by omega) hnm (by omega), Option.bind_some, cE_23 q]
  ·rw [hk, cntL_cons] at hC
   have hl := cE_len (σ := sgP nm) d C.length k
   have e := pexpr (z := z) hnm d n C k hx (by omega) (by omega)
   rcases q with ⟨q, _⟩ | q
   ·rw [if_neg (by simp; omega), if_neg (by simp; omega), if_neg (by simp; omega), if_neg (by simp; omega), if_pos (by simpa using q), hk, ix0, Option.bind_some, e, Option.bind_some, emit_eq (by simp; omega), Option.bind_some, cE_24 q hk, List.append_assoc]
   ·rw [if_neg (by simp; omega), if_neg (by simp; omega), if_neg (by simp; omega), if_neg (by simp; omega), if_neg (by simp; omega), if_pos (by simpa using q), hk, ix0, Option.bind_some, e, Option.bind_some, emit_eq (by simp; omega), Option.bind_some, cE_15 q hk, List.append_assoc]
  ·rw [hk, cntL_cons, cntL_cons] at hC
   have hl := cE_len (σ := sgP nm) d C.length k
   have e := pexpr (z := z) hnm d n C k hx (by omega) (by omega)
   have both : ∀ w, opw x = w → (x.Kind = 17 ∨ x.Kind = 18 ∨ x.Kind = 19 ∨ x.Kind = 16) → JR (Jr n) n ⟨C, nm, z⟩ x w = some ⟨C ++ cE (d + 1) (sgP nm) C.length x, nm, z⟩ := fun w hw hq => by
    have e2 := pexpr (z := z) hnm d n (C ++ cE d (sgP nm) C.length k) l hy (by omega) (by simp only [List.length_append]; omega)
    have hl2 := cE_len (σ := sgP nm) d (C ++ cE d (sgP nm) C.length k).length l
    rw [pboth hk e e2 (by simp only [List.length_append] at hl2 ⊢; omega), cE_op hq hk, hw]
    simp only [List.length_append, List.append_assoc]
   by_cases q17 : x.Kind = 17
   ·rw [if_neg (by simp; omega), if_neg (by simp; omega), if_neg (by simp; omega), if_neg (by simp; omega), if_neg (by simp; omega), if_neg (by simp; omega), if_pos (by simpa using q17), both [43] (by simp [opw, q17]) (by omega), Option.bind_some]
   by_cases q18 : x.Kind = 18
   ·rw [if_neg (by simp; omega), if_neg (by simp; omega), if_neg (by simp; omega), if_neg (by simp; omega), if_neg (by simp; omega), if_neg (by simp; omega), if_neg (by simp; omega), if_pos (by simpa using q18), both [45] (by simp [opw, q18]) (by omega), Option.bind_some]
   by_cases q19 : x.Kind = 19
   ·rw [if_neg (by simp; omega), if_neg (by simp; omega), if_neg (by simp; omega), if_neg (by simp; omega), if_neg (by simp; omega), if_neg (by simp; omega), if_neg (by simp; omega), if_neg (by simp; omega), if_pos (by simpa using q19), both [42] (by simp [opw, q19]) (by omega), Option.bind_some]
   by_cases q16 : x.Kind = 16
   ·rw [if_neg (by simp; omega), if_neg (by simp; omega), if_neg (by simp; omega), if_neg (by simp; omega), if_neg (by simp; omega), if_neg (by simp; omega), if_neg (by simp; omega), if_neg (by simp; omega), if_neg (by simp; omega), if_pos (by simpa using q16), both x.Text (by simp [opw, q16]) (by omega), Option.bind_some]
   by_cases q14 : x.Kind = 14
   ·have hl2 := cE_len (σ := sgP nm) d (C.length + (cE d (sgP nm) C.length k).length + 1) l
    have e2 := pexpr (z := z) hnm d n (C ++ cE d (sgP nm) C.length k ++ [⟨10, 0, []⟩]) l hy (by omega) (by simp only [List.length_append, List.length_cons, List.length_nil]; omega)
    simp only [List.length_append, List.length_cons, List.length_nil, Nat.zero_add] at e2
    have h := pand e e2 (by omega)
    rw [if_neg (by simp; omega), if_neg (by simp; omega), if_neg (by simp; omega), if_neg (by simp; omega), if_neg (by simp; omega), if_neg (by simp; omega), if_neg (by simp; omega), if_neg (by simp; omega), if_neg (by simp; omega), if_neg (by simp; omega), if_pos (by simpa using q14), hk, ix0, Option.bind_some, ix1]
    simp only [Option.bind_some] at h ⊢
    rw [h, cE_14 q14 hk]
   ·have q13 : x.Kind = 13 := by omega
    have hl2 := cE_len (σ := sgP nm) d (C.length + (cE d (sgP nm) C.length k).length + 5) l
    have e2 := pexpr (z := z) hnm d n (C ++ (cE d (sgP nm) C.length k ++ ⟨10, (C.length + (cE d (sgP nm) C.length k).length + 5 : Nat), []⟩ :: (tr true ++ [⟨9, 0, []⟩]))) l hy (by omega) (by simp only [List.length_append, List.length_cons, List.length_nil, tr_len]; omega)
    rw [show (C ++ (cE d (sgP nm) C.length k ++ (⟨10, (C.length + (cE d (sgP nm) C.length k).length + 5 : Nat), []⟩ : I) :: (tr true ++ [⟨9, 0, []⟩]))).length = C.length + (cE d (sgP nm) C.length k).length + 5 by simp [tr_len]; omega] at e2
    have h := por e e2 (by omega)
    rw [if_neg (by simp; omega), if_neg (by simp; omega), if_neg (by simp; omega), if_neg (by simp; omega), if_neg (by simp; omega), if_neg (by simp; omega), if_neg (by simp; omega), if_neg (by simp; omega), if_neg (by simp; omega), if_neg (by simp; omega), if_neg (by simp; omega), if_pos (by simpa using q13), hk, ix0, Option.bind_some, ix1]
    simp only [Option.bind_some] at h ⊢
    rw [h, cE_13 q13 hk]
end Rt.Rc
