import Derived.Test.YtkpipkpdnbconaaGreatDoorR
import Derived.Test.YtkpipkpdnbconaaGreatDoorPlain
set_option linter.unusedVariables false
set_option linter.unusedSimpArgs false
open Go Go.SL Go.Proofs Pl
namespace Rt
theorem el_go {ρ σ γ : Type} {y : σ} {f : ρ → Option γ} {g : σ → Option γ} : (Fl.go y : Fl ρ σ).el f g = g y := rfl
theorem el_ret {ρ σ γ : Type} {y : ρ} {f : ρ → Option γ} {g : σ → Option γ} : (Fl.ret y : Fl ρ σ).el f g = f y := rfl
theorem ix_ok {α : Type} {s : List α} {i : Int} (h0 : 0 ≤ i) (h1 : i < (s.length : Int)) : ∃ x, ix s i = some x := by
 unfold ix
 rw [if_pos h0]
 exact ⟨s[i.toNat]'(by omega), List.getElem?_eq_getElem (by omega)⟩
theorem ite_ex {α : Type} {b : Bool} {x y : Option α} (h1 : b = true → ∃ r, x = some r) (h2 : b = false → ∃ r, y = some r) : ∃ r, (if b = true then x else y) = some r := by
 cases b with
 | true => exact h1 rfl
 | false => exact h2 rfl
theorem quoted_L0 {s : Str} (hs : s.length ≤ 5000) : ∀ (n : Nat) (y : Str) (i : Int), 0 ≤ i → i ≤ (s.length : Int) → (s.length : Int) - i < n → (y.length : Int) + (s.length - i) ≤ 100000 → ∃ r, Jas s n y i = some r ∧ ∀ a b, r = Fl.ret (a, b) → a = 0 ∨ (0 < a ∧ a ≤ (s.length : Int))
 | 0, y, i, h0, h3, h1, h2 => by omega
 | n + 1, y, i, h0, h3, h1, h2 => by
  rw [Jas]
  by_cases hi : i < (s.length : Int)
  ·obtain ⟨c, hc⟩ := ix_ok h0 hi
   rw [if_pos (by simpa using hi), hc, Option.bind_some]
   by_cases q : (c.toNat : Int) = 34
   ·rw [if_pos (by simpa using q), chk_bind (by constructor <;> omega)]
    exact ⟨_, rfl, fun a b e => by cases e; right; omega⟩
   ·rw [if_neg (by simpa using q)]
    by_cases q2 : (c.toNat : Int) = 92
    ·rw [if_pos (by simpa using q2), chk_bind (by constructor <;> omega)]
     by_cases q3 : i + 1 = (s.length : Int)
     ·rw [if_pos (by simpa using q3)]; exact ⟨_, rfl, fun a b e => by cases e; left; rfl⟩
     ·obtain ⟨d, hd⟩ := ix_ok (s := s) (i := i + 1) (by omega) (by omega)
      rw [if_neg (by simpa using q3), hd, Option.bind_some]
      have e2 : ∃ b, (if decide ((d.toNat : Int) ≠ 34) = true then (some d).bind fun x40 => some (decide ((x40.toNat : Int) ≠ 92)) else some false) = some b := ite_ex (fun _ => ⟨_, rfl⟩) (fun _ => ⟨_, rfl⟩)
      obtain ⟨b, hb⟩ := e2
      rw [hb, Option.bind_some]
      cases b with
      | true => exact ⟨_, if_pos rfl, fun a b e => by cases e; left; rfl⟩
      | false =>
       rw [if_neg (by simp), Option.bind_some, chk_bind (by simp only [lim, List.length_cons, List.length_nil]; omega), chk_bind (by constructor <;> omega)]
       exact quoted_L0 hs n _ _ (by omega) (by omega) (by omega) (by simp only [List.length_append, List.length_cons, List.length_nil]; omega)
    ·rw [if_neg (by simpa using q2)]
     refine (fun (h : ∀ b : Bool, b = (decide ((c.toNat : Int) < 32) || decide ((c.toNat : Int) > 126)) → _) => h _ rfl) fun b hb => ?_
     rw [← hb]
     cases b with
     | true => exact ⟨_, if_pos rfl, fun a b e => by cases e; left; rfl⟩
     | false =>
      rw [if_neg (by simp), chk_bind (by simp only [lim, List.length_cons, List.length_nil]; omega), chk_bind (by constructor <;> omega)]
      exact quoted_L0 hs n _ _ (by omega) (by omega) (by omega) (by simp only [List.length_append, List.length_cons, List.length_nil]; omega)
  ·rw [if_neg (by simpa using hi)]; exact ⟨_, rfl, fun a b e => by cases e⟩
theorem token_L1 {s : Str} (hs : s.length ≤ 5000) : ∀ (n : Nat) (i : Int), 0 < i → i ≤ (s.length : Int) → (s.length : Int) - i < n → ∃ r, Jam s n i = some r ∧ 0 < r ∧ r ≤ (s.length : Int)
 | 0, i, h0, h1, h2 => by omega
 | n + 1, i, h0, h1, h2 => by
  rw [Jam]
  by_cases hi : i < (s.length : Int)
  ·obtain ⟨c, hc⟩ := ix_ok (by omega) hi
   rw [if_pos (by simpa using hi), hc, Option.bind_some]
   unfold JaF Jay
   rw [Option.bind_some]
   have e : ∀ b : Bool, ∃ d, (if b = true then some true else (some c).bind fun x28 => (some (decide ((x28.toNat : Int) ≥ 48) && decide ((x28.toNat : Int) ≤ 57))).bind fun x29 => some x29) = some d := fun b => ite_ex (fun _ => ⟨_, rfl⟩) (fun _ => ⟨_, rfl⟩)
   obtain ⟨d, hd⟩ := e _
   rw [hd, Option.bind_some]
   cases d with
   | true => rw [if_pos rfl, chk_bind (by constructor <;> omega)]; exact token_L1 hs n (i + 1) (by omega) (by omega) (by omega)
   | false => exact ⟨i, if_neg (by simp), h0, h1⟩
  ·exact ⟨i, if_neg (by simpa using hi), h0, h1⟩
theorem token_L3 {s : Str} (hs : s.length ≤ 5000) : ∀ (n : Nat) (i : Int), 0 < i → i ≤ (s.length : Int) → (s.length : Int) - i < n → ∃ r, JaO s n i = some r ∧ 0 < r ∧ r ≤ (s.length : Int)
 | 0, i, h0, h1, h2 => by omega
 | n + 1, i, h0, h1, h2 => by
  rw [JaO]
  by_cases hi : i < (s.length : Int)
  ·obtain ⟨c, hc⟩ := ix_ok (by omega) hi
   rw [if_pos (by simpa using hi), hc, Option.bind_some]
   unfold Jay
   rw [Option.bind_some, Option.bind_some]
   refine (fun (h : ∀ b : Bool, b = (decide ((c.toNat : Int) ≥ 48) && decide ((c.toNat : Int) ≤ 57)) → _) => h _ rfl) fun b hb => ?_
   rw [← hb]
   cases b with
   | true => rw [if_pos rfl, chk_bind (by constructor <;> omega)]; exact token_L3 hs n (i + 1) (by omega) (by omega) (by omega)
   | false => exact ⟨i, if_neg (by simp), h0, h1⟩
  ·rw [if_neg (by simpa using hi), Option.bind_some]
   exact ⟨i, if_neg (by simp), h0, h1⟩
theorem prefix_ok (s p : Str) : Jbl s p = some (decide ((s.length : Int) ≥ (p.length : Int)) && decide (subL s (0 : Int) (p.length : Int) = p)) := by
 unfold Jbl J8
 by_cases h : (s.length : Int) ≥ (p.length : Int)
 ·rw [if_pos (by simpa using h), chk_bind (by omega)]; simp [h]
 ·rw [if_neg (by simpa using h)]
  have : ¬ p.length ≤ s.length := by omega
  simp [this]
theorem token_L5 {s : Str} : ∀ (k i : Nat), i + k = 14 → ∃ r, Jan s k i = some r ∧ ∀ a b c, r = Fl.ret (a, b, c) → 0 ≤ b ∧ b ≤ (s.length : Int)
 | 0, i, h => ⟨_, rfl, fun a b c e => by cases e⟩
 | k + 1, i, h => by
  rw [Jan]
  obtain ⟨p, hp⟩ := ix_ok (s := ([([61, 61] : Str), ([33, 61] : Str), ([60, 61] : Str), ([60] : Str), ([43] : Str), ([45] : Str), ([42] : Str), ([40] : Str), ([41] : Str), ([123] : Str), ([125] : Str), ([44] : Str), ([59] : Str), ([61] : Str)])) (i := (i : Int)) (by omega) (by simp; omega)
  rw [hp, Option.bind_some, prefix_ok, Option.bind_some]
  by_cases q : (decide ((s.length : Int) ≥ (p.length : Int)) && decide (subL s (0 : Int) (p.length : Int) = p)) = true
  ·rw [if_pos q]
   simp only [Bool.and_eq_true, decide_eq_true_eq] at q
   exact ⟨_, rfl, fun a b c e => by cases e; omega⟩
  ·rw [if_neg q]; exact token_L5 k (i + 1) (by omega)
theorem token_ok {n : Nat} {s : Str} (hn : 10000 ≤ n) (h0 : 0 < s.length) (hs : s.length ≤ 5000) : ∃ a b c, JaS n s = some (a, b, c) ∧ 0 ≤ b ∧ b ≤ (s.length : Int) := by
 unfold JaS
 obtain ⟨c, hc⟩ := ix_ok (s := s) (i := 0) (by omega) (by omega)
 rw [hc, Option.bind_some]
 unfold JaF
 rw [Option.bind_some]
 split
 ·obtain ⟨r, hr, h1, h2⟩ := token_L1 hs n 1 (by omega) (by omega) (by omega)
  rw [hr, Option.bind_some, chk_bind (by omega)]
  exact ⟨_, _, _, rfl, by omega, h2⟩
 ·unfold Jay
  rw [Option.bind_some]
  split
  ·obtain ⟨r, hr, h1, h2⟩ := token_L3 hs n 1 (by omega) (by omega) (by omega)
   rw [hr, Option.bind_some]
   split
   ·exact ⟨_, _, _, rfl, by omega, by omega⟩
   ·rw [chk_bind (by omega)]; exact ⟨_, _, _, rfl, by omega, h2⟩
  ·split
   ·unfold JbX
    obtain ⟨r, hr, h1⟩ := quoted_L0 hs n [] 1 (by omega) (by omega) (by omega) (by simp; omega)
    rw [hr, Option.bind_some]
    cases r with
    | ret z =>
     obtain ⟨a, b⟩ := z
     rw [el_ret, Option.bind_some]
     have := h1 a b rfl
     exact ⟨_, _, _, rfl, by omega, by omega⟩
    | go z => rw [el_go, Option.bind_some]; exact ⟨_, _, _, rfl, by omega, by omega⟩
   ·obtain ⟨r, hr, h1⟩ := token_L5 (s := s) 14 0 rfl
    rw [chk_bind (by constructor <;> omega), show ((14 : Int)).toNat = 14 from rfl, hr, Option.bind_some]
    cases r with
    | ret z =>
     obtain ⟨a, b, c⟩ := z
     have := h1 a b c rfl
     exact ⟨_, _, _, rfl, this.1, this.2⟩
    | go z => exact ⟨_, _, _, rfl, by omega, by omega⟩
theorem split_L3 {s : Str} (hs : s.length ≤ 5000) : ∀ (n : Nat) (i : Int), 0 ≤ i → i ≤ (s.length : Int) → (s.length : Int) - i < n → ∃ r, JaP s n i = some r ∧ i ≤ r ∧ r ≤ (s.length : Int) ∧ (∀ c, ix s i = some c → (c.toNat : Int) ≠ 10 → i < r)
 | 0, i, h0, h1, h2 => by omega
 | n + 1, i, h0, h1, h2 => by
  rw [JaP]
  by_cases hi : i < (s.length : Int)
  ·obtain ⟨c, hc⟩ := ix_ok h0 hi
   rw [if_pos (by simpa using hi), hc, Option.bind_some, Option.bind_some]
   by_cases q : (c.toNat : Int) = 10
   ·exact ⟨i, if_neg (by simpa using q), by omega, h1, fun d e => by cases e; exact fun h => absurd q h⟩
   ·obtain ⟨r, hr, h3, h4, _⟩ := split_L3 hs n (i + 1) (by omega) (by omega) (by omega)
    rw [if_pos (by simpa using q), chk_bind (by constructor <;> omega)]
    exact ⟨r, hr, by omega, h4, fun _ _ _ => by omega⟩
  ·rw [if_neg (by simpa using hi), Option.bind_some]
   refine ⟨i, if_neg (by simp), by omega, h1, fun c e => ?_⟩
   unfold ix at e
   rw [if_pos h0, List.getElem?_eq_none (by omega)] at e; cases e
theorem split_L0 {s : Str} {m : Nat} (hm : 10000 ≤ m) (hs : s.length ≤ 5000) : ∀ (n : Nat) (y : List Jt) (a b i : Int), 0 ≤ i → i ≤ (s.length : Int) → (s.length : Int) - i < n → (y.length : Int) + (s.length - i) ≤ 100000 → 0 ≤ a → a + (s.length - i) ≤ 100000 → 0 ≤ b → b ≤ i →
  ∃ r, JG s m n y a b i = some r ∧ ∀ p q u v, r = Fl.go (p, q, u, v) → p.length ≤ 100000 ∧ 0 ≤ u ∧ u ≤ (s.length : Int)
 | 0, y, a, b, i, h0, h1, h2, h3, h4, h5, h6, h7 => by omega
 | n + 1, y, a, b, i, h0, h1, h2, h3, h4, h5, h6, h7 => by
  rw [JG]
  by_cases hi : i < (s.length : Int)
  ·obtain ⟨c, hc⟩ := ix_ok h0 hi
   rw [if_pos (by simpa using hi), hc, Option.bind_some]
   split
   ·rw [chk_bind (by constructor <;> omega), chk_bind (by constructor <;> omega)]
    exact split_L0 hm hs n _ _ _ _ (by omega) (by omega) (by omega) (by omega) (by omega) (by omega) (by omega) (by omega)
   ·rename_i h10
    split
    ·rw [chk_bind (by constructor <;> omega)]
     exact split_L0 hm hs n _ _ _ _ (by omega) (by omega) (by omega) (by omega) (by omega) (by omega) (by omega) (by omega)
    ·split
     ·rw [chk_bind (by constructor <;> omega)]
      exact split_L0 hm hs n _ _ _ _ (by omega) (by omega) (by omega) (by omega) (by omega) (by omega) (by omega) (by omega)
     ·split
      ·rw [chk_bind (by constructor <;> omega)]
       exact split_L0 hm hs n _ _ _ _ (by omega) (by omega) (by omega) (by omega) (by omega) (by omega) (by omega) (by omega)
      ·split
       ·obtain ⟨r, hr, g1, g2, g3⟩ := split_L3 hs m i h0 h1 (by omega)
        have := g3 c hc (by simpa using h10)
        rw [hr, Option.bind_some]
        exact split_L0 hm hs n _ _ _ _ (by omega) (by omega) (by omega) (by omega) (by omega) (by omega) (by omega) (by omega)
       ·have hsl : (subL s i (s.length : Int)).length = s.length - i.toNat := by
         unfold subL
         rw [List.length_take, List.length_drop]; omega
        rw [chk_bind (by omega)]
        obtain ⟨u, v, w, hr, g1, g2⟩ := token_ok (n := m) (s := subL s i (s.length : Int)) hm (by omega) (by omega)
        rw [hr, Option.bind_some]
        split
        ·exact ⟨_, rfl, fun p q u v e => by cases e⟩
        ·rename_i hz
         have hz' : v ≠ 0 := by simpa using hz
         rw [chk_bind (by constructor <;> omega), chk_bind (by constructor <;> omega), chk_bind (by simp only [lim, List.length_cons, List.length_nil]; omega), chk_bind (by constructor <;> simp only <;> omega)]
         exact split_L0 hm hs n _ _ _ _ (by simp only; omega) (by simp only; omega) (by simp only; omega) (by simp only [List.length_append, List.length_cons, List.length_nil]; omega) (by omega) (by simp only; omega) (by omega) (by simp only; omega)
  ·rw [if_neg (by simpa using hi)]
   exact ⟨_, rfl, fun p q u v e => by cases e; omega⟩
theorem split_ok {n : Nat} {s : Str} (hn : 10000 ≤ n) : ∃ r, JaT n s = some r := by
 unfold JaT
 by_cases h : (s.length : Int) > 4096
 ·exact ⟨_, if_pos (by simpa using h)⟩
 ·obtain ⟨r, hr, h1⟩ := split_L0 hn (s := s) (by omega) n [] 1 0 0 (by omega) (by omega) (by omega) (by simp; omega) (by omega) (by omega) (by omega) (by omega)
  rw [if_neg (by simpa using h), hr, Option.bind_some]
  cases r with
  | ret z => rw [el_ret]; exact ⟨_, rfl⟩
  | go z =>
   obtain ⟨p, q, u, v⟩ := z
   obtain ⟨g1, g2, g3⟩ := h1 p q u v rfl
   rw [el_go, chk_bind (by constructor <;> simp only <;> omega), chk_bind (by constructor <;> simp only <;> omega), chk_bind (by simp only [lim, List.length_cons, List.length_nil]; omega)]
   exact ⟨_, rfl⟩
theorem bind_ex {α β : Type} {o : Option α} {f : α → Option β} (h1 : ∃ a, o = some a) (h2 : ∀ a, o = some a → ∃ r, f a = some r) : ∃ r, o.bind f = some r := by
 obtain ⟨a, ha⟩ := h1
 rw [ha, Option.bind_some]; exact h2 a ha
end Rt
set_option linter.unusedVariables false
set_option linter.unusedSimpArgs false
open Go Go.SL Go.Proofs Pl
namespace Rt
abbrev M := Ja
abbrev N := Jc
def Ok : Nat → M → Prop
 | 0, _ => False
 | d + 1, x => x.Text.length ≤ 3000 ∧ x.Kids.length ≤ 700 ∧ ∀ k ∈ x.Kids, Ok d k
theorem Ok.succ : ∀ {d : Nat} {x : M}, Ok d x → Ok (d + 1) x
 | d + 1, x, h => ⟨h.1, h.2.1, fun k hk => (h.2.2 k hk).succ⟩
theorem expression_L0_inv {f : M → Option Bool} : ∀ (l : List M) (i : Nat), (JC f l i).bind (fun s0 => s0.el some fun t0 => some true) = some true → ∀ k ∈ l, f k = some true
 | [], i, _, k, hk => by cases hk
 | a :: l, i, h, k, hk => by
  rw [JC] at h
  cases ha : f a with
  | none => rw [ha] at h; cases h
  | some b =>
   rw [ha, Option.bind_some] at h
   cases b with
   | false => simp [Fl.el] at h
   | true =>
    rw [if_neg (by simp)] at h
    rcases List.mem_cons.1 hk with rfl | hk
    ·exact ha
    ·exact expression_L0_inv l (i + 1) h k hk
theorem expression_inv {n : Nat} {x : M} (h : Jm n x = some true) : ∃ m k, n = m + 1 ∧ Jr m x = some k ∧ k ≠ -2 ∧ (0 ≤ k → (x.Kids.length : Int) = k) ∧ ∀ c ∈ x.Kids, Jm m c = some true := by
 cases n with
 | zero => rw [Jm] at h; cases h
 | succ m =>
  rw [Jm] at h
  obtain ⟨k, hk, h⟩ := bnd h
  refine ⟨m, k, rfl, hk, ?_⟩
  cases q : decide (k = -2) with
  | true => rw [q, if_pos rfl] at h; cases h
  | false =>
   rw [q, if_neg (by simp)] at h
   refine ⟨of_decide_eq_false q, ?_⟩
   cases q2 : (decide (k ≥ 0) && decide ((x.Kids.length : Int) ≠ k)) with
   | true => rw [q2, if_pos rfl] at h; cases h
   | false =>
    rw [q2, if_neg (by simp)] at h
    obtain ⟨_, h⟩ := chkb h
    refine ⟨fun h0 => ?_, expression_L0_inv x.Kids 0 h⟩
    simp only [Bool.and_eq_false_iff, decide_eq_false_iff_not] at q2
    omega
theorem blocked_L0_inv {f : M → Option Bool} : ∀ (l : List M) (i : Nat), (JP f l i).bind (fun s0 => s0.el some fun t0 => some true) = some true → ∀ k ∈ l, f k = some true
 | [], i, _, k, hk => by cases hk
 | a :: l, i, h, k, hk => by
  rw [JP] at h
  cases ha : f a with
  | none => rw [ha] at h; cases h
  | some b =>
   rw [ha, Option.bind_some] at h
   cases b with
   | false => simp [Fl.el] at h
   | true =>
    rw [if_neg (by simp)] at h
    rcases List.mem_cons.1 hk with rfl | hk
    ·exact ha
    ·exact blocked_L0_inv l (i + 1) h k hk
theorem blocked_inv {f : M → Option Bool} {n : Nat} {x : M} (h : Jao f n x = some true) : x.Kind = 12 ∧ ∀ k ∈ x.Kids, f k = some true := by
 unfold Jao at h
 cases q : (decide (x.Kind ≠ 12) || decide (x.Text ≠ ([] : Str))) with
 | true => rw [q, if_pos rfl] at h; cases h
 | false =>
  rw [q, if_neg (by simp)] at h
  obtain ⟨_, h⟩ := chkb h
  simp only [Bool.or_eq_false_iff, decide_eq_false_iff_not, Classical.not_not] at q
  exact ⟨q.1, blocked_L0_inv x.Kids 0 h⟩
theorem Valid_L0_inv {n : Nat} : ∀ (l : List M) (i : Nat), (Jaj n l i).bind (fun s0 => s0.el some fun t0 => some true) = some true → ∀ k ∈ l, Jo n k = some true
 | [], i, _, k, hk => by cases hk
 | a :: l, i, h, k, hk => by
  rw [Jaj] at h
  cases ha : Jo n a with
  | none => rw [ha] at h; cases h
  | some b =>
   rw [ha, Option.bind_some] at h
   cases b with
   | false => simp [Fl.el] at h
   | true =>
    rw [if_neg (by simp)] at h
    rcases List.mem_cons.1 hk with rfl | hk
    ·exact ha
    ·exact Valid_L0_inv l (i + 1) h k hk
theorem Valid_inv {n : Nat} {x : M} (h : Jak n x = some true) : ∀ k ∈ x.Kids, Jo n k = some true := by
 unfold Jak at h
 split at h
 ·cases h
 ·obtain ⟨s, hs, h⟩ := bnd h
  split at h
  ·cases h
  ·obtain ⟨_, h⟩ := chkb h
   exact Valid_L0_inv x.Kids 0 h
end Rt
set_option linter.unusedVariables false
set_option linter.unusedSimpArgs false
open Go Go.SL Go.Proofs Pl
namespace Rt
abbrev Ck := Jk
abbrev Bd := Jl
theorem lookup_L0 {env : List Bd} {s : Str} (hl : env.length ≤ 100000) : ∀ (n : Nat) (i : Int), -1 ≤ i → i < (env.length : Int) → i + 1 < n → ∃ r, J7 env s n i = some r
 | 0, i, _, _, h => by omega
 | n + 1, i, h0, h1, h => by
  rw [J7]
  refine ite_ex (fun hi => ?_) fun _ => ⟨_, rfl⟩
  have hi := of_decide_eq_true hi
  obtain ⟨b, hb⟩ := ix_ok (s := env) (i := i) (by omega) (by omega)
  rw [hb, Option.bind_some]
  refine ite_ex (fun _ => ⟨_, rfl⟩) fun _ => ?_
  rw [chk_bind (by constructor <;> omega)]
  exact lookup_L0 hl n (i - 1) (by omega) (by omega) (by omega)
theorem lookup_ok {env : List Bd} {s : Str} {n : Nat} (hl : env.length ≤ 100000) (hn : env.length + 1 ≤ n) : ∃ t, JaH n s env = some t := by
 unfold JaH
 obtain ⟨r, hr⟩ := lookup_L0 (s := s) hl n ((env.length : Int) - 1) (by omega) (by omega) (by omega)
 rw [chk_bind (by constructor <;> omega), hr, Option.bind_some]
 cases r with
 | ret z => exact ⟨_, rfl⟩
 | go z => rw [el_go]; exact bind_ex ⟨_, rfl⟩ fun _ _ => ite_ex (fun _ => ⟨_, rfl⟩) fun _ => ⟨_, rfl⟩
theorem op1_L0 (t : Int) : ∀ (l : List Int) (i : Nat), ∃ r, JX t l i = some r
 | [], i => ⟨_, rfl⟩
 | x :: l, i => by
  rw [JX]
  exact ite_ex (fun _ => ⟨_, rfl⟩) fun _ => op1_L0 t l (i + 1)
theorem op1_ok (t : Int) {l : List Int} (h : l.length ≤ 1000) : ∃ b, Jy t l = some b := by
 obtain ⟨r, hr⟩ := op1_L0 t l 0
 unfold Jy
 rw [chk_bind (by simp only [szMax]; omega), hr, Option.bind_some]
 cases r <;> exact ⟨_, rfl⟩
theorem operator_ok {x : M} {l : List Int} (h : l.length ≤ 1000) (h16 : x.Kind = 16 → l.length = 2) : ∃ t, JU x l = some t := by
 have one : ∀ (t a : Int), ∃ r, (Jy t l).bind (fun x => if x = true then some a else some 0) = some r := fun t a => bind_ex (op1_ok t h) fun _ _ => ite_ex (fun _ => ⟨_, rfl⟩) fun _ => ⟨_, rfl⟩
 unfold JU
 refine ite_ex (fun _ => bind_ex (op1_ok 1 h) fun _ _ => ite_ex (fun _ => ⟨_, rfl⟩) fun _ => one 2 2) fun _ => ?_
 refine ite_ex (fun _ => one 2 2) fun _ => ?_
 refine ite_ex (fun _ => one 2 2) fun _ => ?_
 refine ite_ex (fun _ => one 3 3) fun _ => ?_
 refine ite_ex (fun _ => one 3 3) fun _ => ?_
 refine ite_ex (fun _ => one 3 3) fun _ => ?_
 refine ite_ex (fun hk => ?_) fun _ => ⟨_, rfl⟩
 have h2 := h16 (of_decide_eq_true hk)
 have cmp : ∃ r, (ix l 0).bind (fun x36 => (ix l 1).bind fun x39 => if decide (x36 = x39) = true then some (3 : Int) else some 0) = some r := bind_ex (ix_ok (by omega) (by omega)) fun _ _ => bind_ex (ix_ok (by omega) (by omega)) fun _ _ => ite_ex (fun _ => ⟨_, rfl⟩) fun _ => ⟨_, rfl⟩
 refine ite_ex (fun _ => cmp) fun _ => ?_
 refine ite_ex (fun _ => cmp) fun _ => ?_
 refine ite_ex (fun _ => one 2 3) fun _ => ?_
 refine ite_ex (fun _ => one 2 3) fun _ => ?_
 exact one 1 3
theorem fail_ok (c : Ck) (x : M) (e : Err) : ∃ r, JB c x e = some r := by
 unfold JB
 exact ite_ex (fun _ => ⟨_, rfl⟩) fun _ => ⟨_, rfl⟩
theorem function_ok (s : Str) : ∃ r, J6 s = some r := by
 unfold J6
 repeat (refine ite_ex (fun _ => ⟨_, rfl⟩) fun _ => ?_)
 exact ⟨_, rfl⟩
theorem call_ok (c : Ck) (x : M) (l : List Int) : ∃ r, J0 c x l = some r := by
 unfold J0
 refine bind_ex (function_ok _) fun f _ => ite_ex (fun _ => bind_ex (fail_ok _ _ _) fun _ _ => ⟨_, rfl⟩) fun _ => ?_
 refine bind_ex (ite_ex (fun _ => ⟨_, rfl⟩) fun h => ?_) fun _ _ => ite_ex (fun _ => bind_ex (fail_ok _ _ _) fun _ _ => ⟨_, rfl⟩) fun _ => ⟨_, rfl⟩
 have h := of_decide_eq_false h
 exact bind_ex (ix_ok (by omega) (by omega)) fun _ _ => ⟨_, rfl⟩
theorem cexpr_L0 {f : Ck → M → List Bd → Option (Int × Ck)} {env : List Bd} : ∀ (l : List M) (i : Nat) (y : List Int) (a : Int) (e : Err), (∀ k ∈ l, ∀ c, ∃ r, f c k env = some r) → y.length + l.length ≤ 1000 →
  ∃ r, JE f env l i y a e = some r ∧ ∀ z, r = Fl.go z → z.1.length = y.length + l.length
 | [], i, y, a, e, _, _ => ⟨_, rfl, fun z h => by cases h; rfl⟩
 | k :: l, i, y, a, e, h, hy => by
  simp only [List.length_cons] at hy
  obtain ⟨r, hr⟩ := h k (by simp) ⟨a, e⟩
  rw [JE, hr, Option.bind_some, chk_bind (by simp only [lim, List.length_cons, List.length_nil]; omega)]
  cases q : r.2.err.isSome with
  | true => exact ⟨_, if_pos rfl, fun z h => by cases h⟩
  | false =>
   rw [if_neg (by simp)]
   obtain ⟨r', hr', hl⟩ := cexpr_L0 (f := f) (env := env) l (i + 1) (y ++ [r.1]) r.2.line r.2.err (fun k hk => h k (by simp [hk])) (by simp only [List.length_append, List.length_cons, List.length_nil]; omega)
   exact ⟨r', hr', fun z hz => by rw [hl z hz]; simp only [List.length_append, List.length_cons, List.length_nil]; omega⟩
theorem operands_16 {m : Nat} {x : M} {k : Int} (hk : x.Kind = 16) (h : Jr m x = some k) : k = 2 ∨ k = -2 := by
 unfold Jr at h
 rw [hk] at h
 rw [if_neg (by decide), if_neg (by decide), if_neg (by decide), if_neg (by decide), if_neg (by decide), if_neg (by decide), if_pos (by decide)] at h
 obtain ⟨a, _, h⟩ := bnd h
 obtain ⟨b, _, h⟩ := bnd h
 split at h <;> cases h <;> simp
theorem cexpr_ok {env : List Bd} (he : env.length ≤ 100000) : ∀ (d n m : Nat) (x : M) (c : Ck), Ok d x → Jm m x = some true → d + 200000 ≤ n → ∃ r, Jz n c x env = some r
 | d + 1, 0, m, x, c, _, _, hn => by omega
 | d + 1, n + 1, m, x, c, h, hv, hn => by
  obtain ⟨h1, h2, h3⟩ := h
  obtain ⟨m', k, rfl, hk, k2, k3, k4⟩ := expression_inv hv
  obtain ⟨r, hr, hl⟩ := cexpr_L0 (f := Jz n) (env := env) x.Kids 0 [] c.line c.err (fun q hq c' => cexpr_ok he d n m' q c' (h3 q hq) (k4 q hq) (by omega)) (by simp <;> omega)
  rw [Jz, chk_bind (by simp only [szMax]; omega), hr, Option.bind_some]
  cases r with
  | ret z => exact ⟨_, rfl⟩
  | go z =>
   have hz := hl z rfl
   simp only [List.length_nil, Nat.zero_add] at hz
   rw [el_go]
   refine ite_ex (fun _ => ⟨_, rfl⟩) fun _ => ?_
   refine ite_ex (fun _ => ⟨_, rfl⟩) fun _ => ?_
   refine ite_ex (fun _ => ⟨_, rfl⟩) fun _ => ?_
   refine ite_ex (fun _ => bind_ex (lookup_ok he (by omega)) fun _ _ => ite_ex (fun _ => bind_ex (fail_ok _ _ _) fun _ _ => ⟨_, rfl⟩) fun _ => ⟨_, rfl⟩) fun _ => ?_
   refine ite_ex (fun _ => bind_ex (call_ok _ _ _) fun _ _ => ⟨_, rfl⟩) fun _ => ?_
   refine bind_ex (operator_ok (by omega) fun h16 => ?_) fun _ _ => ite_ex (fun _ => bind_ex (fail_ok _ _ _) fun _ _ => ⟨_, rfl⟩) fun _ => ⟨_, rfl⟩
   rcases operands_16 h16 hk with rfl | rfl
   ·have := k3 (by omega); omega
   ·exact absurd rfl k2
theorem needs_ok (x : M) : ∃ t, Jbe x = some t := by
 unfold Jbe
 repeat (refine ite_ex (fun _ => ⟨_, rfl⟩) fun _ => ?_)
 exact ⟨_, rfl⟩
theorem declared_ok {env : List Bd} {s : Str} {n : Nat} (hl : env.length ≤ 100000) (hn : env.length + 1 ≤ n) : ∃ t, Jat n s env = some t := by
 unfold Jat
 exact bind_ex (lookup_ok hl hn) fun _ _ => ⟨_, rfl⟩
theorem extended_eq {env : List Bd} {s : Str} {t : Int} (hl : env.length ≤ 100000) : Jab env s t = some (env ++ [⟨s, t⟩]) := by
 unfold Jab
 rw [chk_bind (by constructor <;> omega), chk_bind (by simp only [lim]; omega), chk_bind (by simp only [lim, List.length_nil]; omega), chk_bind (by simp only [lim, List.length_append, List.length_cons, List.length_nil]; omega)]; rfl
theorem stated_inv {n : Nat} {x : M} (h : Jo n x = some true) : ∃ m, n = m + 1 ∧ (∀ c, x.Kids[0]? = some c → Jm m c = some true) ∧
  (x.Kind = 2 → 2 ≤ x.Kids.length ∧ ∀ c ∈ x.Kids.drop 1, (c.Kind = 12 ∧ ∀ k ∈ c.Kids, Jo m k = some true) ∨ (c.Kind ≠ 12 ∧ Jo m c = some true)) := by
 cases n with
 | zero => rw [Jo] at h; cases h
 | succ m =>
  have one : (if decide ((x.Kids.length : Int) = 1) then (ix x.Kids 0).bind fun x121 => (Jm m x121).bind fun x123 => some x123 else some false).bind (fun x124 => some x124) = some true → ∀ c, x.Kids[0]? = some c → Jm m c = some true := fun h c hc => by
   obtain ⟨b, hb, h⟩ := bnd h
   cases h
   split at hb
   ·have hx : ix x.Kids 0 = some c := by unfold ix; rw [if_pos (by omega)]; exact hc
    rw [hx, Option.bind_some] at hb
    obtain ⟨b2, hb2, hb⟩ := bnd hb
    cases hb; exact hb2
   ·cases hb
  have nil : (x.Kids.length : Int) = 0 → ∀ c, x.Kids[0]? = some c → Jm m c = some true := fun h c hc => by
   rw [List.getElem?_eq_none (by omega)] at hc; cases hc
  refine ⟨m, rfl, ?_⟩
  rw [Jo] at h
  by_cases k2 : x.Kind = 2
  ·rw [if_pos (by simpa using k2)] at h
   obtain ⟨a, ha, g⟩ := bnd h
   obtain ⟨b, hb, gg⟩ := bnd g
   cases b with
   | true => rw [if_pos rfl] at gg; cases gg
   | false =>
    rw [if_neg (by simp)] at gg
    cases a with
    | true => rw [if_pos rfl] at hb; cases hb
    | false =>
     cases q : ((decide (x.Text ≠ ([] : Str)) || decide ((x.Kids.length : Int) < 2)) || decide ((x.Kids.length : Int) > 3)) with
     | true => rw [q, if_pos rfl] at ha; cases ha
     | false =>
      rw [q, if_neg (by simp)] at ha
      simp only [Bool.or_eq_false_iff, decide_eq_false_iff_not] at q
      rw [if_neg (by simp)] at hb
      obtain ⟨c0, hc0, ha⟩ := bnd ha
      obtain ⟨e0, he0, ha⟩ := bnd ha
      obtain ⟨c1, hc1, hb⟩ := bnd hb
      obtain ⟨e1, he1, hb⟩ := bnd hb
      have ha : e0 = true := by simpa using ha
      have hb : e1 = true := by simpa using hb
      subst ha; subst hb
      have g0 : x.Kids[0]? = some c0 := by unfold ix at hc0; rw [if_pos (by omega)] at hc0; exact hc0
      have g1 : x.Kids[1]? = some c1 := by unfold ix at hc1; rw [if_pos (by omega)] at hc1; exact hc1
      obtain ⟨i1, i2⟩ := blocked_inv he1
      refine ⟨fun c hc => by rw [g0] at hc; cases hc; exact he0, fun _ => ⟨by omega, fun c hc => ?_⟩⟩
      obtain ⟨i, hi⟩ := List.getElem?_of_mem hc
      rw [List.getElem?_drop] at hi
      have hil : 1 + i < x.Kids.length := (List.getElem?_eq_some_iff.1 hi).1
      by_cases z : i = 0
      ·subst z
       rw [g1] at hi; cases hi
       exact .inl ⟨i1, i2⟩
      ·have : i = 1 := by omega
       subst this
       have hx2 : ix x.Kids 2 = some c := by unfold ix; rw [if_pos (by omega)]; exact hi
       rw [if_neg (by simp <;> omega), hx2, Option.bind_some] at gg
       obtain ⟨e, he, g3⟩ := bnd gg
       obtain ⟨e', he', he2⟩ := bnd he
       cases he2
       cases e with
       | true => have := blocked_inv he'; exact .inl ⟨this.1, this.2⟩
       | false =>
        rw [if_neg (by simp), Option.bind_some] at g3
        obtain ⟨e2, he2, g4⟩ := bnd g3
        cases g4
        split at he2
        ·rename_i hk
         have hk := of_decide_eq_true hk
         rw [Option.bind_some] at he2
         obtain ⟨e3, he3, g5⟩ := bnd he2
         cases g5
         exact .inr ⟨by omega, he3⟩
        ·cases he2
  ·rw [if_neg (by simpa using k2)] at h
   refine ⟨?_, fun h2 => absurd h2 k2⟩
   by_cases q6 : x.Kind = 6
   ·rw [if_pos (by simpa using q6)] at h
    obtain ⟨_, _, g⟩ := bnd h
    exact nil (of_decide_eq_true (Bool.and_eq_true_iff.1 (Option.some.inj g)).2)
   rw [if_neg (by simpa using q6)] at h
   by_cases q10 : x.Kind = 10
   ·rw [if_pos (by simpa using q10)] at h
    exact nil (of_decide_eq_true (Bool.and_eq_true_iff.1 (Option.some.inj h)).2)
   rw [if_neg (by simpa using q10)] at h
   by_cases q11 : x.Kind = 11
   ·rw [if_pos (by simpa using q11)] at h
    exact nil (of_decide_eq_true (Bool.and_eq_true_iff.1 (Option.some.inj h)).2)
   rw [if_neg (by simpa using q11)] at h
   have fin : ∀ {b : Bool} {p : Option Bool}, (if b = true then some false else p) = some true → p = some true := fun {b p} h => by
    cases b with
    | true => rw [if_pos rfl] at h; cases h
    | false => rw [if_neg (by simp)] at h; exact h
   by_cases q3 : x.Kind = 3
   ·rw [if_pos (by simpa using q3)] at h
    obtain ⟨_, _, g⟩ := bnd h
    exact one (fin g)
   rw [if_neg (by simpa using q3)] at h
   by_cases q4 : x.Kind = 4
   ·rw [if_pos (by simpa using q4)] at h; exact one (fin h)
   rw [if_neg (by simpa using q4)] at h
   by_cases q5 : x.Kind = 5
   ·rw [if_pos (by simpa using q5)] at h
    obtain ⟨_, _, g⟩ := bnd h
    exact one (fin g)
   rw [if_neg (by simpa using q5)] at h
   by_cases q7 : x.Kind = 7
   ·rw [if_pos (by simpa using q7)] at h; exact one (fin h)
   rw [if_neg (by simpa using q7)] at h
   by_cases q8 : x.Kind = 8
   ·rw [if_pos (by simpa using q8)] at h; exact one (fin h)
   rw [if_neg (by simpa using q8)] at h
   by_cases q9 : x.Kind = 9
   ·rw [if_pos (by simpa using q9)] at h; exact one (fin h)
   rw [if_neg (by simpa using q9)] at h
   cases h
end Rt
set_option linter.unusedVariables false
set_option linter.unusedSimpArgs false
open Go Go.SL Go.Proofs Pl
namespace Rt
def Gd (d : Nat) (x : M) : Prop := Ok d x ∧ ∃ m, Jo m x = some true
theorem branch_ok {d : Nat} {k : M} (h : Ok d k) (hv : (k.Kind = 12 ∧ ∀ q ∈ k.Kids, ∃ m, Jo m q = some true) ∨ (k.Kind ≠ 12 ∧ ∃ m, Jo m k = some true)) :
  ∃ l, JaI k = some l ∧ l.length ≤ 700 ∧ ∀ x ∈ l, Gd d x := by
 unfold JaI
 rcases hv with ⟨h1, h2⟩ | ⟨h1, h2⟩
 ·refine ⟨_, if_pos (by simpa using h1), ?_, ?_⟩
  ·cases d with
   | zero => exact h.elim
   | succ d => exact h.2.1
  ·cases d with
   | zero => exact h.elim
   | succ d => exact fun x hx => ⟨(h.2.2 x hx).succ, h2 x hx⟩
 ·refine ⟨_, if_neg (by simpa using h1), by simp, fun x hx => ?_⟩
  simp at hx; subst hx
  exact ⟨h, h2⟩
theorem block_L3 {f : Ck → List M → List Bd → Option Ck} {env : List Bd} : ∀ (l : List M) (i : Nat) (a : Int) (e : Err), (∀ k ∈ l, ∃ q, JaI k = some q ∧ ∀ c, ∃ r, f c q env = some r) → ∃ r, Jp f env l i a e = some r
 | [], i, a, e, _ => ⟨_, rfl⟩
 | k :: l, i, a, e, h => by
  obtain ⟨q, hq, hr⟩ := h k (by simp)
  rw [Jp, hq, Option.bind_some]
  exact bind_ex (hr _) fun _ _ => block_L3 l (i + 1) _ _ fun k hk => h k (by simp [hk])
set_option maxRecDepth 100000 in
theorem block_L0 {n d : Nat} {f : Ck → List M → List Bd → Option Ck} (hn : d + 200000 ≤ n) (hf : ∀ (l : List M) (env : List Bd) (c : Ck), (∀ x ∈ l, Gd d x) → l.length ≤ 700 → env.length + 701 * (d + 1) ≤ 90000 → ∃ r, f c l env = some r) :
  ∀ (l : List M) (i : Nat) (env : List Bd) (a : Int) (e : Err), (∀ x ∈ l, Gd (d + 1) x) → env.length + l.length + 701 * (d + 1) ≤ 90000 → ∃ r, Jn n f l i env a e = some r
 | [], i, env, a, e, _, _ => ⟨_, rfl⟩
 | x :: l, i, env, a, e, h, hl => by
  simp only [List.length_cons] at hl
  have ih : ∀ (env' : List Bd) (a' : Int) (e' : Err), env'.length ≤ env.length + 1 → ∃ r, Jn n f l (i + 1) env' a' e' = some r := fun env' a' e' he => block_L0 hn hf l (i + 1) env' a' e' (fun y hy => h y (by simp [hy])) (by omega)
  obtain ⟨⟨h1, h2, h3⟩, m0, hm⟩ := h x (by simp)
  obtain ⟨m, rfl, k0, k2⟩ := stated_inv hm
  rw [Jn]
  refine ite_ex (fun _ => ih _ _ _ (by omega)) fun hk => ?_
  have hk := of_decide_eq_false hk
  have hg0 : x.Kids[0]? = some (x.Kids[0]'(by omega)) := List.getElem?_eq_getElem (by omega)
  have hi0 : ix x.Kids 0 = some (x.Kids[0]'(by omega)) := by unfold ix; rw [if_pos (by omega)]; exact hg0
  rw [hi0, Option.bind_some]
  have tl : ∀ c1 : Ck, ∀ t : Int, ∃ r, (if decide (x.Kind = 3) then
    (Jat n x.Text env).bind fun x61 =>
    if x61 then
    (JB c1 x (some 4)).bind fun x65 =>
    (Jab env x.Text t).bind fun x70 =>
    if x65.err.isSome then
    some (Fl.ret x65)
    else
    Jn n f l (i + 1) x70 x65.line x65.err
    else
    (Jab env x.Text t).bind fun x70 =>
    if c1.err.isSome then
    some (Fl.ret c1)
    else
    Jn n f l (i + 1) x70 c1.line c1.err
    else
    if decide (x.Kind = 2) then
    (chk (0 ≤ (1 : Int) ∧ (1 : Int) ≤ (x.Kids.length : Int) ∧ (x.Kids.length : Int) ≤ (x.Kids.length : Int))).bind fun _ =>
    (chk ((subL x.Kids (1 : Int) (x.Kids.length : Int)).length ≤ szMax)).bind fun _ =>
    (Jp f env (subL x.Kids (1 : Int) (x.Kids.length : Int)) 0 c1.line c1.err).bind fun t3 =>
    if t3.2.isSome then
    some (Fl.ret (⟨t3.1, t3.2⟩ : Ck))
    else
    Jn n f l (i + 1) env t3.1 t3.2
    else
    if c1.err.isSome then
    some (Fl.ret c1)
    else
    Jn n f l (i + 1) env c1.line c1.err : Option (Fl Ck (List Bd × Int × Err))) = some r := fun c1 t => by
   refine ite_ex (fun _ => ?_) fun _ => ?_
   ·refine bind_ex (declared_ok (by omega) (by omega)) fun _ _ => ite_ex (fun _ => ?_) fun _ => ?_
    ·refine bind_ex (fail_ok _ _ _) fun _ _ => ?_
     rw [extended_eq (by omega), Option.bind_some]
     exact ite_ex (fun _ => ⟨_, rfl⟩) fun _ => ih _ _ _ (by simp)
    ·rw [extended_eq (by omega), Option.bind_some]
     exact ite_ex (fun _ => ⟨_, rfl⟩) fun _ => ih _ _ _ (by simp)
   ·refine ite_ex (fun hk2 => ?_) fun _ => ite_ex (fun _ => ⟨_, rfl⟩) fun _ => ih _ _ _ (by omega)
    obtain ⟨g1, g2⟩ := k2 (of_decide_eq_true hk2)
    have hsub : subL x.Kids (1 : Int) (x.Kids.length : Int) = x.Kids.drop 1 := by
     unfold subL
     rw [show ((1 : Int)).toNat = 1 from rfl]
     exact List.take_of_length_le (by rw [List.length_drop]; omega)
    rw [chk_bind (by omega), hsub, chk_bind (by rw [List.length_drop]; simp only [szMax]; omega)]
    refine bind_ex (block_L3 _ 0 _ _ fun k hk => ?_) fun _ _ => ite_ex (fun _ => ⟨_, rfl⟩) fun _ => ih _ _ _ (by omega)
    have hkm : k ∈ x.Kids := List.mem_of_mem_drop hk
    obtain ⟨q, hq, ql, qg⟩ := branch_ok (h3 k hkm) (by
     rcases g2 k hk with ⟨a1, a2⟩ | ⟨a1, a2⟩
     ·exact .inl ⟨a1, fun q hq => ⟨m, a2 q hq⟩⟩
     ·exact .inr ⟨a1, m, a2⟩)
    exact ⟨q, hq, fun c => hf q env c qg ql (by omega)⟩
  refine bind_ex (cexpr_ok (env := env) (by omega) d n m _ _ (h3 _ (List.getElem_mem _)) (k0 _ hg0) (by omega)) fun t ht => ?_
  refine bind_ex (needs_ok x) fun nd _ => ?_
  refine ite_ex (fun _ => ?_) fun _ => ?_
  ·refine bind_ex (fail_ok _ _ _) fun c1 _ => ?_
   exact ite_ex (fun _ => ⟨_, rfl⟩) fun _ => tl c1 t.1
  ·exact ite_ex (fun _ => ⟨_, rfl⟩) fun _ => tl t.2 t.1
set_option maxRecDepth 100000 in
theorem block_ok : ∀ (d n : Nat) (l : List M) (env : List Bd) (c : Ck), (∀ x ∈ l, Gd d x) → l.length ≤ 700 → env.length + 701 * (d + 1) ≤ 90000 → d + 300000 ≤ n → ∃ r, Js n c l env = some r
 | d, 0, l, env, c, _, _, _, hn => by omega
 | 0, n + 1, l, env, c, h, hl, he, hn => by
  have : l = [] := by
   cases l with
   | nil => rfl
   | cons x l => exact (h x (by simp)).1.elim
  subst this
  rw [Js, chk_bind (by simp [szMax])]
  exact ⟨_, rfl⟩
 | d + 1, n + 1, l, env, c, h, hl, he, hn => by
  obtain ⟨r, hr⟩ := block_L0 (n := n) (d := d) (f := Js n) (by omega) (fun l' env' c' h1 h2 h3 => block_ok d n l' env' c' h1 h2 h3 (by omega)) l 0 env c.line c.err h (by omega)
  rw [Js, chk_bind (by simp only [szMax]; omega), hr, Option.bind_some]
  cases r <;> exact ⟨_, rfl⟩
end Rt
set_option linter.unusedVariables false
set_option linter.unusedSimpArgs false
open Go Go.SL Go.Proofs Pl
namespace Rt
inductive A2 {α β : Type} (P : α → β → Prop) : List α → List β → Prop
 | nil : A2 P [] []
 | cons {a : α} {b : β} {l : List α} {k : List β} : P a b → A2 P l k → A2 P (a :: l) (b :: k)
theorem A2.len {α β : Type} {P : α → β → Prop} {l : List α} {k : List β} (h : A2 P l k) : k.length = l.length := by
 induction h with
 | nil => rfl
 | cons _ _ ih => simp [ih]
theorem A2.mem {α β : Type} {P : α → β → Prop} {l : List α} {k : List β} (h : A2 P l k) : ∀ b ∈ k, ∃ a ∈ l, P a b := by
 induction h with
 | nil => intro b hb; cases hb
 | cons hp _ ih =>
  intro b hb
  rcases List.mem_cons.1 hb with rfl | hb
  ·exact ⟨_, by simp, hp⟩
  ·obtain ⟨a, ha, q⟩ := ih b hb; exact ⟨a, by simp [ha], q⟩
def OkN : Nat → N → Prop
 | 0, _ => False
 | d + 1, x => x.Text.length ≤ 3000 ∧ x.Kids.length ≤ 700 ∧ ∀ k ∈ x.Kids, OkN d k
theorem weigh_L0 {f : N → Int → Option Int} {e B : Int} (he : -100 ≤ e ∧ e ≤ 100) (hB : 0 ≤ B ∧ B ≤ 1000000) {P : N → Prop} : ∀ (l : List N) (i : Nat) (y : Int), 1 ≤ y → y ≤ 700 → (∀ k ∈ l, ∃ v, f k (e - 1) = some v ∧ 1 ≤ v ∧ v ≤ B ∧ (v ≤ 700 → P k)) →
  ∃ r, JaD e f l i y = some r ∧ (∀ z, r = Fl.go z → z ≤ 700 ∧ y + l.length ≤ z ∧ ∀ k ∈ l, P k) ∧ ∀ z, r = Fl.ret z → 700 < z ∧ z ≤ 700 + B
 | [], i, y, h1, h2, _ => ⟨_, rfl, fun z e => by cases e; exact ⟨h2, by simp, fun k hk => by cases hk⟩, fun z e => by cases e⟩
 | k :: l, i, y, h1, h2, h => by
  obtain ⟨v, hv, v1, v2, v3⟩ := h k (by simp)
  rw [JaD, chk_bind (by constructor <;> omega), hv, Option.bind_some, chk_bind (by constructor <;> omega)]
  by_cases q : y + v > 700
  ·exact ⟨_, if_pos (by simpa using q), fun z e => (by cases e), fun z e => by cases e; omega⟩
  ·rw [if_neg (by simpa using q)]
   obtain ⟨r, hr, g1, g2⟩ := weigh_L0 he hB (P := P) l (i + 1) (y + v) (by omega) (by omega) fun k hk => h k (by simp [hk])
   refine ⟨r, hr, fun z hz => ?_, g2⟩
   obtain ⟨a1, a2, a3⟩ := g1 z hz
   refine ⟨a1, by rw [List.length_cons]; omega, fun q hq => ?_⟩
   rcases List.mem_cons.1 hq with rfl | hq
   ·exact v3 (by omega)
   ·exact a3 q hq
theorem weigh_ok : ∀ (e n : Nat) (x : N), Jc.ok x → e + 1 ≤ n → e ≤ 40 → ∃ v, Jav n x (e : Int) = some v ∧ 1 ≤ v ∧ v ≤ 1000 + 700 * e ∧ (v ≤ 700 → OkN e x)
 | e, 0, x, _, hn, _ => by omega
 | 0, n + 1, x, h, hn, he => by
  rw [Jav, if_pos (by simp)]
  exact ⟨_, rfl, by omega, by omega, fun h => by omega⟩
 | e + 1, n + 1, x, h, hn, he => by
  obtain ⟨k0, k1, l2, k2, k3⟩ := h
  rw [Jav]
  by_cases q : x.Text.length > 3000
  ·rw [if_pos (by simp; omega)]
   exact ⟨_, rfl, by omega, by omega, fun h => by omega⟩
  ·rw [if_neg (by simp; omega), chk_bind l2]
   obtain ⟨r, hr, g1, g2⟩ := weigh_L0 (f := Jav n) (e := ((e + 1 : Nat) : Int)) (B := 1000 + 700 * e) (by omega) (by omega) (P := fun k => OkN e k) x.Kids 0 1 (by omega) (by omega) fun k hk => by
    have := weigh_ok e n k (k2 k hk) (by omega) (by omega)
    rw [show (((e + 1 : Nat) : Int) - 1) = (e : Int) from by omega]
    exact this
   rw [hr, Option.bind_some]
   cases r with
   | ret z =>
    obtain ⟨a1, a2⟩ := g2 z rfl
    exact ⟨z, rfl, by omega, by omega, fun h => by omega⟩
   | go z =>
    obtain ⟨a1, a2, a3⟩ := g1 z rfl
    exact ⟨z, rfl, by omega, by omega, fun _ => ⟨by omega, by omega, a3⟩⟩
theorem Large_ok {n : Nat} {x : N} (h : Jc.ok x) (hn : 41 ≤ n) : Jbp n x = some true ∨ (Jbp n x = some false ∧ OkN 40 x) := by
 obtain ⟨v, hv, _, _, h2⟩ := weigh_ok 40 n x h hn (by omega)
 unfold Jbp
 rw [show ((40 : Nat) : Int) = 40 from rfl] at hv
 rw [hv, Option.bind_some]
 by_cases q : v > 700
 ·left; simp [q]
 ·right; exact ⟨by simp [q], h2 (by omega)⟩
def Cvd : Nat → N → M → Prop
 | 0, _, _ => False
 | d + 1, x, y => y.Kind = x.Kind ∧ y.Text = x.Text ∧ y.Line = x.Line ∧ A2 (Cvd d) x.Kids y.Kids
def Mvd (b : Int) : Nat → N → N → Prop
 | 0, _, _ => False
 | d + 1, x, y => y.Kind = x.Kind ∧ y.Text = x.Text ∧ y.Line = IntKind.i64.wrap (x.Line + b) ∧ A2 (Mvd b d) x.Kids y.Kids
theorem Of_L0 {f : N → Option M} {P : N → M → Prop} : ∀ (l : List N) (i : Nat) (y : List M), (∀ k ∈ l, ∃ z, f k = some z ∧ P k z) → y.length + l.length ≤ 10000 → ∃ ys, Jbv f l i y = some (y ++ ys) ∧ A2 P l ys
 | [], i, y, _, _ => ⟨[], by simp [Jbv], .nil⟩
 | k :: l, i, y, h, hl => by
  simp only [List.length_cons] at hl
  obtain ⟨z, hz, hp⟩ := h k (by simp)
  obtain ⟨ys, e, ha⟩ := Of_L0 (P := P) l (i + 1) (y ++ [z]) (fun k hk => h k (by simp [hk])) (by simp only [List.length_append, List.length_cons, List.length_nil]; omega)
  rw [Jbv, hz, Option.bind_some, chk_bind (by simp only [lim, List.length_cons, List.length_nil]; omega), e]
  exact ⟨z :: ys, by simp, .cons hp ha⟩
theorem Of_ok : ∀ (d n : Nat) (x : N), OkN d x → d + 1 ≤ n → ∃ y, JbW n x = some y ∧ Cvd d x y
 | d + 1, 0, x, _, hn => by omega
 | d + 1, n + 1, x, h, hn => by
  obtain ⟨h1, h2, h3⟩ := h
  obtain ⟨ys, e, ha⟩ := Of_L0 (f := JbW n) (P := Cvd d) x.Kids 0 [] (fun k hk => Of_ok d n k (h3 k hk) (by omega)) (by simp <;> omega)
  rw [JbW, chk_bind (by simp only [szMax]; omega), e, Option.bind_some]
  exact ⟨_, rfl, rfl, rfl, rfl, ha⟩
theorem Cvd.ok : ∀ {d : Nat} {x : N} {y : M}, OkN d x → Cvd d x y → Ok d y
 | d + 1, x, y, h, hc => by
  obtain ⟨h1, h2, h3⟩ := h
  obtain ⟨c1, c2, c3, c4⟩ := hc
  refine ⟨by rw [c2]; exact h1, by rw [c4.len]; exact h2, fun k hk => ?_⟩
  obtain ⟨a, ha, q⟩ := c4.mem k hk
  exact Cvd.ok (h3 a ha) q
theorem Mvd.ok {b : Int} : ∀ {d : Nat} {x y : N}, OkN d x → Mvd b d x y → OkN d y
 | d + 1, x, y, h, hc => by
  obtain ⟨h1, h2, h3⟩ := h
  obtain ⟨c1, c2, c3, c4⟩ := hc
  refine ⟨by rw [c2]; exact h1, by rw [c4.len]; exact h2, fun k hk => ?_⟩
  obtain ⟨a, ha, q⟩ := c4.mem k hk
  exact Mvd.ok (h3 a ha) q
end Rt
set_option linter.unusedVariables false
set_option linter.unusedSimpArgs false
open Go Go.SL Go.Proofs Pl
namespace Rt
def cnt : Nat → M → Nat
 | 0, _ => 0
 | d + 1, x => 1 + (x.Kids.map (cnt d)).sum
def cntL (d : Nat) (l : List M) : Nat := (l.map (cnt d)).sum
theorem cntL_cons (d : Nat) (x : M) (l : List M) : cntL d (x :: l) = cnt d x + cntL d l := by simp [cntL]
theorem cnt_eq (d : Nat) (x : M) : cnt (d + 1) x = 1 + cntL d x.Kids := rfl
theorem cnt_succ : ∀ {d : Nat} {x : M}, Ok d x → cnt (d + 1) x = cnt d x
 | d + 1, x, h => by
  rw [cnt_eq, cnt_eq]
  have : ∀ l : List M, (∀ k ∈ l, Ok d k) → cntL (d + 1) l = cntL d l := by
   intro l
   induction l with
   | nil => intro _; rfl
   | cons a l ih =>
    intro hl
    rw [cntL_cons, cntL_cons, ih fun k hk => hl k (by simp [hk]), cnt_succ (hl a (by simp))]
  rw [this x.Kids h.2.2]
def pre (s : Str) : Bool := ((decide (s = ([109, 101, 116, 104, 111, 100] : Str)) || decide (s = ([104, 111, 115, 116] : Str))) || decide (s = ([112, 97, 116, 104] : Str))) || decide (s = ([113, 117, 101, 114, 121] : Str))
def lk (s : Str) (env : List Bd) : Int := match env.reverse.find? (fun b => decide (b.Name = s)) with
 | some b => b.TypeZ
 | none => if pre s then 1 else 0
theorem lk_snoc (s : Str) (env : List Bd) (b : Bd) : lk s (env ++ [b]) = if b.Name = s then b.TypeZ else lk s env := by
 unfold lk
 rw [List.reverse_append]
 simp only [List.reverse_cons, List.reverse_nil, List.nil_append, List.cons_append, List.find?_cons]
 by_cases h : b.Name = s <;> simp [h]
theorem lookup_L0_eq {env : List Bd} {s : Str} (hl : env.length ≤ 100000) : ∀ (j n : Nat), j ≤ env.length → j + 1 ≤ n →
  J7 env s n ((j : Int) - 1) = some (match (env.take j).reverse.find? (fun b => decide (b.Name = s)) with | some b => Fl.ret b.TypeZ | none => Fl.go (-1))
 | 0, n + 1, _, _ => by
  rw [J7, if_neg (by simp)]; simp
 | j + 1, n + 1, h, hn => by
  have hj : j < env.length := by omega
  have e : ((j + 1 : Nat) : Int) - 1 = (j : Int) := by omega
  have hix : ix env (j : Int) = some env[j] := by unfold ix; rw [if_pos (by omega)]; simp [hj]
  have ht : (env.take (j + 1)).reverse = env[j] :: (env.take j).reverse := by
   rw [List.take_succ_eq_append_getElem hj, List.reverse_append]; rfl
  rw [e, J7, if_pos (by simp), hix, Option.bind_some, Option.bind_some, ht, List.find?_cons]
  by_cases q : env[j].Name = s
  ·rw [if_pos (by simpa using q)]; simp [q]
  ·rw [if_neg (by simpa using q), chk_bind (by constructor <;> omega), lookup_L0_eq hl j n (by omega) (by omega)]
   simp [q]
 | 0, 0, _, h => by omega
 | j + 1, 0, _, h => by omega
theorem lookup_eq {env : List Bd} {s : Str} {n : Nat} (hl : env.length ≤ 100000) (hn : env.length + 1 ≤ n) : JaH n s env = some (lk s env) := by
 unfold JaH
 rw [chk_bind (by constructor <;> omega), lookup_L0_eq hl env.length n (by omega) hn, Option.bind_some, List.take_length]
 unfold lk
 cases env.reverse.find? (fun b => decide (b.Name = s)) with
 | some b => rfl
 | none =>
  rw [el_go]
  show (if pre s = true then some (1 : Int) else some 0) = some (if pre s = true then 1 else 0)
  split <;> rfl
def Ev (e e' : List Bd) : Prop := ∀ s, lk s e ≠ 0 → lk s e' = lk s e
theorem Ev.ext {e : List Bd} {s : Str} {t : Int} (h : lk s e = 0) : Ev e (e ++ [⟨s, t⟩]) := fun q hq => by
 rw [lk_snoc]
 have : s ≠ q := fun e1 => hq (e1 ▸ h)
 rw [if_neg this]
end Rt
set_option linter.unusedVariables false
set_option linter.unusedSimpArgs false
open Go Go.SL Go.Proofs Pl
namespace Rt
def cntN : Nat → N → Nat
 | 0, _ => 0
 | d + 1, x => 1 + (x.Kids.map (cntN d)).sum
def cntNL (d : Nat) (l : List N) : Nat := (l.map (cntN d)).sum
theorem cntNL_cons (d : Nat) (x : N) (l : List N) : cntNL d (x :: l) = cntN d x + cntNL d l := by simp [cntNL]
theorem cntN_eq (d : Nat) (x : N) : cntN (d + 1) x = 1 + cntNL d x.Kids := rfl
theorem weigh_L0_cnt {f : N → Int → Option Int} {e : Int} {d : Nat} : ∀ (l : List N) (i : Nat) (y : Int) (r : Fl Int Int), 1 ≤ y → (∀ k ∈ l, ∀ v, f k (e - 1) = some v → v ≤ 700 → (cntN d k : Int) ≤ v) → JaD e f l i y = some r →
  (∀ z, r = Fl.go z → y + (cntNL d l : Int) ≤ z) ∧ ∀ z, r = Fl.ret z → 700 < z
 | [], i, y, r, _, _, h => by cases h; exact ⟨fun z e => by cases e; simp [cntNL], fun z e => by cases e⟩
 | k :: l, i, y, r, hy, hf, h => by
  rw [JaD] at h
  obtain ⟨_, h1⟩ := chkb h
  obtain ⟨v, hv, h2⟩ := bnd h1
  obtain ⟨_, h3⟩ := chkb h2
  by_cases q : y + v > 700
  ·rw [if_pos (by simpa using q)] at h3
   cases h3
   exact ⟨fun z e => (by cases e), fun z e => by cases e; exact q⟩
  ·rw [if_neg (by simpa using q)] at h3
   have hc := hf k (by simp) v hv (by omega)
   obtain ⟨g1, g2⟩ := weigh_L0_cnt l (i + 1) (y + v) r (by omega) (fun k hk => hf k (by simp [hk])) h3
   refine ⟨fun z e => ?_, g2⟩
   have := g1 z e
   rw [cntNL_cons]; omega
theorem weigh_cnt : ∀ (e n : Nat) (x : N) (v : Int), Jav n x (e : Int) = some v → v ≤ 700 → (cntN e x : Int) ≤ v
 | _, 0, x, v, h, _ => by rw [Jav] at h; cases h
 | 0, n + 1, x, v, h, hv => by
  rw [Jav, if_pos (by simp)] at h
  cases h; omega
 | e + 1, n + 1, x, v, h, hv => by
  rw [Jav] at h
  split at h
  ·cases h; omega
  ·obtain ⟨_, h1⟩ := chkb h
   obtain ⟨r, hr, h2⟩ := bnd h1
   obtain ⟨g1, g2⟩ := weigh_L0_cnt (d := e) x.Kids 0 1 r (by omega) (fun k hk v hv hv2 => by
    rw [show (((e + 1 : Nat) : Int) - 1) = (e : Int) from by omega] at hv
    exact weigh_cnt e n k v hv hv2) hr
   cases r with
   | ret z => rw [el_ret] at h2; cases h2; have := g2 _ rfl; omega
   | go z => rw [el_go] at h2; cases h2; have := g1 _ rfl; rw [cntN_eq]; omega
theorem Large_cnt {n : Nat} {x : N} (h : Jbp n x = some false) : cntN 40 x ≤ 700 := by
 unfold Jbp at h
 obtain ⟨v, hv, h1⟩ := bnd h
 simp only [Option.some.injEq, decide_eq_false_iff_not] at h1
 have := weigh_cnt 40 n x v hv (by omega)
 omega
theorem Cvd.cnt : ∀ {d : Nat} {x : N} {y : M}, Cvd d x y → Rt.cnt d y = cntN d x
 | d + 1, x, y, ⟨_, _, _, h⟩ => by
  rw [cnt_eq, cntN_eq]
  have : ∀ {l : List N} {k : List M}, A2 (Cvd d) l k → cntL d k = cntNL d l := by
   intro l k h
   induction h with
   | nil => rfl
   | cons hp _ ih => rw [cntL_cons, cntNL_cons, ih, hp.cnt]
  rw [this h]
theorem A2.append {α β : Type} {P : α → β → Prop} {l l' : List α} {k k' : List β} (h : A2 P l k) (h' : A2 P l' k') : A2 P (l ++ l') (k ++ k') := by
 induction h with
 | nil => exact h'
 | cons hp _ ih => exact .cons hp ih
end Rt
set_option linter.unusedVariables false
set_option linter.unusedSimpArgs false
open Go Go.SL Go.Proofs Pl
namespace Rt
def isL (c : UInt8) : Bool := (decide ((c.toNat : Int) ≥ 97) && decide ((c.toNat : Int) ≤ 122)) || decide ((c.toNat : Int) = 95)
def isD (c : UInt8) : Bool := decide ((c.toNat : Int) ≥ 48) && decide ((c.toNat : Int) ≤ 57)
def isA (c : UInt8) : Bool := isL c || isD c
def tw (p : UInt8 → Bool) (s : Str) (i : Nat) : Int := ((i + ((s.drop i).takeWhile p).length : Nat) : Int)
theorem tw_stop {p : UInt8 → Bool} {s : Str} {i : Nat} (h : s.length ≤ i) : tw p s i = i := by
 unfold tw; rw [List.drop_eq_nil_of_le h]; rfl
theorem tw_go {p : UInt8 → Bool} {s : Str} {i : Nat} (h : i < s.length) (hp : p s[i] = true) : tw p s i = tw p s (i + 1) := by
 unfold tw; rw [List.drop_eq_getElem_cons h, List.takeWhile_cons, if_pos hp, List.length_cons]; omega
theorem tw_no {p : UInt8 → Bool} {s : Str} {i : Nat} (h : i < s.length) (hp : p s[i] = false) : tw p s i = i := by
 unfold tw; rw [List.drop_eq_getElem_cons h, List.takeWhile_cons, if_neg (by rw [hp]; simp)]; rfl
theorem ixn {α : Type} {s : List α} {i : Nat} (h : i < s.length) : ix s (i : Int) = some s[i] := by
 unfold ix; rw [if_pos (by omega)]; exact List.getElem?_eq_getElem h
theorem tokL1 {s : Str} (hs : s.length ≤ 5000) : ∀ (n i : Nat), i ≤ s.length → s.length - i < n → Jam s n (i : Int) = some (tw isA s i)
 | 0, i, h1, h2 => by omega
 | n + 1, i, h1, h2 => by
  rw [Jam]
  by_cases hi : i < s.length
  ·rw [if_pos (by simpa using hi), ixn hi, Option.bind_some, show JaF s[i] = some (isL s[i]) from rfl, Option.bind_some]
   have e : (if isL s[i] = true then some true else (some s[i]).bind fun x28 => (Jay x28).bind fun x29 => some x29) = some (isA s[i]) := by
    unfold isA
    cases q : isL s[i] <;> simp [q, Jay, isD]
   rw [e, Option.bind_some]
   cases q : isA s[i] with
   | true =>
    rw [if_pos rfl, chk_bind (by constructor <;> omega), tw_go hi q, show ((i : Int) + 1) = ((i + 1 : Nat) : Int) from by omega]
    exact tokL1 hs n (i + 1) (by omega) (by omega)
   | false => rw [if_neg (by simp), tw_no hi q]
  ·rw [if_neg (by simpa using hi), tw_stop (by omega)]
theorem takL1 {s : Str} (hs : s.length ≤ 5000) : ∀ (n i : Nat), i ≤ s.length → s.length - i < n → Ja7 s n (i : Int) = some (tw isA s i)
 | 0, i, h1, h2 => by omega
 | n + 1, i, h1, h2 => by
  rw [Ja7]
  by_cases hi : i < s.length
  ·rw [if_pos (by simpa using hi), ixn hi, Option.bind_some, show Jbn s[i] = some (isL s[i]) from rfl, Option.bind_some]
   have e : (if isL s[i] = true then some true else (some s[i]).bind fun x28 => (Jbg x28).bind fun x29 => some x29) = some (isA s[i]) := by
    unfold isA
    cases q : isL s[i] <;> simp [q, Jbg, isD]
   rw [e, Option.bind_some]
   cases q : isA s[i] with
   | true =>
    rw [if_pos rfl, chk_bind (by constructor <;> omega), tw_go hi q, show ((i : Int) + 1) = ((i + 1 : Nat) : Int) from by omega]
    exact takL1 hs n (i + 1) (by omega) (by omega)
   | false => rw [if_neg (by simp), tw_no hi q]
  ·rw [if_neg (by simpa using hi), tw_stop (by omega)]
theorem takL3 {s : Str} (hs : s.length ≤ 5000) : ∀ (n i : Nat), i ≤ s.length → s.length - i < n → Ja8 s n (i : Int) = some (tw isD s i)
 | 0, i, h1, h2 => by omega
 | n + 1, i, h1, h2 => by
  rw [Ja8]
  by_cases hi : i < s.length
  ·rw [if_pos (by simpa using hi), ixn hi, Option.bind_some, show Jbg s[i] = some (isD s[i]) from rfl, Option.bind_some, Option.bind_some]
   cases q : isD s[i] with
   | true =>
    rw [if_pos rfl, chk_bind (by constructor <;> omega), tw_go hi q, show ((i : Int) + 1) = ((i + 1 : Nat) : Int) from by omega]
    exact takL3 hs n (i + 1) (by omega) (by omega)
   | false => rw [if_neg (by simp), tw_no hi q]
  ·rw [if_neg (by simpa using hi), Option.bind_some, if_neg (by simp), tw_stop (by omega)]
theorem take_tw (p : UInt8 → Bool) : ∀ t : Str, t.take (t.takeWhile p).length = t.takeWhile p
 | [] => rfl
 | c :: t => by
  rw [List.takeWhile_cons]
  cases q : p c with
  | true => rw [if_pos rfl, List.length_cons, List.take_succ_cons, take_tw p t]
  | false => rw [if_neg (by simp)]; rfl
theorem tw_le (p : UInt8 → Bool) : ∀ t : Str, (t.takeWhile p).length ≤ t.length
 | [] => by simp
 | c :: t => by
  rw [List.takeWhile_cons]
  have := tw_le p t
  cases q : p c <;> simp <;> omega
theorem tw_all (p : UInt8 → Bool) : ∀ t : Str, (t.takeWhile p).all p = true
 | [] => rfl
 | c :: t => by
  rw [List.takeWhile_cons]
  cases q : p c with
  | true => rw [if_pos rfl, List.all_cons, q, tw_all p t]; rfl
  | false => rw [if_neg (by simp)]; rfl
theorem tw_self (p : UInt8 → Bool) : ∀ t : Str, t.all p = true → t.takeWhile p = t
 | [], _ => rfl
 | c :: t, h => by
  rw [List.all_cons, Bool.and_eq_true] at h
  rw [List.takeWhile_cons, if_pos h.1, tw_self p t h.2]
theorem tw1 (p : UInt8 → Bool) (c : UInt8) (t : Str) : tw p (c :: t) 1 = ((t.takeWhile p).length : Int) + 1 := by
 unfold tw; rw [List.drop_succ_cons, List.drop_zero]; omega
theorem tw0 {p : UInt8 → Bool} {c : UInt8} (t : Str) (h : p c = true) : tw p (c :: t) 0 = ((t.takeWhile p).length : Int) + 1 := by
 rw [tw_go (by simp) (by simpa using h)]; exact tw1 p c t
theorem sub_tw (p : UInt8 → Bool) (c : UInt8) (t : Str) : subL (c :: t) (0 : Int) (((t.takeWhile p).length : Int) + 1) = c :: t.takeWhile p := by
 unfold subL
 rw [show ((((t.takeWhile p).length : Int) + 1) - 0).toNat = (t.takeWhile p).length + 1 from by omega, show ((0 : Int)).toNat = 0 from rfl, List.drop_zero, List.take_succ_cons, take_tw]
theorem isA_of_L {c : UInt8} (h : isL c = true) : isA c = true := by simp [isA, h]
theorem tok_word {n : Nat} {c : UInt8} {t : Str} (hn : 10000 ≤ n) (hs : (c :: t).length ≤ 5000) (hc : isL c = true) : JaS n (c :: t) = some (1, ((t.takeWhile isA).length : Int) + 1, c :: t.takeWhile isA) := by
 have := tw_le isA t
 simp only [List.length_cons] at hs
 unfold JaS
 rw [show ix (c :: t) 0 = some c from rfl, Option.bind_some, show JaF c = some (isL c) from rfl, Option.bind_some, hc, if_pos rfl, show (1 : Int) = ((1 : Nat) : Int) from rfl, tokL1 (by simp; omega) n 1 (by simp) (by simp; omega), Option.bind_some, tw1, chk_bind (by simp only [List.length_cons]; omega), sub_tw]
 rfl
theorem tak_word {n : Nat} {c : UInt8} {t : Str} (hn : 10000 ≤ n) (hs : (c :: t).length ≤ 5000) (hc : isL c = true) : Jbt n (c :: t) = some (1, c :: t.takeWhile isA, ((t.takeWhile isA).length : Int) + 1) := by
 have := tw_le isA t
 simp only [List.length_cons] at hs
 unfold Jbt
 rw [show ix (c :: t) 0 = some c from rfl, Option.bind_some, show Jbn c = some (isL c) from rfl, Option.bind_some, hc, if_pos rfl, show Ja7 (c :: t) n 0 = some (tw isA (c :: t) 0) from takL1 (by simp; omega) n 0 (by simp) (by simp; omega), Option.bind_some, tw0 t (isA_of_L hc), chk_bind (by simp only [List.length_cons]; omega), sub_tw]
theorem tak_num {n : Nat} {c : UInt8} {t : Str} (hn : 10000 ≤ n) (hs : (c :: t).length ≤ 5000) (hL : isL c = false) (hc : isD c = true) :
  Jbt n (c :: t) = some (if (t.takeWhile isD).length + 1 > 9 then (0, [], 0) else (2, c :: t.takeWhile isD, ((t.takeWhile isD).length : Int) + 1)) := by
 have := tw_le isD t
 simp only [List.length_cons] at hs
 unfold Jbt
 rw [show ix (c :: t) 0 = some c from rfl, Option.bind_some, show Jbn c = some (isL c) from rfl, Option.bind_some, hL, if_neg (by simp), Option.bind_some, show Jbg c = some (isD c) from rfl, Option.bind_some, hc, if_pos rfl, show Ja8 (c :: t) n 0 = some (tw isD (c :: t) 0) from takL3 (by simp; omega) n 0 (by simp) (by simp; omega), Option.bind_some, tw0 t hc]
 by_cases q : (t.takeWhile isD).length + 1 > 9
 ·rw [if_pos (by simp; omega), if_pos q]
 ·rw [if_neg (by simp; omega), if_neg q, chk_bind (by simp only [List.length_cons]; omega), sub_tw]
end Rt
set_option linter.unusedVariables false
set_option linter.unusedSimpArgs false
open Go Go.SL Go.Proofs Pl
namespace Rt
def wdy : Str → Bool
 | [] => false
 | c :: t => isL c && t.all isA
def nmr : Str → Bool
 | [] => false
 | c :: t => isD c && t.all isD && decide (t.length ≤ 8)
theorem L_ne {c : UInt8} (h : isL c = true) : (c.toNat : Int) ≠ 10 ∧ (c.toNat : Int) ≠ 32 ∧ (c.toNat : Int) ≠ 9 ∧ (c.toNat : Int) ≠ 13 ∧ (c.toNat : Int) ≠ 35 := by
 simp only [isL, Bool.or_eq_true, Bool.and_eq_true, decide_eq_true_eq] at h
 omega
theorem D_ne {c : UInt8} (h : isD c = true) : (c.toNat : Int) ≠ 10 ∧ (c.toNat : Int) ≠ 32 ∧ (c.toNat : Int) ≠ 9 ∧ (c.toNat : Int) ≠ 13 ∧ (c.toNat : Int) ≠ 35 ∧ isL c = false := by
 simp only [isD, Bool.and_eq_true, decide_eq_true_eq] at h
 refine ⟨by omega, by omega, by omega, by omega, by omega, ?_⟩
 simp only [isL, Bool.or_eq_false_iff, Bool.and_eq_false_iff, decide_eq_false_iff_not]
 omega
def Tk (k : Int) (w : Str) : Prop := (k = 1 → wdy w = true) ∧ (k = 2 → nmr w = true)
theorem tok_tk {n : Nat} {s : Str} (hn : 10000 ≤ n) (h0 : 0 < s.length) (hs : s.length ≤ 5000) {a b : Int} {w : Str} (h : JaS n s = some (a, b, w)) : a = 1 → wdy w = true := by
 cases s with
 | nil => simp at h0
 | cons c t =>
  cases hL : isL c with
  | true =>
   rw [tok_word hn hs hL] at h
   cases h
   exact fun _ => by simp only [wdy, hL, tw_all, Bool.and_self]
  | false =>
   intro ha
   subst ha
   unfold JaS at h
   rw [show ix (c :: t) 0 = some c from rfl, Option.bind_some, show JaF c = some (isL c) from rfl, Option.bind_some, hL, if_neg (by simp), show Jay c = some (isD c) from rfl, Option.bind_some] at h
   split at h
   ·obtain ⟨r, hr, h⟩ := bnd h
    split at h
    ·cases h
    ·obtain ⟨_, h⟩ := chkb h; cases h
   ·split at h
    ·obtain ⟨r, hr, h⟩ := bnd h; cases h
    ·obtain ⟨_, h⟩ := chkb h
     obtain ⟨r, hr, h⟩ := bnd h
     have : ∀ (k i : Nat) (z : Int × Int × Str), Jan (c :: t) k i = some (Fl.ret z) → z.1 = 4 := fun k => by
      induction k with
      | zero => intro i z hz; cases hz
      | succ k ih =>
       intro i z hz
       rw [Jan] at hz
       obtain ⟨p, hp, hz⟩ := bnd hz
       obtain ⟨q, hq, hz⟩ := bnd hz
       split at hz
       ·cases hz; rfl
       ·exact ih _ z hz
     cases r with
     | ret z =>
      rw [el_ret] at h
      have := this _ _ z hr
      rw [Option.some.inj h] at this
      simp at this
     | go z => rw [el_go] at h; cases h
theorem splitL0_tk {s : Str} {m : Nat} (hm : 10000 ≤ m) (hs : s.length ≤ 5000) : ∀ (n : Nat) (y : List Jt) (a b i : Int) (r : Fl ((List Jt) × Err) ((List Jt) × Int × Int × Int)), JG s m n y a b i = some r → (∀ t ∈ y, t.Kind = 1 → wdy t.Text = true) →
  (∀ z, r = Fl.ret z → z.2 = some 2) ∧ ∀ p, r = Fl.go p → ∀ t ∈ p.1, t.Kind = 1 → wdy t.Text = true
 | 0, y, a, b, i, r, h, hy => by rw [JG] at h; cases h
 | n + 1, y, a, b, i, r, h, hy => by
  rw [JG] at h
  split at h
  ·rename_i hi
   have hi : i < (s.length : Int) := by simpa using hi
   obtain ⟨c, hc, h⟩ := bnd h
   split at h
   ·obtain ⟨_, h⟩ := chkb h
    obtain ⟨_, h⟩ := chkb h
    exact splitL0_tk hm hs n _ _ _ _ r h hy
   ·split at h
    ·obtain ⟨_, h⟩ := chkb h; exact splitL0_tk hm hs n _ _ _ _ r h hy
    ·split at h
     ·obtain ⟨_, h⟩ := chkb h; exact splitL0_tk hm hs n _ _ _ _ r h hy
     ·split at h
      ·obtain ⟨_, h⟩ := chkb h; exact splitL0_tk hm hs n _ _ _ _ r h hy
      ·split at h
       ·obtain ⟨_, _, h⟩ := bnd h; exact splitL0_tk hm hs n _ _ _ _ r h hy
       ·obtain ⟨hb, h⟩ := chkb h
        obtain ⟨x, hx, h⟩ := bnd h
        split at h
        ·cases h
         exact ⟨fun z e => by cases e; rfl, fun p e => by cases e⟩
        ·obtain ⟨_, h⟩ := chkb h
         obtain ⟨_, h⟩ := chkb h
         obtain ⟨_, h⟩ := chkb h
         obtain ⟨_, h⟩ := chkb h
         refine splitL0_tk hm hs n _ _ _ _ r h fun t ht => ?_
         rcases List.mem_append.1 ht with ht | ht
         ·exact hy t ht
         ·rw [List.mem_singleton] at ht
          subst ht
          have hsl : (subL s i (s.length : Int)).length = s.length - i.toNat := by
           unfold subL
           rw [List.length_take, List.length_drop]; omega
          obtain ⟨x1, x2, x3⟩ := x
          exact tok_tk hm (by rw [hsl]; omega) (by rw [hsl]; omega) hx
  ·cases h
   exact ⟨fun z e => (by cases e), fun p e => by cases e; exact hy⟩
theorem split_tk {n : Nat} {s : Str} (hn : 10000 ≤ n) {r : List Jt × Err} (h : JaT n s = some r) (he : r.2 = none) : s.length ≤ 4096 ∧ ∀ t ∈ r.1, t.Kind = 1 → wdy t.Text = true := by
 unfold JaT at h
 split at h
 ·cases h; cases he
 ·rename_i hl
  have hl : s.length ≤ 4096 := by simp at hl; omega
  obtain ⟨q, hq, h⟩ := bnd h
  obtain ⟨g1, g2⟩ := splitL0_tk hn (by omega) n _ _ _ _ q hq (by simp)
  cases q with
  | ret z =>
   rw [el_ret] at h
   have := g1 z rfl
   rw [Option.some.inj h, he] at this; cases this
  | go p =>
   rw [el_go] at h
   obtain ⟨_, h⟩ := chkb h
   obtain ⟨_, h⟩ := chkb h
   obtain ⟨_, h⟩ := chkb h
   cases h
   refine ⟨hl, fun t ht hk => ?_⟩
   rcases List.mem_append.1 ht with ht | ht
   ·exact g2 p rfl t ht hk
   ·rw [List.mem_singleton] at ht
    subst ht
    simp at hk
theorem split_word {n : Nat} {s : Str} (hn : 10000 ≤ n) (hs : s.length ≤ 4096) (hw : wdy s = true) : JaT n s = some ([⟨1, s, 1, 1⟩, ⟨5, [], 1, (s.length : Int) + 1⟩], none) := by
 cases s with
 | nil => cases hw
 | cons c t =>
  simp only [wdy, Bool.and_eq_true] at hw
  obtain ⟨hc, ht⟩ := hw
  obtain ⟨n1, n2, n3, n4, n5⟩ := L_ne hc
  obtain ⟨k, rfl⟩ : ∃ k, n = k + 2 := ⟨n - 2, by omega⟩
  have hlen : ((c :: t).length : Int) = (t.length : Int) + 1 := by simp
  unfold JaT
  rw [if_neg (by simp only [decide_eq_true_eq]; omega), JG, if_pos (by simp only [decide_eq_true_eq]; omega), show ix (c :: t) 0 = some c from rfl, Option.bind_some,
   if_neg (by simpa using n1), if_neg (by simpa using n2), if_neg (by simpa using n3), if_neg (by simpa using n4), if_neg (by simpa using n5), chk_bind (by omega)]
  have e : subL (c :: t) (0 : Int) ((c :: t).length : Int) = c :: t := by
   unfold subL
   rw [show ((0 : Int)).toNat = 0 from rfl, List.drop_zero, List.take_of_length_le (by omega)]
  rw [e, tok_word hn (by omega) hc, tw_self isA t ht, Option.bind_some, if_neg (by simp only [decide_eq_true_eq]; omega), chk_bind (by constructor <;> omega), chk_bind (by constructor <;> omega),
   chk_bind (by simp [lim]), chk_bind (by constructor <;> simp only <;> omega), JG, if_neg (by simp only [decide_eq_true_eq]; omega), Option.bind_some, el_go, chk_bind (by constructor <;> simp only <;> omega), chk_bind (by constructor <;> simp only <;> omega), chk_bind (by simp [lim])]
  simp
end Rt
set_option linter.unusedVariables false
set_option linter.unusedSimpArgs false
open Go Go.SL Go.Proofs Pl
namespace Rt
def kw (s : Str) : Bool := decide (s ∈ gkw0)
theorem index_eq (v : Str) : ∀ (l : List Str) (i : Nat), ∃ r, Jad v l i = some r ∧ (v ∈ l → ∃ k : Nat, r = Fl.ret (k : Int)) ∧ (v ∉ l → r = Fl.go ())
 | [], i => ⟨_, rfl, fun h => (by cases h), fun _ => rfl⟩
 | x :: l, i => by
  rw [Jad]
  by_cases q : v = x
  ·exact ⟨_, if_pos (by simpa using q), fun _ => ⟨i, rfl⟩, fun h => (by simp [q] at h)⟩
  ·obtain ⟨r, hr, g1, g2⟩ := index_eq v l (i + 1)
   rw [if_neg (by simpa using q)]
   exact ⟨r, hr, fun h => g1 (by simpa [q] using h), fun h => g2 (by simpa [q] using h)⟩
theorem keyword_eq (s : Str) : Jby s = some (kw s) := by
 obtain ⟨r, hr, g1, g2⟩ := index_eq s gkw0 0
 unfold Jby Jae Jbq kw
 rw [chk_bind (by decide), hr, Option.bind_some]
 by_cases q : s ∈ gkw0
 ·obtain ⟨k, rfl⟩ := g1 q
  rw [el_ret, Option.bind_some, Option.bind_some]
  simp [q]
 ·rw [g2 q, el_go, Option.bind_some, Option.bind_some]
  simp [q]
theorem keyword2_L0 (s : Str) : ∀ (l : List Str) (i : Nat), JaQ s l i = some (if s ∈ l then Fl.ret true else Fl.go ())
 | [], i => rfl
 | x :: l, i => by
  rw [JaQ]
  by_cases q : x = s
  ·rw [if_pos (by simpa using q), if_pos (by simp [q])]
  ·rw [if_neg (by simpa using q), keyword2_L0 s l (i + 1)]
   have : (s ∈ x :: l) ↔ s ∈ l := by
    simp only [List.mem_cons]
    exact ⟨fun h => h.elim (fun e => absurd e.symm q) id, .inr⟩
   simp only [this]
theorem keyword2_eq (s : Str) : JbQ s = some (kw s) := by
 have e : JbZ = some gkw0 := rfl
 unfold JbQ kw
 rw [e, Option.bind_some, chk_bind (by decide), keyword2_L0, Option.bind_some]
 by_cases q : s ∈ gkw0
 ·rw [if_pos q, el_ret]; simp [q]
 ·rw [if_neg q, el_go]; simp [q]
def nm (s : Str) : Bool := wdy s && decide (s.length ≤ 4096) && !kw s
theorem ix_mem {α : Type} {l : List α} {i : Int} {x : α} (h : ix l i = some x) : x ∈ l := by
 unfold ix at h
 split at h
 ·exact List.mem_of_getElem? h
 ·cases h
theorem named_eq {n : Nat} (hn : 10000 ≤ n) (s : Str) : Jbd n s = some (nm s) := by
 unfold Jbd
 by_cases hw : s.length ≤ 4096 ∧ wdy s = true
 ·rw [split_word hn hw.1 hw.2, Option.bind_some]
  simp [ix, keyword_eq, nm, hw.1, hw.2]
 ·obtain ⟨r, hr⟩ := split_ok (s := s) hn
  have hnm : nm s = false := by
   unfold nm
   cases q : wdy s with
   | false => rfl
   | true => simp; intro h; exact absurd ⟨h, q⟩ hw
  rw [hr, Option.bind_some, hnm]
  cases q : (r.2.isNone && decide ((r.1.length : Int) = 2)) with
  | false => rfl
  | true =>
   rw [if_pos rfl]
   simp only [Bool.and_eq_true, decide_eq_true_eq] at q
   obtain ⟨g1, g2⟩ := split_tk hn hr (by simpa using q.1)
   obtain ⟨t, ht⟩ := ix_ok (s := r.1) (i := 0) (by omega) (by omega)
   rw [ht, Option.bind_some, Option.bind_some]
   cases k1 : decide (t.Kind = 1) with
   | false => rfl
   | true =>
    rw [if_pos rfl, Option.bind_some, Option.bind_some]
    cases k2 : decide (t.Text = s) with
    | false => rfl
    | true =>
     have e1 := of_decide_eq_true k1
     have e2 := of_decide_eq_true k2
     have := g2 t (ix_mem ht) e1
     rw [e2] at this
     exact absurd ⟨g1, this⟩ hw
theorem digits_L0_eq : ∀ (s : Str) (i : Nat), Jaw s i = some (if s.all isD = true then Fl.go () else Fl.ret false)
 | [], i => rfl
 | c :: s, i => by
  have e : (if decide ((c.toNat : Int) < 48) = true then some true else some (decide ((c.toNat : Int) > 57))) = some (!isD c) := by
   by_cases q : (c.toNat : Int) < 48
   ·have : isD c = false := by simp only [isD, Bool.and_eq_false_iff, decide_eq_false_iff_not]; omega
    rw [if_pos (by simpa using q), this]; rfl
   ·rw [if_neg (by simpa using q)]
    by_cases q2 : (c.toNat : Int) > 57
    ·have : isD c = false := by simp only [isD, Bool.and_eq_false_iff, decide_eq_false_iff_not]; omega
     rw [this, decide_eq_true q2]; rfl
    ·have : isD c = true := by simp only [isD, Bool.and_eq_true, decide_eq_true_eq]; omega
     rw [this, decide_eq_false q2]; rfl
  rw [Jaw, e, Option.bind_some]
  cases q : isD c with
  | true => rw [if_neg (by simp), digits_L0_eq s (i + 1), List.all_cons, q]; rfl
  | false => rw [if_pos (by simp), List.all_cons, q]; rfl
theorem digits_eq {s : Str} (h : s.length ≤ 3000) : Jbw s = some (nmr s) := by
 unfold Jbw
 rw [chk_bind (by simp only [szMax]; omega), digits_L0_eq, Option.bind_some]
 cases s with
 | nil => rfl
 | cons c t =>
  rw [nmr, List.all_cons]
  cases q : (isD c && t.all isD) with
  | true =>
   rw [if_pos rfl, el_go, Bool.true_and]
   have e1 : decide (((c :: t).length : Int) ≥ 1) = true := by simp only [List.length_cons, decide_eq_true_eq]; omega
   have e2 : decide (((c :: t).length : Int) ≤ 9) = decide (t.length ≤ 8) := by
    simp only [List.length_cons, decide_eq_decide]; omega
   rw [e1, e2, Bool.true_and]
  | false => rw [if_neg (by simp), el_ret, Bool.false_and]
def prt (s : Str) : Bool := s.all fun c => !(decide ((c.toNat : Int) < 32) || decide ((c.toNat : Int) > 126))
theorem prt_cons (c : UInt8) (s : Str) : prt (c :: s) = (!(decide ((c.toNat : Int) < 32) || decide ((c.toNat : Int) > 126)) && prt s) := by simp [prt]
theorem prt_cond (c : UInt8) : (if decide ((c.toNat : Int) < 32) = true then some true else some (decide ((c.toNat : Int) > 126))) = some (decide ((c.toNat : Int) < 32) || decide ((c.toNat : Int) > 126)) := by
 cases decide ((c.toNat : Int) < 32) <;> simp
theorem esc_cond (c : UInt8) : (if decide ((c.toNat : Int) = 34) = true then some true else some (decide ((c.toNat : Int) = 92))) = some (decide ((c.toNat : Int) = 34) || decide ((c.toNat : Int) = 92)) := by
 cases decide ((c.toNat : Int) = 34) <;> simp
theorem quote_L0_eq : ∀ (s : Str) (i : Nat) (y : Str), y.length + 2 * s.length ≤ 1000000 → ∃ r, Jaz s i y = some r ∧ (prt s = true → ∃ z, r = Fl.go z ∧ z.length ≤ 1000000) ∧ (prt s = false → r = Fl.ret ([], some 2))
 | [], i, y, h => ⟨_, rfl, fun _ => ⟨_, rfl, by simpa using h⟩, fun h => (by simp [prt] at h)⟩
 | c :: s, i, y, h => by
  simp only [List.length_cons] at h
  rw [Jaz, prt_cond, Option.bind_some, prt_cons]
  cases q : (decide ((c.toNat : Int) < 32) || decide ((c.toNat : Int) > 126)) with
  | true => exact ⟨_, if_pos rfl, fun h => (by simp at h), fun _ => rfl⟩
  | false =>
   rw [if_neg (by simp), esc_cond, Option.bind_some, Bool.not_false, Bool.true_and]
   cases q2 : (decide ((c.toNat : Int) = 34) || decide ((c.toNat : Int) = 92)) with
   | true =>
    rw [if_pos rfl, chk_bind (by simp only [lim, List.length_cons, List.length_nil]; omega), chk_bind (by simp only [lim, List.length_append, List.length_cons, List.length_nil]; omega)]
    exact quote_L0_eq s (i + 1) _ (by simp only [List.length_append, List.length_cons, List.length_nil]; omega)
   | false =>
    rw [if_neg (by simp), chk_bind (by simp only [lim, List.length_cons, List.length_nil]; omega)]
    exact quote_L0_eq s (i + 1) _ (by simp only [List.length_append, List.length_cons, List.length_nil]; omega)
theorem printable_eq {s : Str} (h : s.length ≤ 3000) : Jax s = some (prt s) := by
 obtain ⟨r, hr, g1, g2⟩ := quote_L0_eq s 0 [34] (by simp <;> omega)
 unfold Jax JbM
 rw [chk_bind (by simp only [szMax]; omega), hr, Option.bind_some]
 cases q : prt s with
 | false => rw [g2 q, el_ret]; rfl
 | true =>
  obtain ⟨z, rfl, hz⟩ := g1 q
  rw [el_go, chk_bind (by simp only [lim, List.length_cons, List.length_nil]; omega)]; rfl
theorem quote2_L0_eq {w : Str} : ∀ (s : Str) (i : Nat) (y : Str), i + s.length = w.length → y.length + 2 * s.length ≤ 1000000 → ∃ r, JaU w s i y = some r ∧ (prt s = true → ∃ z, r = Fl.go z ∧ z.length ≤ 1000000) ∧ (prt s = false → r = Fl.ret ([], false))
 | [], i, y, hi, h => ⟨_, rfl, fun _ => ⟨_, rfl, by simpa using h⟩, fun h => (by simp [prt] at h)⟩
 | c :: s, i, y, hi, h => by
  simp only [List.length_cons] at h hi
  have hsub : (subL w (i : Int) ((i : Int) + 1)).length ≤ 1 := by
   unfold subL
   rw [List.length_take]; omega
  rw [JaU, prt_cond, Option.bind_some, prt_cons]
  cases q : (decide ((c.toNat : Int) < 32) || decide ((c.toNat : Int) > 126)) with
  | true => exact ⟨_, if_pos rfl, fun h => (by simp at h), fun _ => rfl⟩
  | false =>
   rw [if_neg (by simp), esc_cond, Option.bind_some, Bool.not_false, Bool.true_and]
   cases q2 : (decide ((c.toNat : Int) = 34) || decide ((c.toNat : Int) = 92)) with
   | true =>
    rw [if_pos rfl, chk_bind (by simp only [lim, List.length_cons, List.length_nil]; omega), chk_bind (by omega), chk_bind (by simp only [lim, List.length_append, List.length_cons, List.length_nil]; omega)]
    exact quote2_L0_eq s (i + 1) _ (by omega) (by simp only [List.length_append, List.length_cons, List.length_nil]; omega)
   | false =>
    rw [if_neg (by simp), chk_bind (by omega), chk_bind (by simp only [lim]; omega)]
    exact quote2_L0_eq s (i + 1) _ (by omega) (by simp only [List.length_append]; omega)
theorem printable2_eq {s : Str} (h : s.length ≤ 3000) : JaW s = some (prt s) := by
 obtain ⟨r, hr, g1, g2⟩ := quote2_L0_eq (w := s) s 0 [34] (by omega) (by simp <;> omega)
 unfold JaW JcA
 rw [chk_bind (by simp only [szMax]; omega), hr, Option.bind_some]
 cases q : prt s with
 | false => rw [g2 q, el_ret]; rfl
 | true =>
  obtain ⟨z, rfl, hz⟩ := g1 q
  rw [el_go, chk_bind (by simp only [lim, List.length_cons, List.length_nil]; omega)]; rfl
end Rt
set_option linter.unusedVariables false
set_option linter.unusedSimpArgs false
open Go Go.SL Go.Proofs Pl
namespace Rt
theorem quoted2_L0 {s : Str} (hs : s.length ≤ 5000) : ∀ (n : Nat) (y : Str) (i : Int), 0 ≤ i → i ≤ (s.length : Int) → (s.length : Int) - i < n → (y.length : Int) + (s.length - i) ≤ 100000 → ∃ r, JaL s n y i = some r ∧ ∀ z, r = Fl.ret z → (z.1 = 0 ∧ z.2.2 = 0) ∨ (z.1 = 3 ∧ 0 < z.2.2 ∧ z.2.2 ≤ (s.length : Int))
 | 0, y, i, h0, h3, h1, h2 => by omega
 | n + 1, y, i, h0, h3, h1, h2 => by
  rw [JaL]
  by_cases hi : i < (s.length : Int)
  ·obtain ⟨c, hc⟩ := ix_ok h0 hi
   rw [if_pos (by simpa using hi), hc, Option.bind_some]
   by_cases q : (c.toNat : Int) = 34
   ·rw [if_pos (by simpa using q), chk_bind (by constructor <;> omega)]
    exact ⟨_, rfl, fun z e => by cases e; right; exact ⟨rfl, by simp only; omega, by simp only; omega⟩⟩
   ·rw [if_neg (by simpa using q)]
    cases hb : (decide ((c.toNat : Int) < 32) || decide ((c.toNat : Int) > 126)) with
    | true => exact ⟨_, if_pos rfl, fun z e => by cases e; left; exact ⟨rfl, rfl⟩⟩
    | false =>
     rw [if_neg (by simp)]
     have hsub : ∀ j : Int, (subL s j (j + 1)).length ≤ 1 := fun j => by
      unfold subL
      rw [List.length_take]; omega
     by_cases q2 : (c.toNat : Int) = 92
     ·rw [if_pos (by simpa using q2), chk_bind (by constructor <;> omega)]
      by_cases q3 : i + 1 = (s.length : Int)
      ·rw [if_pos (by simpa using q3)]; exact ⟨_, rfl, fun z e => by cases e; left; exact ⟨rfl, rfl⟩⟩
      ·obtain ⟨d, hd⟩ := ix_ok (s := s) (i := i + 1) (by omega) (by omega)
       rw [if_neg (by simpa using q3), hd, Option.bind_some]
       have e2 : ∃ b, (if decide ((d.toNat : Int) ≠ 92) = true then (some d).bind fun x40 => some (decide ((x40.toNat : Int) ≠ 34)) else some false) = some b := ite_ex (fun _ => ⟨_, rfl⟩) (fun _ => ⟨_, rfl⟩)
       obtain ⟨b, hb⟩ := e2
       rw [hb, Option.bind_some]
       have := hsub (i + 1)
       cases b with
       | true => exact ⟨_, if_pos rfl, fun z e => by cases e; left; exact ⟨rfl, rfl⟩⟩
       | false =>
        rw [if_neg (by simp), chk_bind (by constructor <;> omega), chk_bind (by omega), chk_bind (by simp only [lim]; omega), chk_bind (by constructor <;> omega)]
        exact quoted2_L0 hs n _ _ (by omega) (by omega) (by omega) (by simp only [List.length_append]; omega)
     ·have := hsub i
      rw [if_neg (by simpa using q2), chk_bind (by constructor <;> omega), chk_bind (by omega), chk_bind (by simp only [lim]; omega), chk_bind (by constructor <;> omega)]
      exact quoted2_L0 hs n _ _ (by omega) (by omega) (by omega) (by simp only [List.length_append]; omega)
  ·rw [if_neg (by simpa using hi)]; exact ⟨_, rfl, fun z e => by cases e⟩
abbrev sgs : List Str := [([61, 61] : Str), ([33, 61] : Str), ([60, 61] : Str), ([60] : Str), ([43] : Str), ([45] : Str), ([42] : Str), ([40] : Str), ([41] : Str), ([123] : Str), ([125] : Str), ([44] : Str), ([59] : Str), ([61] : Str)]
theorem take2_L5 {s : Str} : ∀ (k i : Nat), i + k = 14 → ∃ r, Jbr s k i = some r ∧ ∀ z, r = Fl.ret z → z.1 = 4 ∧ 0 ≤ z.2.2 ∧ z.2.2 ≤ (s.length : Int)
 | 0, i, h => ⟨_, rfl, fun z e => by cases e⟩
 | k + 1, i, h => by
  rw [Jbr]
  obtain ⟨p, hp⟩ := ix_ok (s := sgs) (i := (i : Int)) (by omega) (by simp; omega)
  rw [hp, Option.bind_some]
  by_cases h1 : (s.length : Int) ≥ (p.length : Int)
  ·rw [if_pos (by simpa using h1), Option.bind_some, chk_bind (by omega), Option.bind_some, Option.bind_some]
   cases q : decide (subL s (0 : Int) (p.length : Int) = p) with
   | true => rw [if_pos rfl, Option.bind_some, Option.bind_some]; exact ⟨_, rfl, fun z e => by cases e; exact ⟨rfl, by simp only; omega, h1⟩⟩
   | false => rw [if_neg (by simp)]; exact take2_L5 k (i + 1) (by omega)
  ·rw [if_neg (by simpa using h1), Option.bind_some, if_neg (by simp)]; exact take2_L5 k (i + 1) (by omega)
theorem take2_ok {n : Nat} {s : Str} (hn : 10000 ≤ n) (h0 : 0 < s.length) (hs : s.length ≤ 5000) : ∃ a w b, Jbt n s = some (a, w, b) ∧ 0 ≤ b ∧ b ≤ (s.length : Int) ∧ Tk a w := by
 cases s with
 | nil => simp at h0
 | cons c t =>
  have hl : ((c :: t).length : Int) = (t.length : Int) + 1 := by simp
  cases hL : isL c with
  | true =>
   have := tw_le isA t
   exact ⟨_, _, _, tak_word hn hs hL, by omega, by omega, fun _ => by simp only [wdy, hL, tw_all, Bool.and_self], fun h => by omega⟩
  | false =>
   cases hD : isD c with
   | true =>
    have := tw_le isD t
    by_cases q : (t.takeWhile isD).length + 1 > 9
    ·exact ⟨0, [], 0, by rw [tak_num hn hs hL hD, if_pos q], by omega, by omega, fun h => by omega, fun h => by omega⟩
    ·exact ⟨2, c :: t.takeWhile isD, ((t.takeWhile isD).length : Int) + 1, by rw [tak_num hn hs hL hD, if_neg q], by omega, by omega, fun h => by omega, fun _ => by
      have e : decide ((t.takeWhile isD).length ≤ 8) = true := by simp only [decide_eq_true_eq]; omega
      simp only [nmr, hD, tw_all, e, Bool.and_self]⟩
   | false =>
    unfold Jbt
    rw [show ix (c :: t) 0 = some c from rfl, Option.bind_some, show Jbn c = some (isL c) from rfl, Option.bind_some, hL, if_neg (by simp), Option.bind_some, show Jbg c = some (isD c) from rfl, Option.bind_some, hD, if_neg (by simp), Option.bind_some]
    by_cases q : (c.toNat : Int) = 34
    ·rw [if_pos (by simpa using q)]
     unfold Jch
     obtain ⟨r, hr, h1⟩ := quoted2_L0 hs n [] 1 (by omega) (by omega) (by omega) (by simp only [List.length_nil]; omega)
     rw [hr, Option.bind_some]
     cases r with
     | ret z =>
      rw [el_ret, Option.bind_some]
      rcases h1 z rfl with ⟨g1, g2⟩ | ⟨g1, g2, g3⟩
      ·exact ⟨_, _, _, rfl, by omega, by omega, fun h => by omega, fun h => by omega⟩
      ·exact ⟨_, _, _, rfl, by omega, by omega, fun h => by omega, fun h => by omega⟩
     | go z => rw [el_go, Option.bind_some]; exact ⟨_, _, _, rfl, by simp, by simp only; omega, fun h => by simp at h, fun h => by simp at h⟩
    ·rw [if_neg (by simpa using q)]
     obtain ⟨r, hr, h1⟩ := take2_L5 (s := c :: t) 14 0 rfl
     rw [chk_bind (by constructor <;> omega), show ((14 : Int)).toNat = 14 from rfl, hr, Option.bind_some]
     cases r with
     | ret z =>
      obtain ⟨g1, g2, g3⟩ := h1 z rfl
      exact ⟨z.1, z.2.1, z.2.2, rfl, g2, g3, fun h => by omega, fun h => by omega⟩
     | go z => exact ⟨_, _, _, rfl, by omega, by omega, fun h => by simp at h, fun h => by simp at h⟩
theorem split2_L3 {s : Str} {i : Int} (h0 : 0 ≤ i) (hs : s.length ≤ 5000) : ∀ (n : Nat) (j : Int), 1 ≤ j → i + j ≤ (s.length : Int) → (s.length : Int) - (i + j) < n → ∃ r, Jbh i s n j = some r ∧ 1 ≤ r ∧ i + r ≤ (s.length : Int)
 | 0, j, h1, h2, h3 => by omega
 | n + 1, j, h1, h2, h3 => by
  rw [Jbh, chk_bind (by constructor <;> omega)]
  by_cases hi : i + j < (s.length : Int)
  ·obtain ⟨c, hc⟩ := ix_ok (s := s) (i := i + j) (by omega) hi
   rw [if_pos (by simpa using hi), chk_bind (by constructor <;> omega), hc, Option.bind_some, Option.bind_some]
   by_cases q : (c.toNat : Int) = 10
   ·exact ⟨j, if_neg (by simpa using q), h1, h2⟩
   ·rw [if_pos (by simpa using q), chk_bind (by constructor <;> omega)]
    exact split2_L3 h0 hs n (j + 1) (by omega) (by omega) (by omega)
  ·rw [if_neg (by simpa using hi), Option.bind_some]
   exact ⟨j, if_neg (by simp), h1, h2⟩
theorem split2_L0 {s : Str} {m : Nat} (hm : 10000 ≤ m) (hs : s.length ≤ 5000) : ∀ (n : Nat) (y : List Jx) (a b i : Int), 0 ≤ i → i ≤ (s.length : Int) → (s.length : Int) - i < n → (y.length : Int) + (s.length - i) ≤ 100000 → 0 ≤ a → a + (s.length - i) ≤ 100000 → 0 ≤ b → b + (s.length - i) ≤ 100000 → (∀ t ∈ y, Tk t.Kind t.Text) →
  ∃ r, Jai s m n y a b i = some r ∧ (∀ z, r = Fl.ret z → z.2 = 2) ∧ ∀ p, r = Fl.go p → p.1.length ≤ 100000 ∧ ∀ t ∈ p.1, Tk t.Kind t.Text
 | 0, y, a, b, i, h0, h1, h2, h3, h4, h5, h6, h7, hy => by omega
 | n + 1, y, a, b, i, h0, h1, h2, h3, h4, h5, h6, h7, hy => by
  rw [Jai]
  by_cases hi : i < (s.length : Int)
  ·obtain ⟨c, hc⟩ := ix_ok h0 hi
   rw [if_pos (by simpa using hi), hc, Option.bind_some]
   split
   ·rw [chk_bind (by constructor <;> omega), chk_bind (by constructor <;> omega), chk_bind (by constructor <;> omega)]
    exact split2_L0 hm hs n _ _ _ _ (by omega) (by omega) (by omega) (by omega) (by omega) (by omega) (by omega) (by omega) hy
   ·split
    ·obtain ⟨r, hr, g1, g2⟩ := split2_L3 h0 hs m 1 (by omega) (by omega) (by omega)
     rw [hr, Option.bind_some, chk_bind (by constructor <;> omega), chk_bind (by constructor <;> omega)]
     exact split2_L0 hm hs n _ _ _ _ (by omega) (by omega) (by omega) (by omega) (by omega) (by omega) (by omega) (by omega) hy
    ·split
     ·have hsl : (subL s i (s.length : Int)).length = s.length - i.toNat := by
       unfold subL
       rw [List.length_take, List.length_drop]; omega
      rw [chk_bind (by omega)]
      obtain ⟨u, w, v, hr, g1, g2, g3⟩ := take2_ok (n := m) (s := subL s i (s.length : Int)) hm (by omega) (by omega)
      rw [hr, Option.bind_some]
      split
      ·exact ⟨_, rfl, fun z e => (by cases e; rfl), fun p e => by cases e⟩
      ·rename_i hz
       have hz' : v ≠ 0 := by simpa using hz
       rw [chk_bind (by simp only [lim, List.length_cons, List.length_nil]; omega), chk_bind (by constructor <;> simp only <;> omega), chk_bind (by constructor <;> simp only <;> omega)]
       refine split2_L0 hm hs n _ _ _ _ (by simp only; omega) (by simp only; omega) (by simp only; omega) (by simp only [List.length_append, List.length_cons, List.length_nil]; omega) (by omega) (by simp only; omega) (by simp only; omega) (by simp only; omega) fun t ht => ?_
       rcases List.mem_append.1 ht with ht | ht
       ·exact hy t ht
       ·rw [List.mem_singleton] at ht
        subst ht
        exact g3
     ·rw [chk_bind (by constructor <;> omega), chk_bind (by constructor <;> omega)]
      exact split2_L0 hm hs n _ _ _ _ (by omega) (by omega) (by omega) (by omega) (by omega) (by omega) (by omega) (by omega) hy
  ·rw [if_neg (by simpa using hi)]
   exact ⟨_, rfl, fun z e => (by cases e), fun p e => by cases e; exact ⟨by simp only; omega, hy⟩⟩
theorem split2_ok {n : Nat} {s : Str} (hn : 10000 ≤ n) : ∃ r, JbA n s = some r ∧ (r.2 = 0 → s.length ≤ 4096 ∧ ∀ t ∈ r.1, Tk t.Kind t.Text) := by
 unfold JbA
 by_cases h : (s.length : Int) > 4096
 ·exact ⟨_, if_pos (by simpa using h), fun e => by simp at e⟩
 ·obtain ⟨r, hr, h1, h2⟩ := split2_L0 hn (s := s) (by omega) n [] 1 1 0 (by omega) (by omega) (by omega) (by simp; omega) (by omega) (by omega) (by omega) (by omega) (by simp)
  rw [if_neg (by simpa using h), hr, Option.bind_some]
  cases r with
  | ret z => rw [el_ret]; exact ⟨_, rfl, fun e => by rw [h1 z rfl] at e; omega⟩
  | go p =>
   obtain ⟨g1, g2⟩ := h2 p rfl
   rw [el_go, chk_bind (by simp only [lim, List.length_cons, List.length_nil]; omega)]
   refine ⟨_, rfl, fun _ => ⟨by omega, fun t ht => ?_⟩⟩
   rcases List.mem_append.1 ht with ht | ht
   ·exact g2 t ht
   ·rw [List.mem_singleton] at ht
    subst ht
    exact ⟨fun h => by simp at h, fun h => by simp at h⟩
theorem split2_one {n : Nat} {c : UInt8} {t : Str} {k : Int} (hn : 10000 ≤ n) (hs : (c :: t).length ≤ 4096) (hc : (c.toNat : Int) ≠ 10 ∧ (c.toNat : Int) ≠ 32 ∧ (c.toNat : Int) ≠ 9 ∧ (c.toNat : Int) ≠ 13 ∧ (c.toNat : Int) ≠ 35) (ht : Jbt n (c :: t) = some (k, c :: t, (t.length : Int) + 1)) :
  JbA n (c :: t) = some ([⟨k, c :: t, 1, 1⟩, ⟨5, [], 1, ((c :: t).length : Int) + 1⟩], 0) := by
 obtain ⟨n1, n2, n3, n4, n5⟩ := hc
 obtain ⟨k, rfl⟩ : ∃ k, n = k + 2 := ⟨n - 2, by omega⟩
 have hlen : ((c :: t).length : Int) = (t.length : Int) + 1 := by simp
 unfold JbA
 have e : subL (c :: t) (0 : Int) ((c :: t).length : Int) = c :: t := by
  unfold subL
  rw [show ((0 : Int)).toNat = 0 from rfl, List.drop_zero, List.take_of_length_le (by omega)]
 rw [if_neg (by simp only [decide_eq_true_eq]; omega), Jai, if_pos (by simp only [decide_eq_true_eq]; omega), show ix (c :: t) 0 = some c from rfl, Option.bind_some,
  if_neg (by simpa using n1), if_neg (by simpa using n5), if_pos (by simp only [Bool.and_eq_true, decide_eq_true_eq]; exact ⟨⟨n2, n3⟩, n4⟩), chk_bind (by omega), e, ht, Option.bind_some, if_neg (by simp only [decide_eq_true_eq]; omega),
  chk_bind (by simp [lim]), chk_bind (by constructor <;> simp only <;> omega), chk_bind (by constructor <;> simp only <;> omega), Jai, if_neg (by simp only [decide_eq_true_eq]; omega), Option.bind_some, el_go, chk_bind (by simp [lim])]
 simp
 omega
theorem token1_eq {n : Nat} {s : Str} (hn : 10000 ≤ n) : Jbi n s 1 = some (wdy s && decide (s.length ≤ 4096)) ∧ Jbi n s 2 = some (nmr s) := by
 have tail : ∀ (k : Int) (b : Bool), (k = 1 → wdy s = true → s.length ≤ 4096 → b = true) → (k = 2 → nmr s = true → s.length ≤ 4096 → b = true) → (k = 1 ∨ k = 2) → b = false → Jbi n s k = some b := fun k b h1 h2 hk hb => by
  subst hb
  obtain ⟨r, hr, g⟩ := split2_ok (s := s) hn
  unfold Jbi
  rw [hr, Option.bind_some]
  cases q : (decide (r.2 = 0) && decide ((r.1.length : Int) = 2)) with
  | false => rfl
  | true =>
   rw [if_pos rfl]
   simp only [Bool.and_eq_true, decide_eq_true_eq] at q
   obtain ⟨g1, g2⟩ := g q.1
   obtain ⟨t, ht⟩ := ix_ok (s := r.1) (i := 0) (by omega) (by omega)
   rw [ht, Option.bind_some, Option.bind_some]
   cases k1 : decide (t.Kind = k) with
   | false => rfl
   | true =>
    rw [if_pos rfl, Option.bind_some, Option.bind_some]
    cases k2 : decide (t.Text = s) with
    | false => rfl
    | true =>
     have e1 := of_decide_eq_true k1
     have e2 := of_decide_eq_true k2
     have := g2 t (ix_mem ht)
     rw [e1, e2] at this
     rcases hk with rfl | rfl
     ·exact absurd (h1 rfl (this.1 rfl) g1) (by simp)
     ·exact absurd (h2 rfl (this.2 rfl) g1) (by simp)
 have one : ∀ (k : Int), JbA n s = some ([⟨k, s, 1, 1⟩, ⟨5, [], 1, (s.length : Int) + 1⟩], 0) → s.length ≤ 4096 → Jbi n s k = some true := fun k h hl => by
  unfold Jbi
  rw [h, Option.bind_some, if_pos (by simp), show ix ([⟨k, s, 1, 1⟩, ⟨5, [], 1, (s.length : Int) + 1⟩] : List Jx) 0 = some ⟨k, s, 1, 1⟩ from rfl, show ix ([⟨k, s, 1, 1⟩, ⟨5, [], 1, (s.length : Int) + 1⟩] : List Jx) 1 = some ⟨5, [], 1, (s.length : Int) + 1⟩ from rfl,
   Option.bind_some, Option.bind_some, if_pos (by simp), Option.bind_some, Option.bind_some, if_pos (by simp), Option.bind_some, Option.bind_some, if_pos (by simp), Option.bind_some, chk_bind (by constructor <;> omega), Option.bind_some, if_pos (by simp), Option.bind_some]
  rfl
 constructor
 ·cases q : (wdy s && decide (s.length ≤ 4096)) with
  | false => exact tail 1 false (fun _ a b => by rw [a, decide_eq_true b] at q; cases q) (fun h => by omega) (.inl rfl) rfl
  | true =>
   simp only [Bool.and_eq_true, decide_eq_true_eq] at q
   refine one 1 ?_ q.2
   cases s with
   | nil => cases q.1
   | cons c t =>
    have hw := q.1
    simp only [wdy, Bool.and_eq_true] at hw
    refine split2_one hn q.2 (L_ne hw.1) ?_
    rw [tak_word hn (by omega) hw.1, tw_self isA t hw.2]
 ·cases q : nmr s with
  | false => exact tail 2 false (fun h => by omega) (fun _ a b => by rw [a] at q; cases q) (.inr rfl) rfl
  | true =>
   cases s with
   | nil => cases q
   | cons c t =>
    have hw := q
    simp only [nmr, Bool.and_eq_true, decide_eq_true_eq] at hw
    obtain ⟨⟨w1, w2⟩, w3⟩ := hw
    obtain ⟨n1, n2, n3, n4, n5, n6⟩ := D_ne w1
    refine one 2 ?_ (by simp only [List.length_cons]; omega)
    refine split2_one hn (by simp only [List.length_cons]; omega) ⟨n1, n2, n3, n4, n5⟩ ?_
    rw [tak_num hn (by simp only [List.length_cons]; omega) n6 w1, tw_self isD t w2, if_neg (by omega)]
theorem named2_eq {n : Nat} (hn : 10000 ≤ n) (s : Str) : JbH n s = some (nm s) := by
 unfold JbH nm
 rw [(token1_eq hn).1, Option.bind_some, keyword2_eq]
 cases (wdy s && decide (s.length ≤ 4096)) <;> rfl
end Rt
set_option linter.unusedVariables false
set_option linter.unusedSimpArgs false
open Go Go.SL Go.Proofs Pl
namespace Rt
theorem A2.imp_mem {α β : Type} {P Q : α → β → Prop} {l : List α} {k : List β} (h : A2 P l k) (hf : ∀ a ∈ l, ∀ b, P a b → Q a b) : A2 Q l k := by
 induction h with
 | nil => exact .nil
 | cons hp _ ih => exact .cons (hf _ (by simp) _ hp) (ih fun a ha => hf a (by simp [ha]))
def Sm (f : N → Option Bool) (g : M → Option Bool) (x : N) (y : M) : Prop := ∃ b, f x = some b ∧ g y = some b
def gor (b : Bool) : Fl Bool Unit := if b then Fl.go () else Fl.ret false
theorem gor_el (b c : Bool) : (gor b).el some (fun _ => some c) = some (b && c) := by cases b <;> rfl
theorem exprs_L0_rel {f : N → Option Bool} {g : M → Option Bool} {l : List N} {k : List M} (h : A2 (Sm f g) l k) : ∀ i j : Nat, ∃ b : Bool, Jau f l i = some (gor b) ∧ JC g k j = some (gor b) ∧ (l = [] → b = true) := by
 induction h with
 | nil => exact fun i j => ⟨true, rfl, rfl, fun _ => rfl⟩
 | cons hp _ ih =>
  intro i j
  obtain ⟨b, h1, h2⟩ := hp
  rw [Jau, JC, h1, h2, Option.bind_some, Option.bind_some]
  cases b with
  | false => exact ⟨false, rfl, rfl, fun h => by cases h⟩
  | true =>
   obtain ⟨b, g1, g2, _⟩ := ih (i + 1) (j + 1)
   exact ⟨b, g1, g2, fun h => by cases h⟩
theorem all_L0_rel {m n : Nat} {g : M → Option Bool} {l : List N} {k : List M} (h : A2 (Sm (J1 (Ja9 m) n) g) l k) : ∀ i j : Nat, ∃ b : Bool, Jbo (Ja9 m) n l i = some (gor b) ∧ JP g k j = some (gor b) := by
 induction h with
 | nil => exact fun i j => ⟨true, rfl, rfl⟩
 | cons hp _ ih =>
  intro i j
  obtain ⟨b, h1, h2⟩ := hp
  rw [Jbo, JP, h1, h2, Option.bind_some, Option.bind_some]
  cases b with
  | false => exact ⟨false, rfl, rfl⟩
  | true => exact ih (i + 1) (j + 1)
theorem valid_L0_blocked {n : Nat} : ∀ (l : List M) (i j : Nat), Jaj n l i = JP (Jo n) l j
 | [], i, j => rfl
 | k :: l, i, j => by
  rw [Jaj, JP]
  congr 1; funext b; rw [valid_L0_blocked l (i + 1) (j + 1)]
def cmp (s : Str) : Bool := decide (s = [61, 61]) || (decide (s = [33, 61]) || (decide (s = [60]) || (decide (s = [60, 61]) || (decide (s = [115, 116, 97, 114, 116, 115]) || (decide (s = [101, 110, 100, 115]) || decide (s = [99, 111, 110, 116, 97, 105, 110, 115]))))))
theorem compares2_eq (s : Str) : JbG s = some (cmp s) := by
 unfold JbG
 rw [chk_bind (by constructor <;> omega), show ((7 : Int)).toNat = 7 from rfl]
 by_cases h1 : s = [61, 61]; · subst h1; rfl
 by_cases h2 : s = [33, 61]; · subst h2; rfl
 by_cases h3 : s = [60]; · subst h3; rfl
 by_cases h4 : s = [60, 61]; · subst h4; rfl
 by_cases h5 : s = [115, 116, 97, 114, 116, 115]; · subst h5; rfl
 by_cases h6 : s = [101, 110, 100, 115]; · subst h6; rfl
 by_cases h7 : s = [99, 111, 110, 116, 97, 105, 110, 115]; · subst h7; rfl
 simp [JaV, ix, h1, h2, h3, h4, h5, h6, h7, cmp, Fl.el]
theorem compares_eq (s : Str) : ((Jar 4 s).bind fun x22 => (if x22 = true then some true else (Jar 1 s).bind fun x26 => some x26)) = some (cmp s) := by
 by_cases h1 : s = [61, 61]; · subst h1; rfl
 by_cases h2 : s = [33, 61]; · subst h2; rfl
 by_cases h3 : s = [60]; · subst h3; rfl
 by_cases h4 : s = [60, 61]; · subst h4; rfl
 by_cases h5 : s = [115, 116, 97, 114, 116, 115]; · subst h5; rfl
 by_cases h6 : s = [101, 110, 100, 115]; · subst h6; rfl
 by_cases h7 : s = [99, 111, 110, 116, 97, 105, 110, 115]; · subst h7; rfl
 simp [Jar, h1, h2, h3, h4, h5, h6, h7, cmp]
theorem exprT {n : Nat} {y : M} {k : Int} {b : Bool} (hk : Jr n y = some k) (hl : y.Kids.length ≤ 3000) (hb : JC (Jm n) y.Kids 0 = some (gor b)) :
  Jm (n + 1) y = some (if k = -2 then false else if 0 ≤ k then b && decide ((y.Kids.length : Int) = k) else b) := by
 rw [Jm, hk, Option.bind_some]
 by_cases q : k = -2
 ·rw [if_pos (by simpa using q), if_pos q]
 ·rw [if_neg (by simpa using q), if_neg q]
  by_cases q2 : 0 ≤ k
  ·by_cases q3 : (y.Kids.length : Int) = k
   ·rw [if_neg (by simp [q3]), chk_bind (by simp only [szMax]; omega), hb, Option.bind_some, gor_el, if_pos q2, decide_eq_true q3]
   ·rw [if_pos (by simp [q3]; omega), if_pos q2, decide_eq_false q3, Bool.and_false]
  ·rw [if_neg (by simp; omega), chk_bind (by simp only [szMax]; omega), hb, Option.bind_some, gor_el, if_neg q2, Bool.and_true]
theorem exprs_val {f : N → Option Bool} {n : Nat} {l : List N} {b : Bool} (hl : l.length ≤ 3000) (hb : Jau f l 0 = some (gor b)) (k : Int) : J9 f n l k = some (b && decide ((l.length : Int) = k)) := by
 unfold J9
 rw [chk_bind (by simp only [szMax]; omega), hb, Option.bind_some, gor_el]
theorem opt_if {c : Bool} {b : Bool} : (if c = true then (some b).bind fun x => some x else some false) = some (c && b) := by cases c <;> rfl
theorem op_if {c : Bool} {k : Int} : (if (!c) = true then some (-2) else some k) = some (if c = true then k else -2) := by cases c <;> rfl
theorem expression_rel : ∀ (d f n : Nat) (x : N) (y : M), OkN d x → Cvd d x y → d + 10000 ≤ f → d + 10000 ≤ n → Sm (Jq f) (Jm n) x y
 | d + 1, 0, n, x, y, h, hc, hf, hn => by omega
 | d + 1, f + 1, 0, x, y, h, hc, hf, hn => by omega
 | d + 1, f + 1, n + 1, x, y, h, hc, hf, hn => by
  obtain ⟨h1, h2, h3⟩ := h
  obtain ⟨c1, c2, c3, c4⟩ := hc
  have hlen := c4.len
  obtain ⟨b, b1, b2, b3⟩ := exprs_L0_rel (c4.imp_mem fun a ha q hq => expression_rel d f n a q (h3 a ha) hq (by omega) (by omega)) 0 0
  have ex := exprs_val (n := f) (by omega) b1
  have hb0 : decide ((x.Kids.length : Int) = 0) = (b && decide ((x.Kids.length : Int) = 0)) := by
   cases q : decide ((x.Kids.length : Int) = 0) with
   | false => rw [Bool.and_false]
   | true => rw [b3 (List.length_eq_zero_iff.1 (by have := of_decide_eq_true q; omega))]; rfl
  have fin : ∀ (c : Bool) (k : Int), 0 ≤ k → Jr n y = some (if c = true then k else -2) → Jq (f + 1) x = some (c && (b && decide ((x.Kids.length : Int) = k))) → Sm (Jq (f + 1)) (Jm (n + 1)) x y := fun c k hk ho hr => by
   refine ⟨_, hr, ?_⟩
   rw [exprT ho (by omega) b2, hlen]
   cases c with
   | false => rfl
   | true => rw [if_pos rfl, if_neg (by omega), if_pos hk, Bool.true_and]
  have t0 : decide (x.Text = ([] : Str)) = decide (y.Text = ([] : Str)) := by rw [c2]
  by_cases k13 : x.Kind = 13
  ·refine fin (decide (x.Text = [])) 2 (by omega) ?_ ?_
   ·rw [Jr, c1, if_pos (by simpa using k13), c2, op_if]
   ·rw [Jq, if_pos (by simpa using k13), ex, opt_if]; rfl
  by_cases k14 : x.Kind = 14
  ·refine fin (decide (x.Text = [])) 2 (by omega) ?_ ?_
   ·rw [Jr, c1, if_neg (by simpa using k13), if_pos (by simpa using k14), c2, op_if]
   ·rw [Jq, if_neg (by simpa using k13), if_pos (by simpa using k14), ex, opt_if]; rfl
  by_cases k17 : x.Kind = 17
  ·refine fin (decide (x.Text = [])) 2 (by omega) ?_ ?_
   ·rw [Jr, c1, if_neg (by simpa using k13), if_neg (by simpa using k14), if_pos (by simpa using k17), c2, op_if]
   ·rw [Jq, if_neg (by simpa using k13), if_neg (by simpa using k14), if_pos (by simpa using k17), ex, opt_if]; rfl
  by_cases k18 : x.Kind = 18
  ·refine fin (decide (x.Text = [])) 2 (by omega) ?_ ?_
   ·rw [Jr, c1, if_neg (by simpa using k13), if_neg (by simpa using k14), if_neg (by simpa using k17), if_pos (by simpa using k18), c2, op_if]
   ·rw [Jq, if_neg (by simpa using k13), if_neg (by simpa using k14), if_neg (by simpa using k17), if_pos (by simpa using k18), ex, opt_if]; rfl
  by_cases k19 : x.Kind = 19
  ·refine fin (decide (x.Text = [])) 2 (by omega) ?_ ?_
   ·rw [Jr, c1, if_neg (by simpa using k13), if_neg (by simpa using k14), if_neg (by simpa using k17), if_neg (by simpa using k18), if_pos (by simpa using k19), c2, op_if]
   ·rw [Jq, if_neg (by simpa using k13), if_neg (by simpa using k14), if_neg (by simpa using k17), if_neg (by simpa using k18), if_pos (by simpa using k19), ex, opt_if]; rfl
  by_cases k15 : x.Kind = 15
  ·refine fin (decide (x.Text = [])) 1 (by omega) ?_ ?_
   ·rw [Jr, c1, if_neg (by simpa using k13), if_neg (by simpa using k14), if_neg (by simpa using k17), if_neg (by simpa using k18), if_neg (by simpa using k19), if_pos (by simpa using k15), c2, op_if]
   ·rw [Jq, if_neg (by simpa using k13), if_neg (by simpa using k14), if_neg (by simpa using k17), if_neg (by simpa using k18), if_neg (by simpa using k19), if_pos (by simpa using k15), ex, opt_if]; rfl
  by_cases k16 : x.Kind = 16
  ·refine fin (cmp x.Text) 2 (by omega) ?_ ?_
   ·rw [Jr, c1, if_neg (by simpa using k13), if_neg (by simpa using k14), if_neg (by simpa using k17), if_neg (by simpa using k18), if_neg (by simpa using k19), if_neg (by simpa using k15), if_pos (by simpa using k16), c2, ← op_if]
    have e := compares_eq x.Text
    cases q : Jar 4 x.Text with
    | none => rw [q] at e; cases e
    | some v =>
     rw [q, Option.bind_some] at e
     rw [Option.bind_some, e, Option.bind_some]
   ·rw [Jq, if_neg (by simpa using k13), if_neg (by simpa using k14), if_neg (by simpa using k17), if_neg (by simpa using k18), if_neg (by simpa using k19), if_neg (by simpa using k15), if_pos (by simpa using k16), compares2_eq, Option.bind_some, ex, opt_if]; rfl
  by_cases k20 : x.Kind = 20
  ·refine fin (nmr x.Text) 0 (by omega) ?_ ?_
   ·rw [Jr, c1, if_neg (by simpa using k13), if_neg (by simpa using k14), if_neg (by simpa using k17), if_neg (by simpa using k18), if_neg (by simpa using k19), if_neg (by simpa using k15), if_neg (by simpa using k16), if_pos (by simpa using k20), c2, digits_eq h1, Option.bind_some, op_if]
   ·rw [Jq, if_neg (by simpa using k13), if_neg (by simpa using k14), if_neg (by simpa using k17), if_neg (by simpa using k18), if_neg (by simpa using k19), if_neg (by simpa using k15), if_neg (by simpa using k16), if_pos (by simpa using k20), (token1_eq (by omega)).2, Option.bind_some, ← hb0]
  by_cases k21 : x.Kind = 21
  ·refine fin (prt x.Text) 0 (by omega) ?_ ?_
   ·rw [Jr, c1, if_neg (by simpa using k13), if_neg (by simpa using k14), if_neg (by simpa using k17), if_neg (by simpa using k18), if_neg (by simpa using k19), if_neg (by simpa using k15), if_neg (by simpa using k16), if_neg (by simpa using k20), if_pos (by simpa using k21), c2, printable_eq h1, Option.bind_some, op_if]
   ·rw [Jq, if_neg (by simpa using k13), if_neg (by simpa using k14), if_neg (by simpa using k17), if_neg (by simpa using k18), if_neg (by simpa using k19), if_neg (by simpa using k15), if_neg (by simpa using k16), if_neg (by simpa using k20), if_pos (by simpa using k21), printable2_eq h1, Option.bind_some, ← hb0]
  by_cases k22 : x.Kind = 22
  ·refine fin (decide (x.Text = ([116, 114, 117, 101] : Str)) || decide (x.Text = ([102, 97, 108, 115, 101] : Str))) 0 (by omega) ?_ ?_
   ·rw [Jr, c1, if_neg (by simpa using k13), if_neg (by simpa using k14), if_neg (by simpa using k17), if_neg (by simpa using k18), if_neg (by simpa using k19), if_neg (by simpa using k15), if_neg (by simpa using k16), if_neg (by simpa using k20), if_neg (by simpa using k21), if_pos (by simpa using k22), c2, op_if]
   ·rw [Jq, if_neg (by simpa using k13), if_neg (by simpa using k14), if_neg (by simpa using k17), if_neg (by simpa using k18), if_neg (by simpa using k19), if_neg (by simpa using k15), if_neg (by simpa using k16), if_neg (by simpa using k20), if_neg (by simpa using k21), if_pos (by simpa using k22), ← hb0]
  by_cases k23 : x.Kind = 23
  ·refine fin (nm x.Text) 0 (by omega) ?_ ?_
   ·rw [Jr, c1, if_neg (by simpa using k13), if_neg (by simpa using k14), if_neg (by simpa using k17), if_neg (by simpa using k18), if_neg (by simpa using k19), if_neg (by simpa using k15), if_neg (by simpa using k16), if_neg (by simpa using k20), if_neg (by simpa using k21), if_neg (by simpa using k22), if_pos (by simpa using k23), c2, named_eq (by omega), Option.bind_some, op_if]
   ·rw [Jq, if_neg (by simpa using k13), if_neg (by simpa using k14), if_neg (by simpa using k17), if_neg (by simpa using k18), if_neg (by simpa using k19), if_neg (by simpa using k15), if_neg (by simpa using k16), if_neg (by simpa using k20), if_neg (by simpa using k21), if_neg (by simpa using k22), if_pos (by simpa using k23), named2_eq (by omega), Option.bind_some, ← hb0]
  by_cases k24 : x.Kind = 24
  ·refine ⟨nm x.Text && b, ?_, ?_⟩
   ·rw [Jq, if_neg (by simpa using k13), if_neg (by simpa using k14), if_neg (by simpa using k17), if_neg (by simpa using k18), if_neg (by simpa using k19), if_neg (by simpa using k15), if_neg (by simpa using k16), if_neg (by simpa using k20), if_neg (by simpa using k21), if_neg (by simpa using k22), if_neg (by simpa using k23), if_pos (by simpa using k24), named2_eq (by omega), Option.bind_some, ex, opt_if, decide_eq_true rfl, Bool.and_true]; rfl
   ·have ho : Jr n y = some (if nm x.Text = true then -1 else -2) := by
     rw [Jr, c1, if_neg (by simpa using k13), if_neg (by simpa using k14), if_neg (by simpa using k17), if_neg (by simpa using k18), if_neg (by simpa using k19), if_neg (by simpa using k15), if_neg (by simpa using k16), if_neg (by simpa using k20), if_neg (by simpa using k21), if_neg (by simpa using k22), if_neg (by simpa using k23), if_pos (by simpa using k24), c2, named_eq (by omega), Option.bind_some, op_if]
    rw [exprT ho (by omega) b2]
    cases nm x.Text with
    | false => rfl
    | true => rw [if_pos rfl, if_neg (by omega), if_neg (by omega), Bool.true_and]
  ·refine ⟨false, ?_, ?_⟩
   ·rw [Jq, if_neg (by simpa using k13), if_neg (by simpa using k14), if_neg (by simpa using k17), if_neg (by simpa using k18), if_neg (by simpa using k19), if_neg (by simpa using k15), if_neg (by simpa using k16), if_neg (by simpa using k20), if_neg (by simpa using k21), if_neg (by simpa using k22), if_neg (by simpa using k23), if_neg (by simpa using k24)]
   ·have ho : Jr n y = some (-2) := by
     rw [Jr, c1, if_neg (by simpa using k13), if_neg (by simpa using k14), if_neg (by simpa using k17), if_neg (by simpa using k18), if_neg (by simpa using k19), if_neg (by simpa using k15), if_neg (by simpa using k16), if_neg (by simpa using k20), if_neg (by simpa using k21), if_neg (by simpa using k22), if_neg (by simpa using k23), if_neg (by simpa using k24)]
    rw [exprT ho (by omega) b2]; rfl
end Rt
set_option linter.unusedVariables false
set_option linter.unusedSimpArgs false
open Go Go.SL Go.Proofs Pl
namespace Rt
theorem Sm.ix {f : N → Option Bool} {g : M → Option Bool} {l : List N} {k : List M} (h : A2 (Sm f g) l k) {i : Int} (h0 : 0 ≤ i) (h1 : i < (l.length : Int)) : ∃ a b r, ix l i = some a ∧ ix k i = some b ∧ f a = some r ∧ g b = some r := by
 induction h generalizing i with
 | nil => simp at h1; omega
 | cons hp _ ih =>
  rename_i a b l k _
  simp only [List.length_cons] at h1
  by_cases q : i = 0
  ·subst q
   obtain ⟨r, h2, h3⟩ := hp
   exact ⟨a, b, r, rfl, rfl, h2, h3⟩
  ·obtain ⟨a', b', r, e1, e2, e3, e4⟩ := ih (i := i - 1) (by omega) (by omega)
   have st : ∀ {α : Type} (x : α) (t : List α), Go.SL.ix (x :: t) i = Go.SL.ix t (i - 1) := fun x t => by
    unfold Go.SL.ix
    rw [if_pos h0, if_pos (by omega), show i.toNat = (i - 1).toNat + 1 from by omega, List.getElem?_cons_succ]
   exact ⟨a', b', r, by rw [st, e1], by rw [st, e2], e3, e4⟩
theorem A2.ix {α β : Type} {P : α → β → Prop} {l : List α} {k : List β} (h : A2 P l k) {i : Int} (h0 : 0 ≤ i) (h1 : i < (l.length : Int)) : ∃ a b, ix l i = some a ∧ ix k i = some b ∧ P a b ∧ a ∈ l := by
 induction h generalizing i with
 | nil => simp at h1; omega
 | cons hp _ ih =>
  rename_i a b l k _
  simp only [List.length_cons] at h1
  by_cases q : i = 0
  ·subst q
   exact ⟨a, b, rfl, rfl, hp, by simp⟩
  ·obtain ⟨a', b', e1, e2, e3, e4⟩ := ih (i := i - 1) (by omega) (by omega)
   have st : ∀ {α : Type} (x : α) (t : List α), Go.SL.ix (x :: t) i = Go.SL.ix t (i - 1) := fun x t => by
    unfold Go.SL.ix
    rw [if_pos h0, if_pos (by omega), show i.toNat = (i - 1).toNat + 1 from by omega, List.getElem?_cons_succ]
   exact ⟨a', b', by rw [st, e1], by rw [st, e2], e3, by simp [e4]⟩
theorem all_val {m n : Nat} {l : List N} {b : Bool} (hl : l.length ≤ 3000) (hb : Jbo (Ja9 m) m l 0 = some (gor b)) : Ja9 (m + 1) l = some b := by
 rw [Ja9, chk_bind (by simp only [szMax]; omega), hb, Option.bind_some, gor_el, Bool.and_true]
theorem blocked_val {g : M → Option Bool} {n : Nat} {y : M} {b : Bool} (hl : y.Kids.length ≤ 3000) (hb : JP g y.Kids 0 = some (gor b)) : Jao g n y = some ((decide (y.Kind = 12) && decide (y.Text = [])) && b) := by
 unfold Jao
 by_cases q : y.Kind = 12
 ·by_cases q2 : y.Text = []
  ·rw [if_neg (by simp [q, q2]), chk_bind (by simp only [szMax]; omega), hb, Option.bind_some, gor_el, decide_eq_true q, decide_eq_true q2]; cases b <;> rfl
  ·rw [if_pos (by simp [q2]), decide_eq_false q2, Bool.and_false, Bool.false_and]
 ·rw [if_pos (by simp [q]), decide_eq_false q, Bool.false_and, Bool.false_and]
theorem neg_if {c : Bool} {A : Option Bool} : (if (!c) = true then some false else A) = if c = true then A else some false := by cases c <;> rfl
theorem stated_rel : ∀ (d m f n : Nat) (x : N) (y : M), OkN d x → Cvd d x y → d + 10000 ≤ m → d + 10000 ≤ f → d + 10000 ≤ n → Sm (J1 (Ja9 m) f) (Jo n) x y
 | d + 1, m, 0, n, x, y, h, hc, hm, hf, hn => by omega
 | d + 1, m, f + 1, 0, x, y, h, hc, hm, hf, hn => by omega
 | d + 1, 0, f + 1, n + 1, x, y, h, hc, hm, hf, hn => by omega
 | d + 1, m + 1, f + 1, n + 1, x, y, h, hc, hm, hf, hn => by
  obtain ⟨h1, h2, h3⟩ := h
  obtain ⟨c1, c2, c3, c4⟩ := hc
  have hlen := c4.len
  have ex : ∀ {i : Int}, 0 ≤ i → i < (x.Kids.length : Int) → ∃ a b r, ix x.Kids i = some a ∧ ix y.Kids i = some b ∧ Jq f a = some r ∧ Jm n b = some r := fun h0 hi =>
   Sm.ix (c4.imp_mem fun a ha q hq => expression_rel d f n a q (h3 a ha) hq (by omega) (by omega)) h0 hi
  have bl : ∀ {i : Int}, 0 ≤ i → i < (x.Kids.length : Int) → ∃ a b r, ix x.Kids i = some a ∧ ix y.Kids i = some b ∧ JbK (Ja9 (m + 1)) f a = some r ∧ Jao (Jo n) n b = some r := fun {i} h0 hi => by
   obtain ⟨a, b, e1, e2, hp, ha⟩ := c4.ix h0 hi
   refine ⟨a, b, ?_⟩
   have ho := h3 a ha
   cases d with
   | zero => exact ho.elim
   | succ d =>
    obtain ⟨g1, g2, g3⟩ := ho
    obtain ⟨q1, q2, q3, q4⟩ := hp
    obtain ⟨v, v1, v2⟩ := all_L0_rel (g := Jo n) (m := m) (n := m) (q4.imp_mem fun a ha q hq => stated_rel d m m n a q (g3 a ha) hq (by omega) (by omega) (by omega)) 0 0
    refine ⟨(decide (a.Kind = 12) && decide (a.Text = [])) && v, e1, e2, ?_, ?_⟩
    ·unfold JbK
     rw [all_val (n := n) (by omega) v1, opt_if]; rfl
    ·rw [blocked_val (by rw [q4.len]; omega) v2, q1, q2]
  have st : ∀ {i : Int}, 0 ≤ i → i < (x.Kids.length : Int) → ∃ a b r, ix x.Kids i = some a ∧ ix y.Kids i = some b ∧ b.Kind = a.Kind ∧ J1 (Ja9 (m + 1)) f a = some r ∧ Jo n b = some r := fun {i} h0 hi => by
   obtain ⟨a, b, e1, e2, hp, ha⟩ := c4.ix h0 hi
   obtain ⟨r, r1, r2⟩ := stated_rel d (m + 1) f n a b (h3 a ha) hp (by omega) (by omega) (by omega)
   cases d with
   | zero => exact (h3 a ha).elim
   | succ d => exact ⟨a, b, r, e1, e2, hp.1, r1, r2⟩
  have one : ∃ b : Bool, (∀ c : Bool, (if c = true then (J9 (Jq f) f x.Kids 1).bind fun x85 => some x85 else some false) = some (c && b)) ∧
    ((if decide ((y.Kids.length : Int) = 1) then (ix y.Kids 0).bind fun x121 => (Jm n x121).bind fun x123 => some x123 else some false).bind fun x124 => some x124) = some b := by
   by_cases q : (x.Kids.length : Int) = 1
   ·obtain ⟨a, b, r, e1, e2, e3, e4⟩ := ex (i := 0) (by omega) (by omega)
    refine ⟨r, fun c => ?_, ?_⟩
    ·have hx : x.Kids = [a] := by
      match hk : x.Kids, q, e1 with
      | [z], _, e1 => cases e1; rfl
     have hb : Jau (Jq f) x.Kids 0 = some (gor r) := by
      rw [hx, Jau, e3, Option.bind_some]; cases r <;> rfl
     rw [exprs_val (by omega) hb, decide_eq_true q, Bool.and_true, opt_if]
    ·rw [hlen, if_pos (by simpa using q), e2, Option.bind_some, e4]; rfl
   ·obtain ⟨b, b1, b2, b3⟩ := exprs_L0_rel (c4.imp_mem fun a ha q hq => expression_rel d f n a q (h3 a ha) hq (by omega) (by omega)) 0 0
    refine ⟨false, fun c => ?_, ?_⟩
    ·rw [exprs_val (by omega) b1, decide_eq_false q, Bool.and_false, opt_if]
    ·rw [hlen, if_neg (by simpa using q)]; rfl
  obtain ⟨B, B1, B2⟩ := one
  by_cases k2 : x.Kind = 2
  ·unfold Sm
   have d2 : decide (x.Kind = 2) = true := decide_eq_true k2
   rw [J1, Jo, c1, c2, hlen, if_pos d2, if_pos d2]
   cases q : ((decide (x.Text ≠ ([] : Str)) || decide ((x.Kids.length : Int) < 2)) || decide ((x.Kids.length : Int) > 3)) with
   | true => exact ⟨false, rfl, rfl⟩
   | false =>
    simp only [Bool.or_eq_false_iff, decide_eq_false_iff_not] at q
    obtain ⟨a0, b0, r0, e1, e2, e3, e4⟩ := ex (i := 0) (by omega) (by omega)
    simp only [Bool.false_eq_true, if_false]
    rw [e1, e2]
    simp only [Option.bind_some]
    rw [e3, e4]
    simp only [Option.bind_some]
    cases r0 with
    | false => exact ⟨false, rfl, rfl⟩
    | true =>
     obtain ⟨a1, b1, r1, f1, f2, f3, f4⟩ := bl (i := 1) (by omega) (by omega)
     simp only [Option.bind_some, Bool.not_true, Bool.false_eq_true, if_false]
     rw [f1, f2]
     simp only [Option.bind_some]
     rw [f3, f4]
     simp only [Option.bind_some]
     cases r1 with
     | false => exact ⟨false, rfl, rfl⟩
     | true =>
      simp only [Option.bind_some, Bool.not_true, Bool.false_eq_true, if_false]
      by_cases k3 : (x.Kids.length : Int) = 2
      ·rw [decide_eq_true k3]; exact ⟨true, rfl, rfl⟩
      ·obtain ⟨a2, b2, r2, g1, g2, g3, g4⟩ := bl (i := 2) (by omega) (by omega)
       obtain ⟨a3, b3, r3, g5, g6, g7, g8, g9⟩ := st (i := 2) (by omega) (by omega)
       rw [g1] at g5
       rw [g2] at g6
       cases g5
       cases g6
       rw [decide_eq_false k3]
       simp only [Bool.false_eq_true, if_false]
       rw [g1, g2]
       simp only [Option.bind_some]
       rw [g3, g4]
       simp only [Option.bind_some]
       cases r2 with
       | true => exact ⟨true, rfl, rfl⟩
       | false =>
        simp only [Bool.false_eq_true, if_false]
        rw [g7]
        cases q3 : decide (a2.Kind = 2) with
        | false => exact ⟨false, rfl, rfl⟩
        | true =>
         simp only [if_true]
         rw [g8, g9]
         exact ⟨r3, rfl, rfl⟩
  by_cases k3 : x.Kind = 3
  ·refine ⟨nm x.Text && B, ?_, ?_⟩
   ·rw [J1, if_neg (by simpa using k2), if_pos (by simpa using k3), named2_eq (by omega), Option.bind_some, B1]; rfl
   ·rw [Jo, c1, c2, if_neg (by simpa using k2), if_neg (by simp [k3]), if_neg (by simp [k3]), if_neg (by simp [k3]), if_pos (by simpa using k3), named_eq (by omega), Option.bind_some, neg_if, B2]
    cases nm x.Text <;> rfl
  by_cases k4 : x.Kind = 4
  ·refine ⟨(decide (x.Text = ([112, 97, 116, 104] : Str)) || decide (x.Text = ([113, 117, 101, 114, 121] : Str))) && B, ?_, ?_⟩
   ·rw [J1, if_neg (by simpa using k2), if_neg (by simpa using k3), if_pos (by simpa using k4), B1]; rfl
   ·rw [Jo, c1, c2, if_neg (by simpa using k2), if_neg (by simp [k4]), if_neg (by simp [k4]), if_neg (by simp [k4]), if_neg (by simpa using k3), if_pos (by simpa using k4), B2]
    by_cases t1 : x.Text = ([112, 97, 116, 104] : Str)
    ·rw [if_neg (by simp [t1]), decide_eq_true t1]; rfl
    ·by_cases t2 : x.Text = ([113, 117, 101, 114, 121] : Str)
     ·rw [if_neg (by simp [t2]), decide_eq_true t2, Bool.or_true]; rfl
     ·rw [if_pos (by simp [t1, t2]), decide_eq_false t1, decide_eq_false t2]; rfl
  by_cases k5 : x.Kind = 5
  ·refine ⟨prt x.Text && B, ?_, ?_⟩
   ·rw [J1, if_neg (by simpa using k2), if_neg (by simpa using k3), if_neg (by simpa using k4), if_pos (by simpa using k5), printable2_eq h1, Option.bind_some, B1]; rfl
   ·rw [Jo, c1, c2, if_neg (by simpa using k2), if_neg (by simp [k5]), if_neg (by simp [k5]), if_neg (by simp [k5]), if_neg (by simpa using k3), if_neg (by simpa using k4), if_pos (by simpa using k5), printable_eq h1, Option.bind_some, neg_if, B2]
    cases prt x.Text <;> rfl
  by_cases k6 : x.Kind = 6
  ·refine ⟨prt x.Text && decide ((x.Kids.length : Int) = 0), ?_, ?_⟩
   ·rw [J1, if_neg (by simpa using k2), if_neg (by simpa using k3), if_neg (by simpa using k4), if_neg (by simpa using k5), if_pos (by simpa using k6), printable2_eq h1, Option.bind_some]
   ·rw [Jo, c1, c2, hlen, if_neg (by simpa using k2), if_pos (by simpa using k6), printable_eq h1, Option.bind_some]
  have txt : ∀ {C : Option Bool}, (if decide (x.Text ≠ ([] : Str)) = true then some false else C) = if decide (x.Text = ([] : Str)) = true then C else some false := fun {C} => by
   by_cases q : x.Text = []
   ·rw [if_neg (by simp [q]), if_pos (by simpa using q)]
   ·rw [if_pos (by simpa using q), if_neg (by simpa using q)]
  by_cases k7 : x.Kind = 7
  ·refine ⟨decide (x.Text = []) && B, ?_, ?_⟩
   ·rw [J1, if_neg (by simpa using k2), if_neg (by simpa using k3), if_neg (by simpa using k4), if_neg (by simpa using k5), if_neg (by simpa using k6), if_pos (by simpa using k7), B1]; rfl
   ·rw [Jo, c1, c2, if_neg (by simpa using k2), if_neg (by simpa using k6), if_neg (by simp [k7]), if_neg (by simp [k7]), if_neg (by simpa using k3), if_neg (by simpa using k4), if_neg (by simpa using k5), if_pos (by simpa using k7), txt, B2]
    cases decide (x.Text = []) <;> rfl
  by_cases k8 : x.Kind = 8
  ·refine ⟨decide (x.Text = []) && B, ?_, ?_⟩
   ·rw [J1, if_neg (by simpa using k2), if_neg (by simpa using k3), if_neg (by simpa using k4), if_neg (by simpa using k5), if_neg (by simpa using k6), if_neg (by simpa using k7), if_pos (by simpa using k8), B1]; rfl
   ·rw [Jo, c1, c2, if_neg (by simpa using k2), if_neg (by simpa using k6), if_neg (by simp [k8]), if_neg (by simp [k8]), if_neg (by simpa using k3), if_neg (by simpa using k4), if_neg (by simpa using k5), if_neg (by simpa using k7), if_pos (by simpa using k8), txt, B2]
    cases decide (x.Text = []) <;> rfl
  by_cases k9 : x.Kind = 9
  ·refine ⟨decide (x.Text = []) && B, ?_, ?_⟩
   ·rw [J1, if_neg (by simpa using k2), if_neg (by simpa using k3), if_neg (by simpa using k4), if_neg (by simpa using k5), if_neg (by simpa using k6), if_neg (by simpa using k7), if_neg (by simpa using k8), if_pos (by simpa using k9), B1]; rfl
   ·rw [Jo, c1, c2, if_neg (by simpa using k2), if_neg (by simpa using k6), if_neg (by simp [k9]), if_neg (by simp [k9]), if_neg (by simpa using k3), if_neg (by simpa using k4), if_neg (by simpa using k5), if_neg (by simpa using k7), if_neg (by simpa using k8), if_pos (by simpa using k9), txt, B2]
    cases decide (x.Text = []) <;> rfl
  by_cases k10 : x.Kind = 10
  ·refine ⟨decide (x.Text = []) && decide ((x.Kids.length : Int) = 0), ?_, ?_⟩
   ·rw [J1, if_neg (by simpa using k2), if_neg (by simpa using k3), if_neg (by simpa using k4), if_neg (by simpa using k5), if_neg (by simpa using k6), if_neg (by simpa using k7), if_neg (by simpa using k8), if_neg (by simpa using k9), if_pos (by simpa using k10)]
   ·rw [Jo, c1, c2, hlen, if_neg (by simpa using k2), if_neg (by simpa using k6), if_pos (by simpa using k10)]
  by_cases k11 : x.Kind = 11
  ·refine ⟨decide (x.Text = []) && decide ((x.Kids.length : Int) = 0), ?_, ?_⟩
   ·rw [J1, if_neg (by simpa using k2), if_neg (by simpa using k3), if_neg (by simpa using k4), if_neg (by simpa using k5), if_neg (by simpa using k6), if_neg (by simpa using k7), if_neg (by simpa using k8), if_neg (by simpa using k9), if_neg (by simpa using k10), if_pos (by simpa using k11)]
   ·rw [Jo, c1, c2, hlen, if_neg (by simpa using k2), if_neg (by simpa using k6), if_neg (by simpa using k10), if_pos (by simpa using k11)]
  ·refine ⟨false, ?_, ?_⟩
   ·rw [J1, if_neg (by simpa using k2), if_neg (by simpa using k3), if_neg (by simpa using k4), if_neg (by simpa using k5), if_neg (by simpa using k6), if_neg (by simpa using k7), if_neg (by simpa using k8), if_neg (by simpa using k9), if_neg (by simpa using k10), if_neg (by simpa using k11)]
   ·rw [Jo, c1, if_neg (by simpa using k2), if_neg (by simpa using k6), if_neg (by simpa using k10), if_neg (by simpa using k11), if_neg (by simpa using k3), if_neg (by simpa using k4), if_neg (by simpa using k5), if_neg (by simpa using k7), if_neg (by simpa using k8), if_neg (by simpa using k9)]
theorem size_L0 {f : N → Option Int} {d : Nat} : ∀ (l : List N) (i : Nat) (y : Int), (∀ k ∈ l, f k = some (cntN d k : Int)) → 0 ≤ y → y + cntNL d l ≤ 1000000 → Ja6 f l i y = some (y + cntNL d l)
 | [], i, y, _, _, _ => by simp [Ja6, cntNL]
 | k :: l, i, y, h, h0, hy => by
  rw [cntNL_cons] at hy
  rw [Ja6, h k (by simp), Option.bind_some, chk_bind (by constructor <;> omega), size_L0 l (i + 1) _ (fun q hq => h q (by simp [hq])) (by omega) (by omega), cntNL_cons]
  congr 1; omega
theorem cntNL_mem {d : Nat} : ∀ {l : List N} {k : N}, k ∈ l → cntN d k ≤ cntNL d l
 | a :: l, k, h => by
  rw [cntNL_cons]
  rcases List.mem_cons.1 h with rfl | h
  ·omega
  ·have := cntNL_mem (d := d) h; omega
theorem size_val : ∀ (d n : Nat) (x : N), OkN d x → d ≤ n → cntN d x ≤ 10000 → JbJ n x = some (cntN d x : Int)
 | d + 1, 0, x, h, hn, hc => by omega
 | d + 1, n + 1, x, h, hn, hc => by
  obtain ⟨h1, h2, h3⟩ := h
  rw [cntN_eq] at hc
  rw [JbJ, chk_bind (by simp only [szMax]; omega), size_L0 x.Kids 0 1 (fun k hk => size_val d n k (h3 k hk) (by omega) (by have := cntNL_mem (d := d) hk; omega)) (by omega) (by omega), Option.bind_some, cntN_eq]
  congr 1
def depN : Nat → N → Nat
 | 0, _ => 0
 | d + 1, x => 1 + x.Kids.foldl (fun a k => max a (depN d k)) 0
def depNL (d : Nat) (l : List N) (a : Nat) : Nat := l.foldl (fun a k => max a (depN d k)) a
theorem depNL_le (d : Nat) : ∀ (l : List N) (a e : Nat), depNL d l a ≤ e ↔ a ≤ e ∧ ∀ k ∈ l, depN d k ≤ e
 | [], a, e => by simp [depNL]
 | k :: l, a, e => by
  show depNL d l (max a (depN d k)) ≤ e ↔ _
  rw [depNL_le d l]
  simp only [List.mem_cons, Nat.max_le]
  constructor
  ·exact fun ⟨⟨h1, h2⟩, h3⟩ => ⟨h1, fun q hq => hq.elim (fun e => e ▸ h2) (h3 q)⟩
  ·exact fun ⟨h1, h2⟩ => ⟨⟨h1, h2 k (.inl rfl)⟩, fun q hq => h2 q (.inr hq)⟩
theorem depN_le : ∀ (d : Nat) (x : N), depN d x ≤ d
 | 0, x => Nat.le_refl _
 | d + 1, x => by
  have : depNL d x.Kids 0 ≤ d := (depNL_le d x.Kids 0 d).2 ⟨by omega, fun k _ => depN_le d k⟩
  show 1 + depNL d x.Kids 0 ≤ d + 1
  omega
theorem depth_L0 {f : N → Option Int} {d : Nat} : ∀ (l : List N) (i a : Nat), (∀ k ∈ l, f k = some (depN d k : Int)) → Jbf f l i (a : Int) = some (depNL d l a : Int)
 | [], i, a, _ => rfl
 | k :: l, i, a, h => by
  rw [Jbf, h k (by simp), Option.bind_some, show max (a : Int) (depN d k : Int) = ((max a (depN d k) : Nat) : Int) from by omega]
  exact depth_L0 l (i + 1) _ fun q hq => h q (by simp [hq])
theorem depth_val : ∀ (d n : Nat) (x : N), OkN d x → d ≤ n → d ≤ 1000 → Jbz n x = some (depN d x : Int)
 | d + 1, 0, x, h, hn, hd => by omega
 | d + 1, n + 1, x, h, hn, hd => by
  obtain ⟨h1, h2, h3⟩ := h
  have := depN_le (d + 1) x
  have e : depN (d + 1) x = 1 + depNL d x.Kids 0 := rfl
  rw [Jbz, chk_bind (by simp only [szMax]; omega), show (0 : Int) = ((0 : Nat) : Int) from rfl, depth_L0 x.Kids 0 0 fun k hk => depth_val d n k (h3 k hk) (by omega) (by omega), Option.bind_some, chk_bind (by constructor <;> omega), e]
  congr 1; omega
theorem small_L0_val {d : Nat} {e : Int} {f : M → Int → Int → Option (Bool × Int)} (he : 0 < e ∧ e ≤ 1000) {l : List N} {k : List M} (h : A2 (fun x y => ∀ z : Int, 0 ≤ z → z ≤ 1000 → ∃ m, f y z (e - 1) = some (decide ((cntN d x : Int) ≤ z ∧ (depN d x : Int) ≤ e - 1), m) ∧ ((cntN d x : Int) ≤ z ∧ (depN d x : Int) ≤ e - 1 → m = z - cntN d x)) l k) :
  ∀ (i : Nat) (z : Int), 0 ≤ z → z ≤ 1000 → ∃ r, JaC e f k i z = some r ∧ ((cntNL d l : Int) ≤ z ∧ (∀ q ∈ l, (depN d q : Int) ≤ e - 1) → r = Fl.go (z - cntNL d l)) ∧ (¬ ((cntNL d l : Int) ≤ z ∧ ∀ q ∈ l, (depN d q : Int) ≤ e - 1) → ∃ m, r = Fl.ret (false, m)) := by
 induction h with
 | nil => exact fun i z h0 h1 => ⟨_, rfl, fun _ => by simp [cntNL], fun h => (h ⟨by simpa [cntNL] using h0, by simp⟩).elim⟩
 | cons hp _ ih =>
  rename_i x y l k _
  intro i z h0 h1
  obtain ⟨m, e1, e2⟩ := hp z h0 h1
  rw [JaC, chk_bind (by constructor <;> omega), e1, Option.bind_some, cntNL_cons]
  by_cases q : (cntN d x : Int) ≤ z ∧ (depN d x : Int) ≤ e - 1
  ·obtain rfl := e2 q
   obtain ⟨r, r1, r2, r3⟩ := ih (i + 1) (z - cntN d x) (by omega) (by omega)
   rw [if_neg (by simp [q])]
   refine ⟨r, r1, fun g => ?_, fun g => ?_⟩
   ·rw [r2 ⟨by omega, fun q hq => g.2 q (by simp [hq])⟩]; congr 1; omega
   ·exact r3 fun g' => g ⟨by omega, fun p hp => by
     rcases List.mem_cons.1 hp with rfl | hp
     ·exact q.2
     ·exact g'.2 p hp⟩
  ·rw [if_pos (by simp only [decide_eq_false q]; rfl)]
   exact ⟨_, rfl, fun g => (q ⟨by omega, g.2 x (by simp)⟩).elim, fun _ => ⟨m, rfl⟩⟩
theorem small_val : ∀ (d n : Nat) (x : N) (y : M) (z e : Int), OkN d x → Cvd d x y → d ≤ n → 0 ≤ z → z ≤ 1000 → 0 ≤ e → e ≤ 1000 → ∃ m, JaE n y z e = some (decide ((cntN d x : Int) ≤ z ∧ (depN d x : Int) ≤ e), m) ∧ ((cntN d x : Int) ≤ z ∧ (depN d x : Int) ≤ e → m = z - cntN d x)
 | d + 1, 0, x, y, z, e, h, hc, hn, h0, h1, e0, e1 => by omega
 | d + 1, n + 1, x, y, z, e, h, hc, hn, h0, h1, e0, e1 => by
  obtain ⟨g1, g2, g3⟩ := h
  obtain ⟨c1, c2, c3, c4⟩ := hc
  have ed : depN (d + 1) x = 1 + depNL d x.Kids 0 := rfl
  rw [JaE, chk_bind (by constructor <;> omega), cntN_eq]
  cases q : (decide (z - 1 < 0) || decide (e < 1)) with
  | true =>
   rw [if_pos rfl]
   have : ¬ (((1 + cntNL d x.Kids : Nat) : Int) ≤ z ∧ ((depN (d + 1) x : Nat) : Int) ≤ e) := by
    simp only [Bool.or_eq_true, decide_eq_true_eq] at q
    omega
   exact ⟨z - 1, by rw [decide_eq_false this], fun h => absurd h this⟩
  | false =>
   simp only [Bool.or_eq_false_iff, decide_eq_false_iff_not] at q
   obtain ⟨r, r1, r2, r3⟩ := small_L0_val (d := d) (e := e) (f := JaE n) (by omega) (c4.imp_mem fun a ha b hb z y0 y1 => small_val d n a b z (e - 1) (g3 a ha) hb (by omega) y0 y1 (by omega) (by omega)) 0 (z - 1) (by omega) (by omega)
   rw [if_neg (by simp), chk_bind (by simp only [szMax]; rw [c4.len]; omega), r1, Option.bind_some]
   have key : (((1 + cntNL d x.Kids : Nat) : Int) ≤ z ∧ ((depN (d + 1) x : Nat) : Int) ≤ e) ↔ ((cntNL d x.Kids : Int) ≤ z - 1 ∧ ∀ q ∈ x.Kids, (depN d q : Int) ≤ e - 1) := by
    have hd := depNL_le d x.Kids 0 (e - 1).toNat
    constructor
    ·intro ⟨a1, a2⟩
     refine ⟨by omega, fun k hk => ?_⟩
     have := (hd.1 (by omega)).2 k hk
     omega
    ·intro ⟨a1, a2⟩
     refine ⟨by omega, ?_⟩
     have := hd.2 ⟨by omega, fun k hk => by have := a2 k hk; omega⟩
     omega
   by_cases q3 : (cntNL d x.Kids : Int) ≤ z - 1 ∧ ∀ q ∈ x.Kids, (depN d q : Int) ≤ e - 1
   ·rw [r2 q3, el_go]
    exact ⟨_, by rw [decide_eq_true (key.2 q3)], fun _ => by omega⟩
   ·obtain ⟨m, rfl⟩ := r3 q3
    have nk : ¬ (((1 + cntNL d x.Kids : Nat) : Int) ≤ z ∧ ((depN (d + 1) x : Nat) : Int) ≤ e) := fun h => q3 (key.1 h)
    rw [el_ret]
    exact ⟨m, by rw [decide_eq_false nk], fun h => absurd h nk⟩
theorem Valid_rel {d n : Nat} {x : N} {y : M} (h : OkN (d + 1) x) (hc : Cvd (d + 1) x y) (hd : d + 1 ≤ 1000) (hn : d + 10002 ≤ n) (hs : cntN (d + 1) x ≤ 10000) : Sm (JbI n) (Jak n) x y := by
 obtain ⟨m, hm1, hm2⟩ := small_val (d + 1) n x y 512 32 h hc (by omega) (by omega) (by omega) (by omega) (by omega)
 have hz := size_val (d + 1) n x h (by omega) hs
 have hp := depth_val (d + 1) n x h (by omega) (by omega)
 obtain ⟨k, rfl⟩ : ∃ k, n = k + 1 := ⟨n - 1, by omega⟩
 obtain ⟨g1, g2, g3⟩ := h
 obtain ⟨c1, c2, c3, c4⟩ := hc
 obtain ⟨v, v1, v2⟩ := all_L0_rel (g := Jo (k + 1)) (m := k) (n := k) (c4.imp_mem fun a ha q hq => stated_rel d k k (k + 1) a q (g3 a ha) hq (by omega) (by omega) (by omega)) 0 0
 unfold Sm JbI Jak
 rw [c1, c2]
 by_cases q1 : x.Kind = 1
 ·by_cases q2 : x.Text = []
  ·rw [if_pos (by simp [q1, q2]), if_neg (by simp [q1, q2]), hz, hm1, Option.bind_some, Option.bind_some, Option.bind_some]
   by_cases q3 : (cntN (d + 1) x : Int) ≤ 512
   ·rw [if_pos (by simpa using q3), hp, Option.bind_some, Option.bind_some]
    by_cases q4 : (depN (d + 1) x : Int) ≤ 32
    ·rw [if_pos (by simpa using q4), if_neg (by simp [q3, q4]), chk_bind (by simp only [szMax]; rw [c4.len]; omega), all_val (n := k) (by omega) v1, valid_L0_blocked y.Kids 0 0, v2, Option.bind_some, Option.bind_some]
     refine ⟨v, rfl, ?_⟩
     rw [Option.bind_some, gor_el, Bool.and_true]
    ·rw [if_neg (by simpa using q4), if_pos (by simp; omega)]; exact ⟨false, rfl, rfl⟩
   ·rw [if_neg (by simpa using q3), if_pos (by simp; omega)]; exact ⟨false, rfl, rfl⟩
  ·rw [if_neg (by simp [q2]), if_pos (by simp [q2])]; exact ⟨false, rfl, rfl⟩
 ·rw [if_neg (by simp [q1]), if_pos (by simp [q1])]; exact ⟨false, rfl, rfl⟩
end Rt
set_option linter.unusedVariables false
set_option linter.unusedSimpArgs false
open Go Go.SL Go.Proofs Pl
namespace Rt
theorem fail_some {a e : Int} {x : M} {f : Err} : JB ⟨a, some e⟩ x f = some ⟨a, some e⟩ := rfl
theorem fail_new {a : Int} {x : M} {f : Err} : JB ⟨a, none⟩ x f = some ⟨x.Line, f⟩ := rfl
theorem cexpr_L0_same {f : Ck → M → List Bd → Option (Int × Ck)} {env : List Bd} {a e : Int} (hf : ∀ k r, f ⟨a, some e⟩ k env = some r → r.2 = ⟨a, some e⟩) : ∀ (l : List M) (i : Nat) (y : List Int) (r : Fl (Int × Ck) (List Int × Int × Err)), JE f env l i y a (some e) = some r →
  (∀ z, r = Fl.ret z → z.2 = ⟨a, some e⟩) ∧ ∀ z, r = Fl.go z → z.2.1 = a ∧ z.2.2 = some e
 | [], i, y, r, h => by
  cases h
  exact ⟨fun z q => (by cases q), fun z q => by cases q; exact ⟨rfl, rfl⟩⟩
 | k :: l, i, y, r, h => by
  rw [JE] at h
  obtain ⟨x, hx, h1⟩ := bnd h
  obtain ⟨_, h2⟩ := chkb h1
  have hs := hf _ _ hx
  rw [hs, if_pos (by simp)] at h2
  cases h2
  exact ⟨fun z q2 => (by cases q2; rfl), fun z q => by cases q⟩
theorem call_same {a e : Int} {x : M} {l : List Int} {r : Int × Ck} (h : J0 ⟨a, some e⟩ x l = some r) : r.2 = ⟨a, some e⟩ := by
 unfold J0 at h
 obtain ⟨f, hf, h1⟩ := bnd h
 split at h1
 ·rw [fail_some] at h1; cases h1; rfl
 ·obtain ⟨b, hb, h2⟩ := bnd h1
  split at h2
  ·rw [fail_some] at h2; cases h2; rfl
  ·cases h2; rfl
theorem cexpr_same {env : List Bd} {a e : Int} : ∀ (n : Nat) (x : M) (r : Int × Ck), Jz n ⟨a, some e⟩ x env = some r → r.2 = ⟨a, some e⟩
 | 0, x, r, h => by rw [Jz] at h; cases h
 | n + 1, x, r, h => by
  rw [Jz] at h
  obtain ⟨_, h1⟩ := chkb h
  obtain ⟨s, hs, h2⟩ := bnd h1
  obtain ⟨g1, g2⟩ := cexpr_L0_same (a := a) (e := e) (fun k r => cexpr_same n k r) x.Kids 0 [] s hs
  cases s with
  | ret z => rw [el_ret] at h2; cases h2; exact g1 _ rfl
  | go z =>
   obtain ⟨z1, z2, z3⟩ := z
   obtain ⟨k1, k2⟩ := g2 _ rfl
   simp only at k1 k2
   subst k1
   subst k2
   rw [el_go] at h2
   by_cases q20 : x.Kind = 20
   ·rw [if_pos (by simpa using q20)] at h2; cases h2; rfl
   rw [if_neg (by simpa using q20)] at h2
   by_cases q21 : x.Kind = 21
   ·rw [if_pos (by simpa using q21)] at h2; cases h2; rfl
   rw [if_neg (by simpa using q21)] at h2
   by_cases q22 : x.Kind = 22
   ·rw [if_pos (by simpa using q22)] at h2; cases h2; rfl
   rw [if_neg (by simpa using q22)] at h2
   by_cases q23 : x.Kind = 23
   ·rw [if_pos (by simpa using q23)] at h2
    obtain ⟨u, hu, h3⟩ := bnd h2
    split at h3
    ·rw [fail_some] at h3; cases h3; rfl
    ·cases h3; rfl
   rw [if_neg (by simpa using q23)] at h2
   by_cases q24 : x.Kind = 24
   ·rw [if_pos (by simpa using q24)] at h2
    obtain ⟨u, hu, h3⟩ := bnd h2
    cases h3; exact call_same hu
   rw [if_neg (by simpa using q24)] at h2
   obtain ⟨u, hu, h3⟩ := bnd h2
   split at h3
   ·rw [fail_some] at h3; cases h3; rfl
   ·cases h3; rfl
theorem block_L0_same {n : Nat} {f : Ck → List M → List Bd → Option Ck} {a e : Int} : ∀ (l : List M) (i : Nat) (env : List Bd) (r : Fl Ck (List Bd × Int × Err)), Jn n f l i env a (some e) = some r →
  (∀ z, r = Fl.ret z → z = ⟨a, some e⟩) ∧ ∀ z, r = Fl.go z → z.2.1 = a ∧ z.2.2 = some e
 | [], i, env, r, h => by
  cases h
  exact ⟨fun z q => (by cases q), fun z q => by cases q; exact ⟨rfl, rfl⟩⟩
 | x :: l, i, env, r, h => by
  rw [Jn] at h
  cases q : decide ((x.Kids.length : Int) = 0) with
  | true => rw [q, if_pos rfl] at h; exact block_L0_same l (i + 1) env r h
  | false =>
   rw [q, if_neg (by simp)] at h
   obtain ⟨k, hk, h1⟩ := bnd h
   obtain ⟨t, ht, h2⟩ := bnd h1
   obtain ⟨nd, _, h3⟩ := bnd h2
   have hs := cexpr_same n _ _ ht
   rw [hs, if_neg (by simp), if_pos (by simp)] at h3
   cases h3
   exact ⟨fun z q3 => (by cases q3; rfl), fun z q => by cases q⟩
theorem block_same : ∀ (n : Nat) (a e : Int) (l : List M) (env : List Bd) (r : Ck), Js n ⟨a, some e⟩ l env = some r → r = ⟨a, some e⟩
 | 0, a, e, l, env, r, h => by rw [Js] at h; cases h
 | n + 1, a, e, l, env, r, h => by
  rw [Js] at h
  obtain ⟨_, h1⟩ := chkb h
  obtain ⟨s, hs, h2⟩ := bnd h1
  obtain ⟨g1, g2⟩ := block_L0_same l 0 env s hs
  cases s with
  | ret z => rw [el_ret] at h2; cases h2; exact g1 _ rfl
  | go z =>
   rw [el_go] at h2; cases h2
   obtain ⟨k1, k2⟩ := g2 z rfl
   rw [k1, k2]
abbrev Env := Str → Int
abbrev Fault := Int × Int
def base : Env := fun s => if pre s then 1 else 0
def ext (ρ : Env) (s : Str) (t : Int) : Env := fun q => if s = q then t else ρ q
def lkf (env : List Bd) : Env := fun s => lk s env
theorem lkf_nil : lkf [] = base := rfl
theorem lkf_snoc (env : List Bd) (s : Str) (t : Int) : lkf (env ++ [⟨s, t⟩]) = ext (lkf env) s t := by
 funext q; exact lk_snoc q env ⟨s, t⟩
def kidsE (f : M → Except Fault Int) : List M → Except Fault (List Int)
 | [] => .ok []
 | k :: l => match f k with
  | .error e => .error e
  | .ok t => match kidsE f l with
   | .error e => .error e
   | .ok ts => .ok (t :: ts)
noncomputable def fnc (s : Str) : Int × Int := (J6 s).getD (0, 0)
noncomputable def opr (x : M) (ts : List Int) : Int := (JU x ts).getD 0
noncomputable def tyN (ρ : Env) (x : M) (ts : List Int) : Except Fault Int :=
 if x.Kind = 20 then .ok 2
 else if x.Kind = 21 then .ok 1
 else if x.Kind = 22 then .ok 3
 else if x.Kind = 23 then (if ρ x.Text = 0 then .error (x.Line, 8) else .ok (ρ x.Text))
 else if x.Kind = 24 then (if (fnc x.Text).2 = 0 then .error (x.Line, 8) else if ts = [(fnc x.Text).1] then .ok (fnc x.Text).2 else .error (x.Line, 9))
 else if opr x ts = 0 then .error (x.Line, 9) else .ok (opr x ts)
noncomputable def tyE : Nat → Env → M → Except Fault Int
 | 0, _, _ => .error (0, 9)
 | d + 1, ρ, x => match kidsE (tyE d ρ) x.Kids with
  | .error e => .error e
  | .ok ts => tyN ρ x ts
theorem kidsE_len {f : M → Except Fault Int} : ∀ {l : List M} {ts : List Int}, kidsE f l = .ok ts → ts.length = l.length
 | [], ts, h => by cases h; rfl
 | k :: l, ts, h => by
  rw [kidsE] at h
  cases q : f k with
  | error e => rw [q] at h; cases h
  | ok t =>
   rw [q] at h
   simp only at h
   cases q2 : kidsE f l with
   | error e => rw [q2] at h; cases h
   | ok us => rw [q2] at h; cases h; simp [kidsE_len q2]
def Res (a : Int) (r : Except Fault Int) (t : Int) (c : Ck) : Prop := match r with
 | .ok v => t = v ∧ c = ⟨a, none⟩
 | .error e => c = ⟨e.1, some e.2⟩
theorem cexpr_L0_pure {f : Ck → M → List Bd → Option (Int × Ck)} {g : M → Except Fault Int} {env : List Bd} {a : Int} : ∀ (l : List M) (i : Nat) (y : List Int), (∀ k ∈ l, ∃ t c, f ⟨a, none⟩ k env = some (t, c) ∧ Res a (g k) t c) → y.length + l.length ≤ 1000 →
  ∃ r, JE f env l i y a none = some r ∧ match kidsE g l with
   | .ok ts => r = Fl.go (y ++ ts, a, none)
   | .error e => r = Fl.ret (0, ⟨e.1, some e.2⟩)
 | [], i, y, _, _ => ⟨_, rfl, by simp [kidsE]⟩
 | k :: l, i, y, h, hy => by
  simp only [List.length_cons] at hy
  obtain ⟨t, c, hr, hq⟩ := h k (by simp)
  rw [JE, hr, Option.bind_some, chk_bind (by simp only [lim, List.length_cons, List.length_nil]; omega), kidsE]
  unfold Res at hq
  cases q : g k with
  | error e =>
   rw [q] at hq
   simp only at hq
   subst hq
   exact ⟨_, if_pos rfl, rfl⟩
  | ok v =>
   rw [q] at hq
   simp only at hq
   obtain ⟨rfl, rfl⟩ := hq
   simp only [Option.isSome_none, Bool.false_eq_true, if_false]
   obtain ⟨r, hr, h2⟩ := cexpr_L0_pure (f := f) (g := g) (env := env) (a := a) l (i + 1) (y ++ [t]) (fun k hk => h k (by simp [hk])) (by simp only [List.length_append, List.length_cons, List.length_nil]; omega)
   refine ⟨r, hr, ?_⟩
   cases q2 : kidsE g l with
   | error e => rw [q2] at h2; exact h2
   | ok ts => rw [q2] at h2; rw [h2]; simp
theorem fnc_eq (s : Str) : J6 s = some (fnc s) := by
 obtain ⟨r, hr⟩ := function_ok s
 unfold fnc; rw [hr]; rfl
theorem opr_eq {x : M} {l : List Int} (h : l.length ≤ 1000) (h16 : x.Kind = 16 → l.length = 2) : JU x l = some (opr x l) := by
 obtain ⟨r, hr⟩ := operator_ok h h16
 unfold opr; rw [hr]; rfl
theorem call_pure {a : Int} {x : M} {l : List Int} : J0 ⟨a, none⟩ x l = some ((fnc x.Text).2, if (fnc x.Text).2 = 0 then ⟨x.Line, some 8⟩ else if l = [(fnc x.Text).1] then ⟨a, none⟩ else ⟨x.Line, some 9⟩) := by
 unfold J0
 rw [fnc_eq, Option.bind_some]
 by_cases q : (fnc x.Text).2 = 0
 ·rw [if_pos (by simpa using q), fail_new, if_pos q]; rfl
 ·rw [if_neg (by simpa using q), if_neg q]
  match l with
  | [] => rw [if_pos (by simp), Option.bind_some, if_pos rfl, fail_new, if_neg (by simp)]; rfl
  | [t] =>
   rw [if_neg (by simp), show ix [t] 0 = some t from rfl, Option.bind_some, Option.bind_some]
   by_cases q2 : t = (fnc x.Text).1
   ·rw [if_neg (by simpa using q2), if_pos (by rw [q2])]
   ·rw [if_pos (by simpa using q2), fail_new, if_neg (by simpa using q2)]; rfl
  | t :: u :: l => rw [if_pos (by simp; omega), Option.bind_some, if_pos rfl, fail_new, if_neg (by simp)]; rfl
theorem cexpr_pure {env : List Bd} (he : env.length ≤ 100000) {a : Int} : ∀ (d n m : Nat) (x : M), Ok d x → Jm m x = some true → d + 200000 ≤ n → ∃ t c, Jz n ⟨a, none⟩ x env = some (t, c) ∧ Res a (tyE d (lkf env) x) t c
 | d + 1, 0, m, x, _, _, hn => by omega
 | d + 1, n + 1, m, x, h, hv, hn => by
  obtain ⟨h1, h2, h3⟩ := h
  obtain ⟨m', k, rfl, hk, k2, k3, k4⟩ := expression_inv hv
  obtain ⟨r, hr, hl⟩ := cexpr_L0_pure (f := Jz n) (g := tyE d (lkf env)) (env := env) (a := a) x.Kids 0 [] (fun q hq => cexpr_pure he d n m' q (h3 q hq) (k4 q hq) (by omega)) (by simp <;> omega)
  rw [Jz, chk_bind (by simp only [szMax]; omega), hr, Option.bind_some, tyE]
  cases q : kidsE (tyE d (lkf env)) x.Kids with
  | error e =>
   rw [q] at hl
   simp only at hl
   subst hl
   exact ⟨_, _, rfl, rfl⟩
  | ok ts =>
   rw [q] at hl
   simp only [List.nil_append] at hl
   subst hl
   have hlen := kidsE_len q
   simp only [el_go, tyN]
   by_cases q20 : x.Kind = 20
   ·rw [if_pos (by simpa using q20), if_pos q20]; exact ⟨_, _, rfl, rfl, rfl⟩
   rw [if_neg (by simpa using q20), if_neg q20]
   by_cases q21 : x.Kind = 21
   ·rw [if_pos (by simpa using q21), if_pos q21]; exact ⟨_, _, rfl, rfl, rfl⟩
   rw [if_neg (by simpa using q21), if_neg q21]
   by_cases q22 : x.Kind = 22
   ·rw [if_pos (by simpa using q22), if_pos q22]; exact ⟨_, _, rfl, rfl, rfl⟩
   rw [if_neg (by simpa using q22), if_neg q22]
   by_cases q23 : x.Kind = 23
   ·rw [if_pos (by simpa using q23), if_pos q23, lookup_eq he (by omega), Option.bind_some]
    by_cases q0 : lk x.Text env = 0
    ·rw [if_pos (by simpa using q0), fail_new, Option.bind_some, if_pos (show lkf env x.Text = 0 from q0)]; exact ⟨_, _, rfl, rfl⟩
    ·rw [if_neg (by simpa using q0), if_neg (show ¬ lkf env x.Text = 0 from q0)]; exact ⟨_, _, rfl, rfl, rfl⟩
   rw [if_neg (by simpa using q23), if_neg q23]
   by_cases q24 : x.Kind = 24
   ·rw [if_pos (by simpa using q24), if_pos q24, call_pure, Option.bind_some]
    refine ⟨_, _, rfl, ?_⟩
    by_cases q0 : (fnc x.Text).2 = 0
    ·rw [if_pos q0, if_pos q0]; rfl
    ·rw [if_neg q0, if_neg q0]
     by_cases q1 : ts = [(fnc x.Text).1]
     ·rw [if_pos q1, if_pos q1]; exact ⟨rfl, rfl⟩
     ·rw [if_neg q1, if_neg q1]; rfl
   rw [if_neg (by simpa using q24), if_neg q24, opr_eq (by omega) fun h16 => by
    rcases operands_16 h16 hk with rfl | rfl
    ·have := k3 (by omega); omega
    ·exact absurd rfl k2]
   rw [Option.bind_some]
   by_cases q0 : opr x ts = 0
   ·rw [if_pos (by simpa using q0), fail_new, Option.bind_some, if_pos q0]; exact ⟨_, _, rfl, rfl⟩
   ·rw [if_neg (by simpa using q0), if_neg q0]; exact ⟨_, _, rfl, rfl, rfl⟩
def nds (k : Int) : Int := if k = 2 then 3 else if k = 4 then 1 else if k = 5 then 1 else if k = 7 then 1 else if k = 8 then 2 else if k = 9 then 2 else 0
theorem nds_eq (x : M) : Jbe x = some (nds x.Kind) := by
 unfold Jbe nds
 by_cases h1 : x.Kind = 2; · rw [if_pos (by simpa using h1), if_pos h1]
 rw [if_neg (by simpa using h1), if_neg h1]
 by_cases h2 : x.Kind = 4; · rw [if_pos (by simpa using h2), if_pos h2]
 rw [if_neg (by simpa using h2), if_neg h2]
 by_cases h3 : x.Kind = 5; · rw [if_pos (by simpa using h3), if_pos h3]
 rw [if_neg (by simpa using h3), if_neg h3]
 by_cases h4 : x.Kind = 7; · rw [if_pos (by simpa using h4), if_pos h4]
 rw [if_neg (by simpa using h4), if_neg h4]
 by_cases h5 : x.Kind = 8; · rw [if_pos (by simpa using h5), if_pos h5]
 rw [if_neg (by simpa using h5), if_neg h5]
 by_cases h6 : x.Kind = 9; · rw [if_pos (by simpa using h6), if_pos h6]
 rw [if_neg (by simpa using h6), if_neg h6]
def brn (k : M) : List M := if k.Kind = 12 then k.Kids else [k]
theorem brn_eq (k : M) : JaI k = some (brn k) := by
 unfold JaI brn
 by_cases h : k.Kind = 12
 ·rw [if_pos (by simpa using h), if_pos h]
 ·rw [if_neg (by simpa using h), if_neg h]
def foldS (g : Env → M → Except Fault Env) : Env → List M → Except Fault Env
 | ρ, [] => .ok ρ
 | ρ, x :: l => match g ρ x with
  | .error e => .error e
  | .ok ρ' => foldS g ρ' l
def brs (g : M → Except Fault Env) : List M → Option Fault
 | [] => none
 | k :: l => match g k with
  | .error e => some e
  | .ok _ => brs g l
noncomputable def stm : Nat → Env → M → Except Fault Env
 | 0, _, _ => .error (0, 9)
 | d + 1, ρ, x => match x.Kids with
  | [] => .ok ρ
  | k0 :: ks => match tyE d ρ k0 with
   | .error e => .error e
   | .ok t =>
    if nds x.Kind ≠ 0 ∧ t ≠ nds x.Kind then .error (x.Line, 9)
    else if x.Kind = 3 then (if ρ x.Text = 0 then .ok (ext ρ x.Text t) else .error (x.Line, 4))
    else if x.Kind = 2 then (match brs (fun k => foldS (stm d) ρ (brn k)) ks with
     | some e => .error e
     | none => .ok ρ)
    else .ok ρ
def fin (a : Int) (r : Except Fault Env) : Ck := match r with
 | .ok _ => ⟨a, none⟩
 | .error e => ⟨e.1, some e.2⟩
theorem L3_same {f : Ck → List M → List Bd → Option Ck} {env : List Bd} {a e : Int} (hs : ∀ l r, f ⟨a, some e⟩ l env = some r → r = ⟨a, some e⟩) : ∀ (l : List M) (i : Nat), (∀ k ∈ l, ∃ r, f ⟨a, some e⟩ (brn k) env = some r) → Jp f env l i a (some e) = some (a, some e)
 | [], i, _ => rfl
 | k :: l, i, h => by
  obtain ⟨r, hr⟩ := h k (by simp)
  have := hs _ _ hr
  rw [Jp, brn_eq, Option.bind_some, hr, Option.bind_some, this]
  exact L3_same hs l (i + 1) fun q hq => h q (by simp [hq])
theorem L3_pure {f : Ck → List M → List Bd → Option Ck} {g : M → Except Fault Env} {env : List Bd} {a : Int} (hs : ∀ a e l r, f ⟨a, some e⟩ l env = some r → r = ⟨a, some e⟩) : ∀ (l : List M) (i : Nat), (∀ k ∈ l, f ⟨a, none⟩ (brn k) env = some (fin a (g k))) → (∀ k ∈ l, ∀ c, ∃ r, f c (brn k) env = some r) →
  Jp f env l i a none = some (match brs g l with
   | none => (a, none)
   | some e => (e.1, some e.2))
 | [], i, _, _ => rfl
 | k :: l, i, h, h' => by
  rw [Jp, brn_eq, Option.bind_some, h k (by simp), Option.bind_some, brs]
  cases q : g k with
  | error e => exact L3_same (fun l r => hs _ _ l r) l (i + 1) fun q hq => h' q (by simp [hq]) _
  | ok ρ => exact L3_pure hs l (i + 1) (fun q hq => h q (by simp [hq])) fun q hq => h' q (by simp [hq])
theorem drop1 {α : Type} {x : α} {l : List α} : subL (x :: l) (1 : Int) (((x :: l).length : Nat) : Int) = l := by
 unfold subL
 rw [show ((1 : Int)).toNat = 1 from rfl, List.drop_succ_cons, List.drop_zero, List.take_of_length_le (by simp only [List.length_cons]; omega)]
set_option maxRecDepth 100000 in
theorem block_L0_pure {n d : Nat} {f : Ck → List M → List Bd → Option Ck} {a : Int} (hn : d + 200000 ≤ n)
  (hs : ∀ env a e l r, f ⟨a, some e⟩ l env = some r → r = ⟨a, some e⟩)
  (hf : ∀ (l : List M) (env : List Bd), (∀ x ∈ l, Gd d x) → l.length ≤ 700 → env.length + 701 * (d + 1) ≤ 90000 → f ⟨a, none⟩ l env = some (fin a (foldS (stm d) (lkf env) l)))
  (hx : ∀ (l : List M) (env : List Bd) (c : Ck), (∀ x ∈ l, Gd d x) → l.length ≤ 700 → env.length + 701 * (d + 1) ≤ 90000 → ∃ r, f c l env = some r) :
  ∀ (l : List M) (i : Nat) (env : List Bd), (∀ x ∈ l, Gd (d + 1) x) → env.length + l.length + 701 * (d + 1) ≤ 90000 →
   ∃ r, Jn n f l i env a none = some r ∧ match foldS (stm (d + 1)) (lkf env) l with
    | .ok ρ => ∃ env', r = Fl.go (env', a, none) ∧ lkf env' = ρ ∧ env'.length ≤ env.length + l.length
    | .error e => r = Fl.ret ⟨e.1, some e.2⟩
 | [], i, env, _, _ => ⟨_, rfl, env, rfl, rfl, by simp⟩
 | x :: l, i, env, hg, he => by
  simp only [List.length_cons] at he
  have hgl : ∀ x ∈ l, Gd (d + 1) x := fun q hq => hg q (by simp [hq])
  have rec_ : ∀ env', env'.length ≤ env.length + 1 → ∃ r, Jn n f l (i + 1) env' a none = some r ∧ match foldS (stm (d + 1)) (lkf env') l with
    | .ok ρ => ∃ env2, r = Fl.go (env2, a, none) ∧ lkf env2 = ρ ∧ env2.length ≤ env.length + (l.length + 1)
    | .error e => r = Fl.ret ⟨e.1, some e.2⟩ := fun env' h1 => by
   obtain ⟨r, hr, h2⟩ := block_L0_pure hn hs hf hx l (i + 1) env' hgl (by omega)
   refine ⟨r, hr, ?_⟩
   cases q : foldS (stm (d + 1)) (lkf env') l with
   | error e => rw [q] at h2; exact h2
   | ok ρ => rw [q] at h2; obtain ⟨e2, a1, a2, a3⟩ := h2; exact ⟨e2, a1, a2, by omega⟩
  obtain ⟨hok, m, hm⟩ := hg x (by simp)
  obtain ⟨m, rfl, hv0, hv2⟩ := stated_inv hm
  obtain ⟨o1, o2, o3⟩ := hok
  rw [Jn, foldS]
  simp only [List.length_cons]
  cases hk : x.Kids with
  | nil =>
   rw [if_pos (by simp), stm, hk]
   exact rec_ env (by omega)
  | cons k0 ks =>
   have hk0 : k0 ∈ x.Kids := by rw [hk]; simp
   obtain ⟨t, c, ht, hR⟩ := cexpr_pure (env := env) (by omega) (a := a) d n m k0 (o3 k0 hk0) (hv0 k0 (by rw [hk]; rfl)) (by omega)
   rw [if_neg (by simp; omega), show ix (k0 :: ks) 0 = some k0 from rfl, Option.bind_some, ht, Option.bind_some, nds_eq, Option.bind_some, stm, hk]
   simp only
   unfold Res at hR
   cases q : tyE d (lkf env) k0 with
   | error e =>
    rw [q] at hR
    simp only at hR
    subst hR
    rw [if_neg (by simp), if_pos (by simp)]
    exact ⟨_, rfl, rfl⟩
   | ok v =>
    rw [q] at hR
    simp only at hR
    obtain ⟨rfl, rfl⟩ := hR
    simp only
    by_cases qn : nds x.Kind ≠ 0 ∧ t ≠ nds x.Kind
    ·rw [if_pos (by simpa using qn), fail_new, Option.bind_some, if_pos (by simp), if_pos qn]
     exact ⟨_, rfl, rfl⟩
    ·rw [if_neg (by simpa using qn), if_neg qn, if_neg (by simp)]
     by_cases q3 : x.Kind = 3
     ·rw [if_pos (by simpa using q3), if_pos q3]
      unfold Jat
      rw [lookup_eq (by omega) (by omega), Option.bind_some, Option.bind_some, extended_eq (by omega)]
      by_cases q0 : lk x.Text env = 0
      ·rw [if_neg (by simpa using q0), Option.bind_some, if_neg (by simp), if_pos (show lkf env x.Text = 0 from q0)]
       simp only
       rw [← lkf_snoc]
       exact rec_ _ (by simp)
      ·rw [if_pos (by simpa using q0), fail_new, Option.bind_some, Option.bind_some, if_pos (by simp), if_neg (show ¬ lkf env x.Text = 0 from q0)]
       exact ⟨_, rfl, rfl⟩
     ·rw [if_neg (by simpa using q3), if_neg q3]
      by_cases q2 : x.Kind = 2
      ·obtain ⟨l2, hb⟩ := hv2 q2
       rw [hk] at l2 hb
       have hbr : ∀ k ∈ ks, (∀ q ∈ brn k, Gd d q) ∧ (brn k).length ≤ 700 := fun k hk1 => by
        have hk2 : k ∈ x.Kids := by rw [hk]; simp [hk1]
        obtain ⟨l', e1, e2, e3⟩ := branch_ok (o3 k hk2) ((hb k (by simpa using hk1)).imp (fun h => ⟨h.1, fun q hq => ⟨m, h.2 q hq⟩⟩) fun h => ⟨h.1, m, h.2⟩)
        rw [brn_eq] at e1
        cases e1
        exact ⟨e3, e2⟩
       have hkl : (k0 :: ks).length ≤ 700 := by rw [← hk]; exact o2
       rw [if_pos (by simpa using q2), if_pos q2, chk_bind (by simp only [List.length_cons] at l2 ⊢; omega), drop1, chk_bind (by simp only [szMax]; simp only [List.length_cons] at hkl; omega),
        L3_pure (g := fun k => foldS (stm d) (lkf env) (brn k)) (hs env) ks 0 (fun k hk1 => hf _ _ (hbr k hk1).1 (hbr k hk1).2 (by omega)) (fun k hk1 c => hx _ _ c (hbr k hk1).1 (hbr k hk1).2 (by omega)), Option.bind_some]
       cases brs (fun k => foldS (stm d) (lkf env) (brn k)) ks with
       | some e => rw [if_pos (by simp)]; exact ⟨_, rfl, rfl⟩
       | none => rw [if_neg (by simp)]; exact rec_ env (by omega)
      ·rw [if_neg (by simpa using q2), if_neg q2, if_neg (by simp)]
       exact rec_ env (by omega)
set_option maxRecDepth 100000 in
theorem block_pure {a : Int} : ∀ (d n : Nat) (l : List M) (env : List Bd), (∀ x ∈ l, Gd d x) → l.length ≤ 700 → env.length + 701 * (d + 1) ≤ 90000 → d + 300000 ≤ n → Js n ⟨a, none⟩ l env = some (fin a (foldS (stm d) (lkf env) l))
 | d, 0, l, env, _, _, _, hn => by omega
 | 0, n + 1, l, env, hg, hl, he, hn => by
  have : l = [] := by
   cases l with
   | nil => rfl
   | cons x l => exact (hg x (by simp)).1.elim
  subst this
  rw [Js, chk_bind (by simp only [szMax]; simp)]; rfl
 | d + 1, n + 1, l, env, hg, hl, he, hn => by
  obtain ⟨r, hr, h2⟩ := block_L0_pure (n := n) (d := d) (a := a) (f := Js n) (by omega) (fun env a e l r => block_same n a e l env r) (fun l' env' h1 h2 h3 => block_pure d n l' env' h1 h2 h3 (by omega)) (fun l' env' c' h1 h2 h3 => block_ok d n l' env' c' h1 h2 h3 (by omega)) l 0 env hg (by omega)
  rw [Js, chk_bind (by simp only [szMax]; omega)]
  simp only
  rw [hr, Option.bind_some]
  cases q : foldS (stm (d + 1)) (lkf env) l with
  | error e => rw [q] at h2; simp only at h2; subst h2; rfl
  | ok ρ => rw [q] at h2; obtain ⟨e2, a1, a2, a3⟩ := h2; subst a1; rfl
noncomputable def chkR (d : Nat) (ys : List M) : Int × Err := match foldS (stm d) base ys with
 | .ok _ => (0, none)
 | .error e => (e.1, some e.2)
set_option maxRecDepth 100000 in
theorem Check_pure {n d : Nat} {y : M} {b : Bool} (h : Ok (d + 1) y) (hd : d ≤ 100) (hn : 400000 ≤ n) (hb : Jak n y = some b) : JbE n y = some (if b = true then chkR d y.Kids else (0, some 2)) := by
 unfold JbE
 rw [hb, Option.bind_some]
 cases b with
 | false => rfl
 | true =>
  have hv := Valid_inv hb
  have := h.2.1
  rw [if_neg (by simp), block_pure d n y.Kids [] (fun k hk => ⟨h.2.2 k hk, n, hv k hk⟩) this (by simp only [List.length_nil]; omega) (by omega), Option.bind_some]
  unfold chkR
  rw [lkf_nil]
  cases foldS (stm d) base y.Kids <;> rfl
end Rt
set_option linter.unusedVariables false
set_option linter.unusedSimpArgs false
open Go Go.SL Go.Proofs Pl
namespace Rt
theorem kidsE_err {f : M → Except Fault Int} {e : Fault} : ∀ {l : List M}, (∀ k ∈ l, ∀ e, f k = .error e → e.2 ≠ 0) → kidsE f l = .error e → e.2 ≠ 0
 | [], _, h => by cases h
 | k :: l, hf, h => by
  rw [kidsE] at h
  cases q : f k with
  | error e' => rw [q] at h; cases h; exact hf k (by simp) _ q
  | ok t =>
   rw [q] at h
   simp only at h
   cases q2 : kidsE f l with
   | error e' => rw [q2] at h; cases h; exact kidsE_err (fun k hk => hf k (by simp [hk])) q2
   | ok us => rw [q2] at h; cases h
theorem tyN_err {ρ : Env} {x : M} {ts : List Int} {e : Fault} (h : tyN ρ x ts = .error e) : e.2 ≠ 0 := by
 unfold tyN at h
 split at h; · cases h
 split at h; · cases h
 split at h; · cases h
 split at h
 ·split at h
  ·cases h; simp
  ·cases h
 split at h
 ·split at h
  ·cases h; simp
  ·split at h
   ·cases h
   ·cases h; simp
 split at h
 ·cases h; simp
 ·cases h
theorem tyE_err : ∀ {d : Nat} {ρ : Env} {x : M} {e : Fault}, tyE d ρ x = .error e → e.2 ≠ 0
 | 0, ρ, x, e, h => by rw [tyE] at h; cases h; simp
 | d + 1, ρ, x, e, h => by
  rw [tyE] at h
  cases q : kidsE (tyE d ρ) x.Kids with
  | error e' => rw [q] at h; cases h; exact kidsE_err (fun k _ e he => tyE_err he) q
  | ok ts => rw [q] at h; exact tyN_err h
theorem foldS_err {g : Env → M → Except Fault Env} {e : Fault} : ∀ {l : List M} {ρ : Env}, (∀ ρ k e, g ρ k = .error e → e.2 ≠ 0) → foldS g ρ l = .error e → e.2 ≠ 0
 | [], ρ, _, h => by cases h
 | k :: l, ρ, hg, h => by
  rw [foldS] at h
  cases q : g ρ k with
  | error e' => rw [q] at h; cases h; exact hg _ _ _ q
  | ok ρ' => rw [q] at h; exact foldS_err hg h
theorem brs_err {g : M → Except Fault Env} {e : Fault} : ∀ {l : List M}, (∀ k e, g k = .error e → e.2 ≠ 0) → brs g l = some e → e.2 ≠ 0
 | [], _, h => by cases h
 | k :: l, hg, h => by
  rw [brs] at h
  cases q : g k with
  | error e' => rw [q] at h; cases h; exact hg _ _ q
  | ok ρ' => rw [q] at h; exact brs_err hg h
theorem stm_err : ∀ {d : Nat} {ρ : Env} {x : M} {e : Fault}, stm d ρ x = .error e → e.2 ≠ 0
 | 0, ρ, x, e, h => by rw [stm] at h; cases h; simp
 | d + 1, ρ, x, e, h => by
  rw [stm] at h
  split at h
  ·cases h
  ·split at h
   ·cases h; rename_i q; exact tyE_err q
   ·split at h
    ·cases h; simp
    ·split at h
     ·split at h
      ·cases h
      ·cases h; simp
     ·split at h
      ·split at h
       ·cases h; rename_i q
        exact brs_err (fun k e he => foldS_err (fun ρ k e he => stm_err he) he) q
       ·cases h
      ·cases h
theorem fold_err {d : Nat} {ρ : Env} {l : List M} {e : Fault} (h : foldS (stm d) ρ l = .error e) : e.2 ≠ 0 := foldS_err (fun _ _ _ he => stm_err he) h
theorem num_eq (e : Err) : JcS e = some (e.getD 0) := by cases e <;> rfl
end Rt
set_option linter.unusedVariables false
set_option linter.unusedSimpArgs false
open Go Go.SL Go.Proofs Pl
namespace Rt
abbrev Bd2 := Ju
def lk2 (s : Str) (env : List Bd2) : Int := match env.reverse.find? (fun b => decide (b.Name = s)) with
 | some b => b.TypeZ
 | none => if pre s then 1 else 0
theorem lk2_snoc (s : Str) (env : List Bd2) (b : Bd2) : lk2 s (env ++ [b]) = if b.Name = s then b.TypeZ else lk2 s env := by
 unfold lk2
 rw [List.reverse_append]
 simp only [List.reverse_cons, List.reverse_nil, List.nil_append, List.cons_append, List.find?_cons]
 by_cases h : b.Name = s <;> simp [h]
theorem lookup2_L0_eq {env : List Bd2} {s : Str} (hl : env.length ≤ 100000) : ∀ (j n : Nat), j ≤ env.length → j + 1 ≤ n →
  JaM env s n ((j : Int) - 1) = some (match (env.take j).reverse.find? (fun b => decide (b.Name = s)) with | some b => Fl.ret b.TypeZ | none => Fl.go (-1))
 | 0, n + 1, _, _ => by
  rw [JaM, if_neg (by simp)]; simp
 | j + 1, n + 1, h, hn => by
  have hj : j < env.length := by omega
  have e : ((j + 1 : Nat) : Int) - 1 = (j : Int) := by omega
  have hix : ix env (j : Int) = some env[j] := by unfold ix; rw [if_pos (by omega)]; simp [hj]
  have ht : (env.take (j + 1)).reverse = env[j] :: (env.take j).reverse := by
   rw [List.take_succ_eq_append_getElem hj, List.reverse_append]; rfl
  rw [e, JaM, if_pos (by simp), hix, Option.bind_some, Option.bind_some, ht, List.find?_cons]
  by_cases q : env[j].Name = s
  ·rw [if_pos (by simpa using q)]; simp [q]
  ·rw [if_neg (by simpa using q), chk_bind (by constructor <;> omega), lookup2_L0_eq hl j n (by omega) (by omega)]
   simp [q]
 | 0, 0, _, h => by omega
 | j + 1, 0, _, h => by omega
theorem lookup2_eq {env : List Bd2} {s : Str} {n : Nat} (hl : env.length ≤ 100000) (hn : env.length + 1 ≤ n) : JbL n s env = some (lk2 s env) := by
 unfold JbL
 rw [chk_bind (by constructor <;> omega), lookup2_L0_eq hl env.length n (by omega) hn, Option.bind_some, List.take_length]
 unfold lk2
 cases env.reverse.find? (fun b => decide (b.Name = s)) with
 | some b => rfl
 | none =>
  rw [el_go]
  show (if pre s = true then some (1 : Int) else some 0) = some (if pre s = true then 1 else 0)
  split <;> rfl
def lkf2 (env : List Bd2) : Env := fun s => lk2 s env
theorem lkf2_nil : lkf2 [] = base := rfl
theorem lkf2_snoc (env : List Bd2) (s : Str) (t : Int) : lkf2 (env ++ [⟨s, t⟩]) = ext (lkf2 env) s t := by
 funext q; exact lk2_snoc q env ⟨s, t⟩
def Ty (t : Int) : Prop := t = 1 ∨ t = 2 ∨ t = 3
def Rg (ρ : Env) : Prop := ∀ s, ρ s = 0 ∨ Ty (ρ s)
theorem rg_base : Rg base := fun s => by
 unfold base
 split
 ·right; left; rfl
 ·left; rfl
theorem Rg.ext {ρ : Env} (h : Rg ρ) (s : Str) {t : Int} (ht : Ty t) : Rg (ext ρ s t) := fun q => by
 unfold Rt.ext
 split
 ·exact .inr ht
 ·exact h q
def QQ (o : Option Int) : Prop := ∀ t, o = some t → t = 0 ∨ Ty t
theorem QQ.ite {c : Bool} {a b : Option Int} (h1 : QQ a) (h2 : QQ b) : QQ (if c = true then a else b) := by cases c <;> assumption
theorem QQ.bind {α : Type} {o : Option α} {f : α → Option Int} (h : ∀ a, QQ (f a)) : QQ (o.bind f) := fun t ht => by
 cases o with
 | none => cases ht
 | some a => exact h a t ht
theorem QQ.z : QQ (some 0) := fun t h => by cases h; exact .inl rfl
theorem QQ.t1 : QQ (some 1) := fun t h => by cases h; exact .inr (.inl rfl)
theorem QQ.t2 : QQ (some 2) := fun t h => by cases h; exact .inr (.inr (.inl rfl))
theorem QQ.t3 : QQ (some 3) := fun t h => by cases h; exact .inr (.inr (.inr rfl))
theorem opr_rg (x : M) (l : List Int) : opr x l = 0 ∨ Ty (opr x l) := by
 have : QQ (JU x l) := by
  unfold JU
  refine .ite (.bind fun _ => .ite .t1 (.bind fun _ => .ite .t2 .z)) ?_
  refine .ite (.bind fun _ => .ite .t2 .z) ?_
  refine .ite (.bind fun _ => .ite .t2 .z) ?_
  refine .ite (.bind fun _ => .ite .t3 .z) ?_
  refine .ite (.bind fun _ => .ite .t3 .z) ?_
  refine .ite (.bind fun _ => .ite .t3 .z) ?_
  refine .ite ?_ .z
  refine .ite (.bind fun _ => .bind fun _ => .ite .t3 .z) ?_
  refine .ite (.bind fun _ => .bind fun _ => .ite .t3 .z) ?_
  refine .ite (.bind fun _ => .ite .t3 .z) ?_
  refine .ite (.bind fun _ => .ite .t3 .z) ?_
  exact .bind fun _ => .ite .t3 .z
 unfold opr
 cases q : JU x l with
 | none => exact .inl rfl
 | some t => exact this t q
theorem fnc_cases (s : Str) : Jbj s = some ((fnc s).1, (fnc s).2, decide ((fnc s).2 ≠ 0)) ∧ ((fnc s).2 = 0 ∨ Ty (fnc s).2) := by
 have key : ∀ p, J6 s = some p → Jbj s = some (p.1, p.2, decide (p.2 ≠ 0)) ∧ (p.2 = 0 ∨ Ty p.2) := fun p h => by
  unfold J6 at h
  unfold Jbj
  have st : ∀ {c : Bool} {a b : Int} {A : Option (Int × Int)} {B : Option (Int × Int × Bool)}, Ty b → (if c = true then some (a, b) else A) = some p → (A = some p → B = some (p.1, p.2, decide (p.2 ≠ 0)) ∧ (p.2 = 0 ∨ Ty p.2)) → (if c = true then some (a, b, true) else B) = some (p.1, p.2, decide (p.2 ≠ 0)) ∧ (p.2 = 0 ∨ Ty p.2) := fun {c a b A B} ht h hA => by
   cases c with
   | false => exact hA h
   | true =>
    cases h
    refine ⟨?_, .inr ht⟩
    have : b ≠ 0 := by rcases ht with rfl | rfl | rfl <;> decide
    simp [this]
  refine st (.inl rfl) h fun h => ?_
  refine st (.inl rfl) h fun h => ?_
  refine st (.inl rfl) h fun h => ?_
  refine st (.inr (.inr rfl)) h fun h => ?_
  refine st (.inr (.inl rfl)) h fun h => ?_
  refine st (.inr (.inl rfl)) h fun h => ?_
  refine st (.inl rfl) h fun h => ?_
  refine st (.inl rfl) h fun h => ?_
  cases h
  exact ⟨rfl, .inl rfl⟩
 exact key _ (fnc_eq s)
theorem fnc_ty (s : Str) : (fnc s).2 = 0 ∨ Ty (fnc s).2 := by
 have key : ∀ p, J6 s = some p → p.2 = 0 ∨ Ty p.2 := fun p h => by
  unfold J6 at h
  have st : ∀ {c : Bool} {a b : Int} {A : Option (Int × Int)}, Ty b → (if c = true then some (a, b) else A) = some p → (A = some p → p.2 = 0 ∨ Ty p.2) → p.2 = 0 ∨ Ty p.2 := fun {c a b A} ht h hA => by
   cases c with
   | false => exact hA h
   | true => cases h; exact .inr ht
  refine st (.inl rfl) h fun h => ?_
  refine st (.inl rfl) h fun h => ?_
  refine st (.inl rfl) h fun h => ?_
  refine st (.inr (.inr rfl)) h fun h => ?_
  refine st (.inr (.inl rfl)) h fun h => ?_
  refine st (.inr (.inl rfl)) h fun h => ?_
  refine st (.inl rfl) h fun h => ?_
  refine st (.inl rfl) h fun h => ?_
  cases h
  exact .inl rfl
 exact key _ (fnc_eq s)
theorem tyN_rg {ρ : Env} {x : M} {ts : List Int} {t : Int} (h : Rg ρ) (ht : tyN ρ x ts = .ok t) : Ty t := by
 unfold tyN at ht
 split at ht; · cases ht; right; left; rfl
 split at ht; · cases ht; left; rfl
 split at ht; · cases ht; right; right; rfl
 split at ht
 ·split at ht
  ·cases ht
  ·cases ht; rename_i q; exact (h x.Text).resolve_left q
 split at ht
 ·split at ht
  ·cases ht
  ·rename_i q
   split at ht
   ·cases ht; exact (fnc_ty x.Text).resolve_left q
   ·cases ht
 split at ht
 ·cases ht
 ·rename_i q
  cases ht; exact (opr_rg x ts).resolve_left q
theorem tyE_rg {d : Nat} {ρ : Env} {x : M} {t : Int} (h : Rg ρ) (ht : tyE d ρ x = .ok t) : Ty t := by
 cases d with
 | zero => rw [tyE] at ht; cases ht
 | succ d =>
  rw [tyE] at ht
  split at ht
  ·cases ht
  ·exact tyN_rg h ht
theorem kidsE_rg {f : M → Except Fault Int} (hf : ∀ k t, f k = .ok t → Ty t) : ∀ {l : List M} {ts : List Int}, kidsE f l = .ok ts → ∀ t ∈ ts, Ty t
 | [], ts, h => by cases h; simp
 | k :: l, ts, h => by
  rw [kidsE] at h
  cases q : f k with
  | error e => rw [q] at h; cases h
  | ok t =>
   rw [q] at h
   simp only at h
   cases q2 : kidsE f l with
   | error e => rw [q2] at h; cases h
   | ok us =>
    rw [q2] at h; cases h
    intro t' ht'
    rcases List.mem_cons.1 ht' with rfl | ht'
    ·exact hf k _ q
    ·exact kidsE_rg hf q2 _ ht'
theorem op1_eq (t : Int) {l : List Int} (h : l.length ≤ 1000) : Jy t l = some (l.all fun a => decide (a = t)) := by
 have : ∀ (l : List Int) (i : Nat), JX t l i = some (if (l.all fun a => decide (a = t)) = true then Fl.go () else Fl.ret false) := fun l => by
  induction l with
  | nil => exact fun i => rfl
  | cons a l ih =>
   intro i
   rw [JX, List.all_cons]
   by_cases q : a = t
   ·rw [if_neg (by simpa using q), ih, decide_eq_true q, Bool.true_and]
   ·rw [if_pos (by simpa using q), decide_eq_false q, Bool.false_and]; rfl
 unfold Jy
 rw [chk_bind (by simp only [szMax]; omega), this, Option.bind_some]
 cases (l.all fun a => decide (a = t)) <;> rfl
theorem operands_len {m : Nat} {y : M} {k : Int} (h : Jr m y = some k) (hk : k ≠ -2) :
  ((y.Kind = 13 ∨ y.Kind = 14 ∨ y.Kind = 17 ∨ y.Kind = 18 ∨ y.Kind = 19) ∧ k = 2) ∨ (y.Kind = 15 ∧ k = 1) ∨ (y.Kind = 16 ∧ k = 2 ∧ cmp y.Text = true) ∨ ((y.Kind = 20 ∨ y.Kind = 21 ∨ y.Kind = 22 ∨ y.Kind = 23) ∧ k = 0) ∨ (y.Kind = 24 ∧ k = -1) := by
 unfold Jr at h
 have s2 : ∀ {c : Bool} {v : Int}, (if (!c) = true then some (-2) else some v) = some k → k = v ∧ c = true := fun {c v} h => by
  cases c with
  | false => rw [if_pos (by simp)] at h; cases h; exact absurd rfl hk
  | true => rw [if_neg (by simp)] at h; cases h; exact ⟨rfl, rfl⟩
 by_cases q : y.Kind = 13
 ·rw [if_pos (by simpa using q)] at h
  exact .inl ⟨.inl q, (s2 h).1⟩
 rw [if_neg (by simpa using q)] at h
 clear q
 by_cases q : y.Kind = 14
 ·rw [if_pos (by simpa using q)] at h
  exact .inl ⟨.inr (.inl q), (s2 h).1⟩
 rw [if_neg (by simpa using q)] at h
 clear q
 by_cases q : y.Kind = 17
 ·rw [if_pos (by simpa using q)] at h
  exact .inl ⟨.inr (.inr (.inl q)), (s2 h).1⟩
 rw [if_neg (by simpa using q)] at h
 clear q
 by_cases q : y.Kind = 18
 ·rw [if_pos (by simpa using q)] at h
  exact .inl ⟨.inr (.inr (.inr (.inl q))), (s2 h).1⟩
 rw [if_neg (by simpa using q)] at h
 clear q
 by_cases q : y.Kind = 19
 ·rw [if_pos (by simpa using q)] at h
  exact .inl ⟨.inr (.inr (.inr (.inr q))), (s2 h).1⟩
 rw [if_neg (by simpa using q)] at h
 clear q
 by_cases q : y.Kind = 15
 ·rw [if_pos (by simpa using q)] at h
  exact .inr (.inl ⟨q, (s2 h).1⟩)
 rw [if_neg (by simpa using q)] at h
 clear q
 by_cases q : y.Kind = 16
 ·rw [if_pos (by simpa using q)] at h
  have e := compares_eq y.Text
  obtain ⟨a, ha, h⟩ := bnd h
  rw [ha, Option.bind_some] at e
  rw [e, Option.bind_some] at h
  exact .inr (.inr (.inl ⟨q, s2 h⟩))
 rw [if_neg (by simpa using q)] at h
 clear q
 by_cases q : y.Kind = 20
 ·rw [if_pos (by simpa using q)] at h
  obtain ⟨a, ha, h⟩ := bnd h
  exact .inr (.inr (.inr (.inl ⟨.inl q, (s2 h).1⟩)))
 rw [if_neg (by simpa using q)] at h
 clear q
 by_cases q : y.Kind = 21
 ·rw [if_pos (by simpa using q)] at h
  obtain ⟨a, ha, h⟩ := bnd h
  exact .inr (.inr (.inr (.inl ⟨.inr (.inl q), (s2 h).1⟩)))
 rw [if_neg (by simpa using q)] at h
 clear q
 by_cases q : y.Kind = 22
 ·rw [if_pos (by simpa using q)] at h
  exact .inr (.inr (.inr (.inl ⟨.inr (.inr (.inl q)), (s2 h).1⟩)))
 rw [if_neg (by simpa using q)] at h
 clear q
 by_cases q : y.Kind = 23
 ·rw [if_pos (by simpa using q)] at h
  obtain ⟨a, ha, h⟩ := bnd h
  exact .inr (.inr (.inr (.inl ⟨.inr (.inr (.inr q)), (s2 h).1⟩)))
 rw [if_neg (by simpa using q)] at h
 clear q
 by_cases q : y.Kind = 24
 ·rw [if_pos (by simpa using q)] at h
  obtain ⟨a, ha, h⟩ := bnd h
  exact .inr (.inr (.inr (.inr ⟨q, (s2 h).1⟩)))
 rw [if_neg (by simpa using q)] at h
 clear q
 cases h
 exact absurd rfl hk
theorem single_op {x : N} {y : M} {m : Nat} {k : Int} {ts : List Int} (c1 : y.Kind = x.Kind) (c2 : y.Text = x.Text) (ho : Jr m y = some k) (hk : k ≠ -2) (hl : 0 ≤ k → (ts.length : Int) = k) (ht : ∀ t ∈ ts, Ty t)
  (h20 : x.Kind ≠ 20) (h21 : x.Kind ≠ 21) (h22 : x.Kind ≠ 22) (h23 : x.Kind ≠ 23) (h24 : x.Kind ≠ 24) : Jah x ts = some (opr y ts) := by
 have two : ∀ {ts : List Int}, (ts.length : Int) = 2 → ∃ a b, ts = [a, b] := fun {ts} h => by
  match ts, h with
  | [a, b], _ => exact ⟨a, b, rfl⟩
  | [], h => simp at h
  | [a], h => simp at h
  | a :: b :: c :: l, h => simp at h; omega
 have d : ∀ {a : Int}, Ty a → (a = 1 ∨ a = 2 ∨ a = 3) := fun h => h
 unfold opr
 rcases operands_len ho hk with ⟨hkk, e⟩ | ⟨hkk, e⟩ | ⟨hkk, e, hcmp⟩ | ⟨hkk, e⟩ | ⟨hkk, e⟩
 ·subst e
  obtain ⟨a, b, rfl⟩ := two (hl (by omega))
  have ha := d (ht a (by simp))
  have hb := d (ht b (by simp))
  rw [c1] at hkk
  rcases hkk with q | q | q | q | q <;> rcases ha with rfl | rfl | rfl <;> rcases hb with rfl | rfl | rfl <;> simp [Jah, JU, c1, q, op1_eq, ix]
 ·subst e
  obtain ⟨a, rfl⟩ : ∃ a, ts = [a] := by
   have h1 := hl (by omega)
   match ts, h1 with
   | [a], _ => exact ⟨a, rfl⟩
   | [], h => simp at h
   | a :: b :: l, h => simp at h; omega
  have ha := d (ht a (by simp))
  rw [c1] at hkk
  rcases ha with rfl | rfl | rfl <;> simp [Jah, JU, c1, hkk, op1_eq, ix]
 ·subst e
  obtain ⟨a, b, rfl⟩ := two (hl (by omega))
  have ha := d (ht a (by simp))
  have hb := d (ht b (by simp))
  rw [c1] at hkk
  rw [c2] at hcmp
  simp only [cmp, Bool.or_eq_true, decide_eq_true_eq] at hcmp
  rcases hcmp with q | q | q | q | q | q | q <;> rcases ha with rfl | rfl | rfl <;> rcases hb with rfl | rfl | rfl <;> simp [Jah, JU, c1, c2, hkk, q, op1_eq, ix]
 ·rw [c1] at hkk; omega
 ·rw [c1] at hkk; omega
end Rt
set_option linter.unusedVariables false
set_option linter.unusedSimpArgs false
open Go Go.SL Go.Proofs Pl
namespace Rt
abbrev F2 := JA
def res2 (r : Except Fault Int) : Int × F2 := match r with
 | .ok t => (t, ⟨0, 0⟩)
 | .error e => (0, ⟨e.1, e.2⟩)
theorem expr2_L0 {f : N → List Bd2 → Option (Int × F2)} {g : M → Except Fault Int} {env : List Bd2} (hg : ∀ k e, g k = .error e → e.2 ≠ 0) {l : List N} {k : List M} (h : A2 (fun x y => f x env = some (res2 (g y))) l k) : ∀ (i : Nat) (y : List Int), y.length + l.length ≤ 1000 →
  Jba f env l i y = some (match kidsE g k with
   | .ok ts => Fl.go (y ++ ts)
   | .error e => Fl.ret (0, ⟨e.1, e.2⟩)) := by
 induction h with
 | nil => intro i y _; simp [Jba, kidsE]
 | cons hp _ ih =>
  rename_i a b l k _
  intro i y hy
  simp only [List.length_cons] at hy
  rw [Jba, kidsE]
  cases q : g b with
  | error e =>
   have := hg _ _ q
   have hp2 : f a env = some (0, ⟨e.1, e.2⟩) := by rw [hp, q]; rfl
   rw [hp2, Option.bind_some, if_pos (by simpa using this)]
  | ok t =>
   have hp2 : f a env = some (t, ⟨0, 0⟩) := by rw [hp, q]; rfl
   rw [hp2, Option.bind_some, if_neg (by simp), chk_bind (by simp only [lim, List.length_cons, List.length_nil]; omega), ih (i + 1) _ (by simp only [List.length_append, List.length_cons, List.length_nil]; omega)]
   cases kidsE g k with
   | error e => rfl
   | ok ts => simp
theorem tyN_op {ρ : Env} {y : M} {ts : List Int} (h20 : y.Kind ≠ 20) (h21 : y.Kind ≠ 21) (h22 : y.Kind ≠ 22) (h23 : y.Kind ≠ 23) (h24 : y.Kind ≠ 24) : tyN ρ y ts = if opr y ts = 0 then .error (y.Line, 9) else .ok (opr y ts) := by
 unfold tyN
 rw [if_neg h20, if_neg h21, if_neg h22, if_neg h23, if_neg h24]
theorem expr2_pure {env : List Bd2} (he : env.length ≤ 100000) (hrg : Rg (lkf2 env)) : ∀ (d n m : Nat) (x : N) (y : M), OkN d x → Cvd d x y → Jm m y = some true → d + 200000 ≤ n → Ja3 n x env = some (res2 (tyE d (lkf2 env) y))
 | d + 1, 0, m, x, y, _, _, _, hn => by omega
 | d + 1, n + 1, m, x, y, h, hc, hv, hn => by
  obtain ⟨h1, h2, h3⟩ := h
  obtain ⟨c1, c2, c3, c4⟩ := hc
  obtain ⟨m', k, rfl, hk, k2, k3, k4⟩ := expression_inv hv
  have hkid : A2 (fun x y => Ja3 n x env = some (res2 (tyE d (lkf2 env) y))) x.Kids y.Kids := by
   have : ∀ {l : List N} {k : List M}, A2 (Cvd d) l k → (∀ a ∈ l, OkN d a) → (∀ b ∈ k, Jm m' b = some true) → A2 (fun x y => Ja3 n x env = some (res2 (tyE d (lkf2 env) y))) l k := fun h => by
    induction h with
    | nil => exact fun _ _ => .nil
    | cons hp _ ih => exact fun ha hb => .cons (expr2_pure he hrg d n m' _ _ (ha _ (by simp)) hp (hb _ (by simp)) (by omega)) (ih (fun a h => ha a (by simp [h])) fun b h => hb b (by simp [h]))
   exact this c4 h3 k4
  rw [Ja3, chk_bind (by simp only [szMax]; omega), expr2_L0 (fun _ _ he => tyE_err he) hkid 0 [] (by simp <;> omega), Option.bind_some, tyE]
  cases q : kidsE (tyE d (lkf2 env)) y.Kids with
  | error e => rfl
  | ok ts =>
   have hlen := kidsE_len q
   have hty := kidsE_rg (fun k t h => tyE_rg hrg h) q
   simp only [el_go, List.nil_append]
   have hkl : 0 ≤ k → (ts.length : Int) = k := fun h0 => by rw [hlen]; exact k3 h0
   by_cases q23 : x.Kind = 23
   ·rw [if_pos (by simpa using q23), lookup2_eq he (by omega), Option.bind_some]
    unfold tyN
    rw [c1, if_neg (show ¬ x.Kind = 20 by omega), if_neg (show ¬ x.Kind = 21 by omega), if_neg (show ¬ x.Kind = 22 by omega), if_pos q23, c2, c3]
    by_cases q0 : lk2 x.Text env = 0
    ·rw [if_neg (by simpa using q0), if_pos (show lkf2 env x.Text = 0 from q0)]; rfl
    ·rw [if_pos (by simpa using q0), if_neg (show ¬ lkf2 env x.Text = 0 from q0)]; rfl
   rw [if_neg (by simpa using q23)]
   by_cases q24 : x.Kind = 24
   ·obtain ⟨f1, f2⟩ := fnc_cases x.Text
    rw [if_pos (by simpa using q24), f1, Option.bind_some]
    unfold tyN
    rw [c1, if_neg (show ¬ x.Kind = 20 by omega), if_neg (show ¬ x.Kind = 21 by omega), if_neg (show ¬ x.Kind = 22 by omega), if_neg q23, if_pos q24, c2, c3]
    by_cases q0 : (fnc x.Text).2 = 0
    ·rw [if_pos (by simpa using q0), if_pos q0]; rfl
    ·rw [if_neg (by simpa using q0), if_neg q0]
     have hs : Jah x ts = some (if ts = [(fnc x.Text).1] then (fnc x.Text).2 else 0) := by
      unfold Jah
      have e : ∃ b, (if decide ((ts.length : Int) = 2) = true then (ix ts 0).bind fun x16 => (ix ts 1).bind fun x19 => some (decide (x16 = x19)) else some false) = some b := ite_ex (fun h => by
       have h := of_decide_eq_true h
       exact bind_ex (ix_ok (by omega) (by omega)) fun _ _ => bind_ex (ix_ok (by omega) (by omega)) fun _ _ => ⟨_, rfl⟩) fun _ => ⟨_, rfl⟩
      obtain ⟨b, hb⟩ := e
      rw [hb, Option.bind_some, if_neg (by simp [q24]), if_neg (by simp [q24]), if_neg (by simp [q24]), if_neg (by simp [q24]), if_neg (by simp [q24]), if_neg (by simp [q24]), if_neg (by simp [q24]), if_neg (by simp [q24]), if_neg (by simp [q24]), if_neg (by simp [q24]), if_pos (by simp [q24]), f1, Option.bind_some]
      match ts with
      | [] => rw [if_neg (by simp), Option.bind_some, if_neg (by simp), if_neg (by simp)]
      | [t] =>
       rw [if_pos (by simp), show ix [t] 0 = some t from rfl, Option.bind_some, Option.bind_some]
       by_cases q2 : t = (fnc x.Text).1
       ·rw [if_pos (by simpa using q2), if_pos (by rw [q2])]
       ·rw [if_neg (by simpa using q2), if_neg (by simpa using q2)]
      | t :: u :: l => rw [if_neg (by simp; omega), Option.bind_some, if_neg (by simp), if_neg (by simp)]
     rw [hs, Option.bind_some]
     by_cases q2 : ts = [(fnc x.Text).1]
     ·rw [if_pos q2, if_pos q2, if_neg (by simpa using q0)]; rfl
     ·rw [if_neg q2, if_neg q2, if_pos (by simp)]; rfl
   rw [if_neg (by simpa using q24)]
   have lit : ∀ (v : Int), Ty v → Jah x ts = some v → tyN (lkf2 env) y ts = .ok v → ((Jah x ts).bind fun x69 => if decide (x69 = 0) = true then some ((0 : Int), (⟨x.Line, 9⟩ : F2)) else some (x69, ⟨0, 0⟩)) = some (res2 (tyN (lkf2 env) y ts)) := fun v hv e1 e2 => by
    have : v ≠ 0 := by rcases hv with rfl | rfl | rfl <;> decide
    rw [e1, e2, Option.bind_some, if_neg (by simpa using this)]; rfl
   have nil : (x.Kind = 20 ∨ x.Kind = 21 ∨ x.Kind = 22) → ts = [] := fun h => by
    have : (ts.length : Int) = 0 := by
     rcases operands_len hk k2 with ⟨a, b⟩ | ⟨a, b⟩ | ⟨a, b, _⟩ | ⟨a, b⟩ | ⟨a, b⟩
     ·rw [c1] at a; omega
     ·rw [c1] at a; omega
     ·rw [c1] at a; omega
     ·rw [hkl (by omega), b]
     ·rw [c1] at a; omega
    exact List.length_eq_zero_iff.1 (by omega)
   by_cases q20 : x.Kind = 20
   ·refine lit 2 (.inr (.inl rfl)) ?_ ?_
    ·rw [nil (by simp [q20])]; simp [Jah, q20]
    ·unfold tyN; rw [if_pos (show y.Kind = 20 by omega)]
   by_cases q21 : x.Kind = 21
   ·refine lit 1 (.inl rfl) ?_ ?_
    ·rw [nil (by simp [q21])]; simp [Jah, q21]
    ·unfold tyN; rw [if_neg (show ¬ y.Kind = 20 by omega), if_pos (show y.Kind = 21 by omega)]
   by_cases q22 : x.Kind = 22
   ·refine lit 3 (.inr (.inr rfl)) ?_ ?_
    ·rw [nil (by simp [q22])]; simp [Jah, q22]
    ·unfold tyN; rw [if_neg (show ¬ y.Kind = 20 by omega), if_neg (show ¬ y.Kind = 21 by omega), if_pos (show y.Kind = 22 by omega)]
   rw [single_op c1 c2 hk k2 hkl hty q20 q21 q22 q23 q24, Option.bind_some, tyN_op (by omega) (by omega) (by omega) (by omega) (by omega)]
   by_cases q0 : opr y ts = 0
   ·rw [if_pos (by simpa using q0), if_pos q0, c3]; rfl
   ·rw [if_neg (by simpa using q0), if_neg q0]; rfl
theorem nds2_eq (k : Int) : Jcd k = some (nds k) := by
 unfold Jcd nds
 by_cases h1 : k = 2; · simp [h1]
 by_cases h2 : k = 4; · simp [h2]
 by_cases h3 : k = 5; · simp [h3]
 by_cases h4 : k = 7; · simp [h4]
 by_cases h5 : k = 8; · simp [h5]
 by_cases h6 : k = 9; · simp [h6]
 simp [h1, h2, h3, h4, h5, h6]
theorem stated_if {m : Nat} {x : M} (hk : x.Kind = 2) (h : Jo (m + 1) x = some true) : ∀ c ∈ x.Kids.drop 1, c.Kind ≠ 12 → c.Kind = 2 := by
 rw [Jo, if_pos (by simpa using hk)] at h
 obtain ⟨a, ha, g⟩ := bnd h
 obtain ⟨b, hb, gg⟩ := bnd g
 cases b with
 | true => rw [if_pos rfl] at gg; cases gg
 | false =>
  rw [if_neg (by simp)] at gg
  cases a with
  | true => rw [if_pos rfl] at hb; cases hb
  | false =>
   cases q : ((decide (x.Text ≠ ([] : Str)) || decide ((x.Kids.length : Int) < 2)) || decide ((x.Kids.length : Int) > 3)) with
   | true => rw [q, if_pos rfl] at ha; cases ha
   | false =>
    simp only [Bool.or_eq_false_iff, decide_eq_false_iff_not] at q
    rw [if_neg (by simp)] at hb
    obtain ⟨c1, hc1, hb⟩ := bnd hb
    obtain ⟨e1, he1, hb⟩ := bnd hb
    have hb : e1 = true := by simpa using hb
    subst hb
    have g1 : x.Kids[1]? = some c1 := by unfold ix at hc1; rw [if_pos (by omega)] at hc1; exact hc1
    obtain ⟨i1, i2⟩ := blocked_inv he1
    intro c hc hne
    obtain ⟨i, hi⟩ := List.getElem?_of_mem hc
    rw [List.getElem?_drop] at hi
    have hil : 1 + i < x.Kids.length := (List.getElem?_eq_some_iff.1 hi).1
    by_cases z : i = 0
    ·subst z
     rw [g1] at hi; cases hi
     exact absurd i1 hne
    ·have : i = 1 := by omega
     subst this
     have hx2 : ix x.Kids 2 = some c := by unfold ix; rw [if_pos (by omega)]; exact hi
     rw [if_neg (by simp <;> omega), hx2, Option.bind_some] at gg
     obtain ⟨e, he, g3⟩ := bnd gg
     obtain ⟨e', he', he2⟩ := bnd he
     cases he2
     cases e with
     | true => exact absurd (blocked_inv he').1 hne
     | false =>
      rw [if_neg (by simp), Option.bind_some] at g3
      obtain ⟨e2, he2, g4⟩ := bnd g3
      cases g4
      split at he2
      ·rename_i hk; exact of_decide_eq_true hk
      ·cases he2
def fl2 (r : Except Fault Env) : F2 := match r with
 | .ok _ => ⟨0, 0⟩
 | .error e => ⟨e.1, e.2⟩
theorem L3_2 {f : List N → List Bd2 → Option F2} {g : M → Except Fault Env} {env : List Bd2} (hg : ∀ k e, g k = .error e → e.2 ≠ 0) {l : List N} {k : List M} (h : A2 (fun x y => (if decide (x.Kind = 2) = true then f [x] env else f x.Kids env) = some (fl2 (g y))) l k) : ∀ i : Nat,
  JJ f env l i = some (match brs g k with
   | none => Fl.go ()
   | some e => Fl.ret ⟨e.1, e.2⟩) := by
 induction h with
 | nil => exact fun i => rfl
 | cons hp _ ih =>
  rename_i a b l k _
  intro i
  have e : JJ f env (a :: l) i = (if decide (a.Kind = 2) = true then f [a] env else f a.Kids env).bind fun x90 => if decide (x90.Code ≠ 0) = true then some (Fl.ret x90) else JJ f env l (i + 1) := by
   rw [JJ]
   cases decide (a.Kind = 2) <;> rfl
  rw [e, brs]
  cases q : g b with
  | error e =>
   have := hg _ _ q
   have hp2 : (if decide (a.Kind = 2) = true then f [a] env else f a.Kids env) = some ⟨e.1, e.2⟩ := by rw [hp, q]; rfl
   rw [hp2, Option.bind_some, if_pos (by simpa using this)]
  | ok ρ =>
   have hp2 : (if decide (a.Kind = 2) = true then f [a] env else f a.Kids env) = some ⟨0, 0⟩ := by rw [hp, q]; rfl
   rw [hp2, Option.bind_some, if_neg (by simp)]
   exact ih (i + 1)
set_option maxRecDepth 100000 in
theorem st2_L0 {n d : Nat} {f : List N → List Bd2 → Option F2} (hn : d + 200000 ≤ n)
  (hf : ∀ (l : List N) (k : List M) (env : List Bd2), (∀ x ∈ l, OkN d x) → A2 (Cvd d) l k → (∀ y ∈ k, Gd d y) → l.length ≤ 700 → env.length + 701 * (d + 1) ≤ 90000 → Rg (lkf2 env) → f l env = some (fl2 (foldS (stm d) (lkf2 env) k)))
  {l : List N} {k : List M} (h : A2 (Cvd (d + 1)) l k) :
  ∀ (i : Nat) (env : List Bd2), (∀ x ∈ l, OkN (d + 1) x) → (∀ y ∈ k, Gd (d + 1) y) → env.length + l.length + 701 * (d + 1) ≤ 90000 → Rg (lkf2 env) →
   ∃ r, JV n f l i env = some r ∧ match foldS (stm (d + 1)) (lkf2 env) k with
    | .ok ρ => ∃ env', r = Fl.go env'
    | .error e => r = Fl.ret ⟨e.1, e.2⟩ := by
 induction h with
 | nil => exact fun i env _ _ _ _ => ⟨_, rfl, env, rfl⟩
 | cons hp _ ih =>
  rename_i x y l k _
  intro i env ho hg he hrg
  simp only [List.length_cons] at he
  have rec_ : ∀ env', env'.length ≤ env.length + 1 → Rg (lkf2 env') → ∃ r, JV n f l (i + 1) env' = some r ∧ match foldS (stm (d + 1)) (lkf2 env') k with
    | .ok ρ => ∃ env2, r = Fl.go env2
    | .error e => r = Fl.ret ⟨e.1, e.2⟩ := fun env' h1 h2 => ih (i + 1) env' (fun q hq => ho q (by simp [hq])) (fun q hq => hg q (by simp [hq])) (by omega) h2
  obtain ⟨hok, m, hm⟩ := hg y (by simp)
  have hm' := hm
  obtain ⟨m, rfl, hv0, hv2⟩ := stated_inv hm
  obtain ⟨o1, o2, o3⟩ := ho x (by simp)
  obtain ⟨p1, p2, p3⟩ := hok
  obtain ⟨c1, c2, c3, c4⟩ := hp
  rw [JV, foldS, stm]
  match hkx : x.Kids, hky : y.Kids, c4 with
  | [], [], .nil =>
   rw [if_pos (by simp)]
   exact rec_ env (by omega) hrg
  | k0 :: ks, j0 :: js, .cons hq hqs =>
   have hk0 : k0 ∈ x.Kids := by rw [hkx]; simp
   have ht := expr2_pure (env := env) (by omega) hrg d n m k0 j0 (o3 k0 hk0) hq (hv0 j0 (by rw [hky]; rfl)) (by omega)
   rw [if_neg (by simp; omega), show ix (k0 :: ks) 0 = some k0 from rfl, Option.bind_some]
   cases q : tyE d (lkf2 env) j0 with
   | error e =>
    have := tyE_err q
    have ht2 : Ja3 n k0 env = some (0, ⟨e.1, e.2⟩) := by rw [ht, q]; rfl
    rw [ht2, Option.bind_some, if_pos (by simpa using this)]
    simp only [q]
    exact ⟨_, rfl, rfl⟩
   | ok t =>
    have tyt := tyE_rg hrg q
    have ht2 : Ja3 n k0 env = some (t, ⟨0, 0⟩) := by rw [ht, q]; rfl
    rw [ht2, Option.bind_some, if_neg (by simp), nds2_eq, Option.bind_some]
    simp only [q]
    rw [c1, c2, c3]
    by_cases qn : nds x.Kind ≠ 0 ∧ t ≠ nds x.Kind
    ·rw [if_pos (by simp only [Bool.and_eq_true, decide_eq_true_eq]; exact ⟨qn.1, fun h => qn.2 h.symm⟩), if_pos qn]
     exact ⟨_, rfl, rfl⟩
    ·rw [if_neg (by simp only [Bool.and_eq_true, decide_eq_true_eq]; exact fun h => qn ⟨h.1, fun h' => h.2 h'.symm⟩), if_neg qn]
     by_cases q3 : x.Kind = 3
     ·rw [if_pos (by simpa using q3), if_pos q3, lookup2_eq (by omega) (by omega), Option.bind_some]
      by_cases q0 : lk2 x.Text env = 0
      ·rw [if_neg (by simpa using q0), chk_bind (by simp only [lim]; omega), chk_bind (by simp only [lim, List.length_cons, List.length_nil]; omega), if_pos (show lkf2 env x.Text = 0 from q0)]
       simp only
       rw [← lkf2_snoc]
       exact rec_ _ (by simp) (by rw [lkf2_snoc]; exact hrg.ext _ tyt)
      ·rw [if_pos (by simpa using q0), if_neg (show ¬ lkf2 env x.Text = 0 from q0)]
       exact ⟨_, rfl, rfl⟩
     ·rw [if_neg (by simpa using q3), if_neg q3]
      by_cases q2 : x.Kind = 2
      ·obtain ⟨l2, hb⟩ := hv2 (by omega)
       have hif := stated_if (by omega) hm'
       rw [hky] at l2 hb hif
       have hkl : (k0 :: ks).length ≤ 700 := by rw [← hkx]; exact o2
       have hlen : js.length = ks.length := hqs.len
       simp only [List.length_cons] at l2 hkl
       have hrel : A2 (fun x y => (if decide (x.Kind = 2) = true then f [x] env else f x.Kids env) = some (fl2 (foldS (stm d) (lkf2 env) (brn y)))) ks js := by
        have sub1 : ∀ a ∈ ks, OkN d a := fun a ha => o3 a (by rw [hkx]; simp [ha])
        have sub2 : ∀ b ∈ js, b ∈ y.Kids := fun b hb => by rw [hky]; simp [hb]
        have sub3 : ∀ b ∈ js, b ∈ (j0 :: js).drop 1 := fun b hb => by simpa using hb
        have : ∀ {l : List N} {k : List M}, A2 (Cvd d) l k → (∀ a ∈ l, OkN d a) → (∀ b ∈ k, b ∈ js) → A2 (fun x y => (if decide (x.Kind = 2) = true then f [x] env else f x.Kids env) = some (fl2 (foldS (stm d) (lkf2 env) (brn y)))) l k := fun h => by
         induction h with
         | nil => exact fun _ _ => .nil
         | cons hp _ ih =>
          rename_i a b _ _ _
          intro h1 h2
          refine .cons ?_ (ih (fun a h => h1 a (by simp [h])) fun b h => h2 b (by simp [h]))
          have hbj := h2 b (by simp)
          have hoa := h1 a (by simp)
          obtain ⟨l', e1, e2, e3⟩ := branch_ok (p3 b (sub2 b hbj)) ((hb b (sub3 b hbj)).imp (fun h => ⟨h.1, fun q hq => ⟨m, h.2 q hq⟩⟩) fun h => ⟨h.1, m, h.2⟩)
          rw [brn_eq] at e1
          cases e1
          cases d with
          | zero => exact hoa.elim
          | succ d =>
           have hp' := hp
           obtain ⟨r1, r2, r3, r4⟩ := hp
           by_cases qk : a.Kind = 2
           ·have eb : brn b = [b] := by unfold brn; rw [if_neg (by omega)]
            rw [if_pos (by simpa using qk), eb]
            rw [eb] at e3
            exact hf [a] [b] env (fun q hq => by rw [List.mem_singleton] at hq; subst hq; exact hoa) (.cons hp' .nil) e3 (by simp) (by omega) hrg
           ·have hb12 : b.Kind = 12 := by
             by_cases q12 : b.Kind = 12
             ·exact q12
             ·have := hif b (sub3 b hbj) q12; omega
            have eb : brn b = b.Kids := by unfold brn; rw [if_pos hb12]
            rw [if_neg (by simpa using qk), eb]
            rw [eb] at e3 e2
            have lift : ∀ {l : List N} {k : List M}, A2 (Cvd d) l k → A2 (Cvd (d + 1)) l k := fun h => by
             have up : ∀ (d : Nat) (x : N) (y : M), Cvd d x y → Cvd (d + 1) x y := fun d => by
              induction d with
              | zero => exact fun x y h => h.elim
              | succ d ih => exact fun x y h => ⟨h.1, h.2.1, h.2.2.1, h.2.2.2.imp_mem fun a _ b hb => ih a b hb⟩
             exact h.imp_mem fun a _ b hb => up d a b hb
            have liftO : ∀ (d : Nat) (x : N), OkN d x → OkN (d + 1) x := fun d => by
             induction d with
             | zero => exact fun x h => h.elim
             | succ d ih => exact fun x h => ⟨h.1, h.2.1, fun k hk => ih k (h.2.2 k hk)⟩
            exact hf a.Kids b.Kids env (fun q hq => liftO d q (hoa.2.2 q hq)) (lift r4) e3 hoa.2.1 (by omega) hrg
        exact this hqs sub1 fun b hb => hb
       rw [if_pos (by simpa using q2), if_pos q2, chk_bind (by simp only [List.length_cons]; omega), drop1, chk_bind (by simp only [szMax]; omega),
        L3_2 (g := fun k => foldS (stm d) (lkf2 env) (brn k)) (fun _ _ he => fold_err he) hrel 0, Option.bind_some]
       cases brs (fun k => foldS (stm d) (lkf2 env) (brn k)) js with
       | some e => exact ⟨_, rfl, rfl⟩
       | none => exact rec_ env (by omega) hrg
      ·rw [if_neg (by simpa using q2), if_neg q2]
       exact rec_ env (by omega) hrg
set_option maxRecDepth 100000 in
theorem st2_pure : ∀ (d n : Nat) (l : List N) (k : List M) (env : List Bd2), (∀ x ∈ l, OkN d x) → A2 (Cvd d) l k → (∀ y ∈ k, Gd d y) → l.length ≤ 700 → env.length + 701 * (d + 1) ≤ 90000 → Rg (lkf2 env) → d + 300000 ≤ n → J5 n l env = some (fl2 (foldS (stm d) (lkf2 env) k))
 | d, 0, l, k, env, _, _, _, _, _, _, hn => by omega
 | 0, n + 1, l, k, env, ho, hc, hg, hl, he, hrg, hn => by
  have : l = [] := by
   cases l with
   | nil => rfl
   | cons x l => exact (ho x (by simp)).elim
  subst this
  cases hc
  rw [J5, chk_bind (by simp only [szMax]; simp)]; rfl
 | d + 1, n + 1, l, k, env, ho, hc, hg, hl, he, hrg, hn => by
  obtain ⟨r, hr, h2⟩ := st2_L0 (n := n) (d := d) (f := J5 n) (by omega) (fun l' k' env' h1 h2 h3 h4 h5 h6 => st2_pure d n l' k' env' h1 h2 h3 h4 h5 h6 (by omega)) hc 0 env ho hg (by omega) hrg
  rw [J5, chk_bind (by simp only [szMax]; omega), hr, Option.bind_some]
  cases q : foldS (stm (d + 1)) (lkf2 env) k with
  | error e => rw [q] at h2; simp only at h2; subst h2; rfl
  | ok ρ => rw [q] at h2; obtain ⟨e2, a1⟩ := h2; subst a1; rfl
set_option maxRecDepth 100000 in
theorem Check2_pure {n d : Nat} {x : N} {y : M} {b : Bool} (ho : OkN (d + 1) x) (hc : Cvd (d + 1) x y) (hd : d ≤ 100) (hn : 400000 ≤ n) (hb : JbI n x = some b) (hb2 : Jak n y = some b) : Jce n x = some (if b = true then fl2 (foldS (stm d) base y.Kids) else ⟨0, 2⟩) := by
 unfold Jce
 rw [hb, Option.bind_some]
 cases b with
 | false => rfl
 | true =>
  have hv := Valid_inv hb2
  have hok := hc.ok ho
  obtain ⟨c1, c2, c3, c4⟩ := hc
  obtain ⟨o1, o2, o3⟩ := ho
  rw [if_neg (by simp), st2_pure d n x.Kids y.Kids [] o3 c4 (fun k hk => ⟨hok.2.2 k hk, n, hv k hk⟩) o2 (by simp only [List.length_nil]; omega) rg_base (by omega), Option.bind_some, lkf2_nil]
  rfl
end Rt
set_option linter.unusedVariables false
set_option linter.unusedSimpArgs false
open Go Go.SL Go.Proofs Pl
namespace Rt
end Rt
set_option linter.unusedVariables false
set_option linter.unusedSimpArgs false
open Go Go.SL Go.Proofs Pl
namespace Rt
theorem brn_ok {d : Nat} {k : M} (h : Ok d k) : (∀ q ∈ brn k, Ok d q) ∧ cntL d (brn k) ≤ cnt d k := by
 cases d with
 | zero => exact h.elim
 | succ d =>
  unfold brn
  split
  ·refine ⟨fun q hq => (h.2.2 q hq).succ, ?_⟩
   rw [cnt_eq]
   have : ∀ l : List M, (∀ q ∈ l, Ok d q) → cntL (d + 1) l = cntL d l := fun l => by
    induction l with
    | nil => intro _; rfl
    | cons q l ih => intro hq; rw [cntL_cons, cntL_cons, cnt_succ (hq q (by simp)), ih fun p hp => hq p (by simp [hp])]
   rw [this k.Kids h.2.2]; omega
  ·exact ⟨fun q hq => by rw [List.mem_singleton] at hq; subst hq; exact h, by simp [cntL]⟩
theorem stm_inv {d : Nat} {ρ ρ' : Env} {x k0 : M} {ks : List M} (hk : x.Kids = k0 :: ks) (h : stm (d + 1) ρ x = .ok ρ') : ∃ t, tyE d ρ k0 = .ok t ∧
  ((x.Kind = 3 ∧ ρ' = ext ρ x.Text t) ∨ (x.Kind = 2 ∧ ρ' = ρ ∧ brs (fun k => foldS (stm d) ρ (brn k)) ks = none) ∨ (x.Kind ≠ 3 ∧ x.Kind ≠ 2 ∧ ρ' = ρ)) := by
 rw [stm, hk] at h
 simp only at h
 cases q : tyE d ρ k0 with
 | error e => rw [q] at h; cases h
 | ok t =>
  rw [q] at h
  simp only at h
  refine ⟨t, rfl, ?_⟩
  split at h
  ·cases h
  ·split at h
   ·rename_i q3
    split at h
    ·cases h; exact .inl ⟨q3, rfl⟩
    ·cases h
   ·rename_i q3
    split at h
    ·rename_i q2
     split at h
     ·cases h
     ·rename_i qb
      cases h; exact .inr (.inl ⟨q2, rfl, qb⟩)
    ·rename_i q2
     cases h; exact .inr (.inr ⟨q3, q2, rfl⟩)
theorem brs_none {g : M → Except Fault Env} : ∀ {l : List M}, brs g l = none → ∀ k ∈ l, ∃ ρ, g k = .ok ρ
 | [], _, k, hk => by cases hk
 | a :: l, h, k, hk => by
  rw [brs] at h
  cases q : g a with
  | error e => rw [q] at h; cases h
  | ok ρ =>
   rw [q] at h
   rcases List.mem_cons.1 hk with rfl | hk
   ·exact ⟨ρ, q⟩
   ·exact brs_none h k hk
theorem foldS_cons {g : Env → M → Except Fault Env} {ρ ρ' : Env} {x : M} {l : List M} (h : foldS g ρ (x :: l) = .ok ρ') : ∃ ρ1, g ρ x = .ok ρ1 ∧ foldS g ρ1 l = .ok ρ' := by
 rw [foldS] at h
 cases q : g ρ x with
 | error e => rw [q] at h; cases h
 | ok ρ1 => rw [q] at h; exact ⟨ρ1, rfl, h⟩
theorem stated_if2 {m : Nat} {x : M} (hk : x.Kind = 2) (h : Jo (m + 1) x = some true) : x.Kids.length ≤ 3 ∧ ∀ c, x.Kids[1]? = some c → c.Kind = 12 := by
 rw [Jo, if_pos (by simpa using hk)] at h
 obtain ⟨a, ha, g⟩ := bnd h
 obtain ⟨b, hb, gg⟩ := bnd g
 cases b with
 | true => rw [if_pos rfl] at gg; cases gg
 | false =>
  cases a with
  | true => rw [if_pos rfl] at hb; cases hb
  | false =>
   cases q : ((decide (x.Text ≠ ([] : Str)) || decide ((x.Kids.length : Int) < 2)) || decide ((x.Kids.length : Int) > 3)) with
   | true => rw [q, if_pos rfl] at ha; cases ha
   | false =>
    simp only [Bool.or_eq_false_iff, decide_eq_false_iff_not] at q
    rw [if_neg (by simp)] at hb
    obtain ⟨c1, hc1, hb⟩ := bnd hb
    obtain ⟨e1, he1, hb⟩ := bnd hb
    have hb : e1 = true := by simpa using hb
    subst hb
    have g1 : x.Kids[1]? = some c1 := by unfold ix at hc1; rw [if_pos (by omega)] at hc1; exact hc1
    refine ⟨by omega, fun c hc => ?_⟩
    rw [g1] at hc; cases hc
    exact (blocked_inv he1).1
end Rt
set_option linter.unusedVariables false
set_option linter.unusedSimpArgs false
open Go Go.SL Go.Proofs Pl
namespace Rt
theorem cvd_up : ∀ (d : Nat) (x : N) (y : M), Cvd d x y → Cvd (d + 1) x y
 | 0, x, y, h => h.elim
 | d + 1, x, y, h => ⟨h.1, h.2.1, h.2.2.1, h.2.2.2.imp_mem fun a _ b hb => cvd_up d a b hb⟩
def brn2 (k : N) : List N := if k.Kind = 2 then [k] else k.Kids
end Rt
set_option linter.unusedVariables false
set_option linter.unusedSimpArgs false
open Go Go.SL Go.Proofs Pl
namespace Rt.Rc
abbrev I := Jj
abbrev Cp := Je
abbrev Sg := Str → Option Int
def num (s : Str) : Int := s.foldl (fun n c => 10 * n + ((c.toNat : Int) - 48)) 0
def sTrue : Str := [116, 114, 117, 101]
def tr (b : Bool) : List I := [⟨1, 0, []⟩, ⟨1, if b then 0 else 1, []⟩, ⟨7, 0, [61, 61]⟩]
theorem tr_len (b : Bool) : (tr b).length = 3 := rfl
def opw (x : M) : Str := if x.Kind = 17 then [43] else if x.Kind = 18 then [45] else if x.Kind = 19 then [42] else x.Text
def nmI (σ : Sg) (s : Str) : I := match σ s with
 | some k => ⟨3, k, []⟩
 | none => ⟨5, 0, s⟩
def cE : Nat → Sg → Nat → M → List I
 | 0, _, _, _ => []
 | d + 1, σ, b, x =>
  if x.Kind = 20 then [⟨1, num x.Text, []⟩]
  else if x.Kind = 21 then [⟨2, 0, x.Text⟩]
  else if x.Kind = 22 then tr (decide (x.Text = sTrue))
  else if x.Kind = 23 then [nmI σ x.Text]
  else match x.Kids with
   | [k] => cE d σ b k ++ [if x.Kind = 24 then ⟨6, 0, x.Text⟩ else ⟨8, 0, []⟩]
   | [k, l] =>
    if x.Kind = 14 then cE d σ b k ++ ⟨10, (b + (cE d σ b k).length + 1 + (cE d σ (b + (cE d σ b k).length + 1) l).length + 1 : Nat), []⟩ :: (cE d σ (b + (cE d σ b k).length + 1) l ++ ⟨9, (b + (cE d σ b k).length + 1 + (cE d σ (b + (cE d σ b k).length + 1) l).length + 4 : Nat), []⟩ :: tr false)
    else if x.Kind = 13 then cE d σ b k ++ ⟨10, (b + (cE d σ b k).length + 5 : Nat), []⟩ :: (tr true ++ ⟨9, (b + (cE d σ b k).length + 5 + (cE d σ (b + (cE d σ b k).length + 5) l).length : Nat), []⟩ :: cE d σ (b + (cE d σ b k).length + 5) l)
    else cE d σ b k ++ (cE d σ (b + (cE d σ b k).length) l ++ [⟨7, 0, opw x⟩])
   | _ => []
def XE (ρ : Env) : Nat → M → Prop
 | 0, _ => False
 | d + 1, x => x.Text.length ≤ 3000 ∧
  ((x.Kind = 20 ∧ nmr x.Text = true ∧ x.Kids = []) ∨ (x.Kind = 21 ∧ prt x.Text = true ∧ x.Kids = []) ∨ (x.Kind = 22 ∧ x.Kids = []) ∨ (x.Kind = 23 ∧ ρ x.Text ≠ 0 ∧ x.Kids = []) ∨
   (((x.Kind = 24 ∧ (fnc x.Text).2 ≠ 0) ∨ x.Kind = 15) ∧ ∃ k, x.Kids = [k] ∧ XE ρ d k) ∨
   ((x.Kind = 13 ∨ x.Kind = 14 ∨ x.Kind = 17 ∨ x.Kind = 18 ∨ x.Kind = 19 ∨ (x.Kind = 16 ∧ cmp x.Text = true)) ∧ ∃ k l, x.Kids = [k, l] ∧ XE ρ d k ∧ XE ρ d l))
theorem kidsE_mem {f : M → Except Fault Int} : ∀ {l : List M} {ts : List Int}, kidsE f l = .ok ts → ∀ k ∈ l, ∃ t, f k = .ok t
 | [], _, _, k, hk => by cases hk
 | a :: l, ts, h, k, hk => by
  rw [kidsE] at h
  cases q : f a with
  | error e => rw [q] at h; cases h
  | ok t =>
   rw [q] at h
   simp only at h
   cases q2 : kidsE f l with
   | error e => rw [q2] at h; cases h
   | ok us =>
    rcases List.mem_cons.1 hk with rfl | hk
    ·exact ⟨t, q⟩
    ·exact kidsE_mem q2 k hk
theorem len2 {α : Type} {l : List α} (h : (l.length : Int) = 2) : ∃ a b, l = [a, b] := by
 match l, h with
 | [a, b], _ => exact ⟨a, b, rfl⟩
 | [], h => simp at h
 | [a], h => simp at h
 | a :: b :: c :: l, h => simp at h; omega
theorem len1 {α : Type} {l : List α} (h : (l.length : Int) = 1) : ∃ a, l = [a] := by
 match l, h with
 | [a], _ => exact ⟨a, rfl⟩
 | [], h => simp at h
 | a :: b :: l, h => simp at h; omega
theorem len0 {α : Type} {l : List α} (h : (l.length : Int) = 0) : l = [] := by
 cases l with
 | nil => rfl
 | cons a l => simp at h; omega
theorem operands_20 {m : Nat} {x : M} {k : Int} (ht : x.Text.length ≤ 3000) (hk : x.Kind = 20) (h : Jr m x = some k) (h2 : k ≠ -2) : nmr x.Text = true := by
 unfold Jr at h
 rw [hk] at h
 rw [if_neg (by decide), if_neg (by decide), if_neg (by decide), if_neg (by decide), if_neg (by decide), if_neg (by decide), if_neg (by decide), if_pos (by decide), digits_eq ht, Option.bind_some] at h
 cases q : nmr x.Text with
 | true => rfl
 | false => rw [q, if_pos (by simp)] at h; cases h; exact absurd rfl h2
theorem operands_21 {m : Nat} {x : M} {k : Int} (ht : x.Text.length ≤ 3000) (hk : x.Kind = 21) (h : Jr m x = some k) (h2 : k ≠ -2) : prt x.Text = true := by
 unfold Jr at h
 rw [hk] at h
 rw [if_neg (by decide), if_neg (by decide), if_neg (by decide), if_neg (by decide), if_neg (by decide), if_neg (by decide), if_neg (by decide), if_neg (by decide), if_pos (by decide), printable_eq (by omega), Option.bind_some] at h
 cases q : prt x.Text with
 | true => rfl
 | false => rw [q, if_pos (by simp)] at h; cases h; exact absurd rfl h2
theorem XE_of {ρ : Env} : ∀ {d m : Nat} {x : M} {t : Int}, Ok d x → Jm m x = some true → tyE d ρ x = .ok t → XE ρ d x
 | 0, _, _, _, h, _, _ => h.elim
 | d + 1, m, x, t, h, hv, ht => by
  obtain ⟨h1, h2, h3⟩ := h
  obtain ⟨m', k, rfl, hk, k2, k3, k4⟩ := expression_inv hv
  rw [tyE] at ht
  cases q : kidsE (tyE d ρ) x.Kids with
  | error e => rw [q] at ht; cases ht
  | ok ts =>
   rw [q] at ht
   simp only at ht
   have hm := kidsE_mem q
   have rec_ : ∀ c ∈ x.Kids, XE ρ d c := fun c hc => by
    obtain ⟨t', h'⟩ := hm c hc
    exact XE_of (h3 c hc) (k4 c hc) h'
   refine ⟨h1, ?_⟩
   have two : k = 2 → ∃ k l, x.Kids = [k, l] ∧ XE ρ d k ∧ XE ρ d l := fun e => by
    obtain ⟨a, b, e⟩ := len2 (by rw [k3 (by omega), e])
    exact ⟨a, b, e, rec_ a (by rw [e]; simp), rec_ b (by rw [e]; simp)⟩
   rcases operands_len hk k2 with ⟨q1, e⟩ | ⟨q1, e⟩ | ⟨q1, e, e2⟩ | ⟨q1, e⟩ | ⟨q1, e⟩
   ·exact .inr (.inr (.inr (.inr (.inr ⟨by omega, two e⟩))))
   ·obtain ⟨a, e⟩ := len1 (by rw [k3 (by omega), e])
    exact .inr (.inr (.inr (.inr (.inl ⟨.inr q1, a, e, rec_ a (by rw [e]; simp)⟩))))
   ·exact .inr (.inr (.inr (.inr (.inr ⟨.inr (.inr (.inr (.inr (.inr ⟨q1, e2⟩)))), two e⟩))))
   ·have e0 : x.Kids = [] := len0 (by rw [k3 (by omega), e])
    rcases q1 with q1 | q1 | q1 | q1
    ·exact .inl ⟨q1, operands_20 h1 q1 hk k2, e0⟩
    ·exact .inr (.inl ⟨q1, operands_21 h1 q1 hk k2, e0⟩)
    ·exact .inr (.inr (.inl ⟨q1, e0⟩))
    ·refine .inr (.inr (.inr (.inl ⟨q1, fun hz => ?_, e0⟩)))
     unfold tyN at ht
     rw [if_neg (by omega), if_neg (by omega), if_neg (by omega), if_pos q1, if_pos hz] at ht
     cases ht
   ·unfold tyN at ht
    rw [if_neg (by omega), if_neg (by omega), if_neg (by omega), if_neg (by omega), if_pos q1] at ht
    by_cases q0 : (fnc x.Text).2 = 0
    ·rw [if_pos q0] at ht; cases ht
    ·rw [if_neg q0] at ht
     by_cases q3 : ts = [(fnc x.Text).1]
     ·have hl := kidsE_len q
      obtain ⟨a, e'⟩ := len1 (l := x.Kids) (by rw [← hl, q3]; rfl)
      exact .inr (.inr (.inr (.inr (.inl ⟨.inl ⟨q1, q0⟩, a, e', rec_ a (by rw [e']; simp)⟩))))
     ·rw [if_neg q3] at ht; cases ht
theorem cE_len {σ : Sg} : ∀ (d b : Nat) (x : M), (cE d σ b x).length ≤ 6 * cnt d x
 | 0, b, x => by simp [cE]
 | d + 1, b, x => by
  rw [cE, cnt_eq]
  by_cases q20 : x.Kind = 20; · rw [if_pos q20]; simp; omega
  by_cases q21 : x.Kind = 21; · rw [if_neg q20, if_pos q21]; simp; omega
  by_cases q22 : x.Kind = 22; · rw [if_neg q20, if_neg q21, if_pos q22, tr_len]; omega
  by_cases q23 : x.Kind = 23; · rw [if_neg q20, if_neg q21, if_neg q22, if_pos q23]; simp; omega
  rw [if_neg q20, if_neg q21, if_neg q22, if_neg q23]
  split
  ·rename_i k e
   have := cE_len (σ := σ) d b k
   rw [e, cntL_cons]
   simp only [List.length_append, List.length_cons, List.length_nil]; omega
  ·rename_i k l e
   rw [e, cntL_cons, cntL_cons]
   have h1 := cE_len (σ := σ) d b k
   split
   ·have h2 := cE_len (σ := σ) d (b + (cE d σ b k).length + 1) l
    simp only [List.length_append, List.length_cons, tr_len]; omega
   ·split
    ·have h2 := cE_len (σ := σ) d (b + (cE d σ b k).length + 5) l
     simp only [List.length_append, List.length_cons, tr_len]; omega
    ·have h2 := cE_len (σ := σ) d (b + (cE d σ b k).length) l
     simp only [List.length_append, List.length_cons, List.length_nil]; omega
  ·simp
def sgP (nm : List Jh) : Sg := fun s => (nm.reverse.find? (fun b => decide (b.name = s))).map (·.slot)
theorem emit_eq {C : List I} {nm : List Jh} {k op n : Int} {s : Str} (h : C.length ≤ 1000000) : Jf ⟨C, nm, k⟩ op n s = some ((C.length : Int), ⟨C ++ [⟨op, n, s⟩], nm, k⟩) := by
 unfold Jf
 rw [chk_bind (by simp only [List.length_cons, List.length_nil, lim]; omega), chk_bind (by simp only [List.length_append, List.length_cons, List.length_nil]; constructor <;> omega)]
 simp
theorem here_eq {C D : List I} {i : I} {nm : List Jh} {k : Int} : Jv ⟨C ++ i :: D, nm, k⟩ (C.length : Int) = some ⟨C ++ ⟨i.Op, ((C ++ i :: D).length : Int), i.S⟩ :: D, nm, k⟩ := by
 unfold Jv ix
 rw [if_pos (by omega), show ((C.length : Nat) : Int).toNat = C.length from by simp]
 simp
theorem here_at {L C D : List I} {i : I} {j : Int} {nm : List Jh} {k : Int} (t : Nat) (hL : L = C ++ i :: D) (hj : j = (C.length : Int)) (ht : L.length = t) : Jv ⟨L, nm, k⟩ j = some ⟨C ++ ⟨i.Op, (t : Int), i.S⟩ :: D, nm, k⟩ := by
 subst hL hj ht; exact here_eq
theorem truth_eq {C : List I} {nm : List Jh} {k : Int} {b : Bool} (h : C.length ≤ 900000) : JQ ⟨C, nm, k⟩ b = some ⟨C ++ tr b, nm, k⟩ := by
 unfold JQ
 cases b with
 | true => rw [if_pos rfl, emit_eq (by omega), Option.bind_some, emit_eq (by simp; omega), Option.bind_some, emit_eq (by simp; omega), Option.bind_some]; simp [tr]
 | false => rw [if_neg (by simp), emit_eq (by omega), Option.bind_some, emit_eq (by simp; omega), Option.bind_some, emit_eq (by simp; omega), Option.bind_some]; simp [tr]
theorem name_L0_eq {C : List I} {nm : List Jh} {k : Int} {s : Str} (hC : C.length ≤ 1000000) (hl : nm.length ≤ 100000) : ∀ (j n : Nat), j ≤ nm.length → j + 1 ≤ n →
  JR ⟨C, nm, k⟩ s n ((j : Int) - 1) = some (match (nm.take j).reverse.find? (fun b => decide (b.name = s)) with
   | some b => Fl.ret ⟨C ++ [⟨3, b.slot, []⟩], nm, k⟩
   | none => Fl.go (-1))
 | 0, n + 1, _, _ => by
  rw [JR, if_neg (by simp)]; simp
 | j + 1, n + 1, hj, hn => by
  have hlt : j < nm.length := by omega
  rw [JR, if_pos (by simp), show (((j + 1 : Nat) : Int) - 1) = (j : Int) by omega]
  simp only
  rw [ixn hlt, Option.bind_some, Option.bind_some, List.take_succ_eq_append_getElem hlt, List.reverse_append, List.reverse_cons, List.reverse_nil, List.nil_append, List.cons_append, List.find?_cons]
  by_cases q : nm[j].name = s
  ·rw [if_pos (by simpa using q), emit_eq hC, Option.bind_some, decide_eq_true q]
  ·rw [if_neg (by simpa using q), chk_bind (by constructor <;> omega), name_L0_eq hC hl j n (by omega) (by omega), decide_eq_false q]
   rfl
theorem name_eq {C : List I} {nm : List Jh} {k : Int} {s : Str} {n : Nat} (hC : C.length ≤ 1000000) (hl : nm.length ≤ 100000) (hn : nm.length + 1 ≤ n) : JaA n ⟨C, nm, k⟩ s = some ⟨C ++ [nmI (sgP nm) s], nm, k⟩ := by
 unfold JaA
 rw [chk_bind (by simp only []; constructor <;> omega)]
 have h := name_L0_eq (s := s) (k := k) hC hl nm.length n (by omega) hn
 rw [List.take_length] at h
 simp only at h ⊢
 rw [h, Option.bind_some]
 unfold nmI sgP
 cases q : nm.reverse.find? (fun b => decide (b.name = s)) with
 | some b => rw [el_ret]; rfl
 | none => rw [el_go, emit_eq hC, Option.bind_some]; rfl
theorem digitVal_eq {c : UInt8} (h : isD c = true) : Go.Lib.digitVal c = some (c.toNat - 48) := by
 simp only [isD, Bool.and_eq_true, decide_eq_true_eq] at h
 unfold Go.Lib.digitVal
 rw [if_pos (by omega)]
theorem decFrom_eq : ∀ (s : Str) (a : Nat), s.all isD = true → Go.Lib.decFrom a s = some (s.foldl (fun n c => 10 * n + (c.toNat - 48)) a)
 | [], a, _ => rfl
 | c :: s, a, h => by
  simp only [List.all_cons, Bool.and_eq_true] at h
  rw [Go.Lib.decFrom, digitVal_eq h.1]
  simp only
  rw [decFrom_eq s _ h.2, List.foldl_cons, Nat.mul_comm a 10]
theorem num_cast : ∀ (s : Str) (a : Nat), s.all isD = true → s.foldl (fun (n : Int) c => 10 * n + ((c.toNat : Int) - 48)) (a : Int) = ((s.foldl (fun n c => 10 * n + (c.toNat - 48)) a : Nat) : Int)
 | [], a, _ => rfl
 | c :: s, a, h => by
  simp only [List.all_cons, Bool.and_eq_true] at h
  have h1 := h.1
  simp only [isD, Bool.and_eq_true, decide_eq_true_eq] at h1
  rw [List.foldl_cons, List.foldl_cons, ← num_cast s _ h.2]
  congr 1
  omega
theorem nmr_all {s : Str} (h : nmr s = true) : s.all isD = true ∧ s.length ≤ 9 ∧ 1 ≤ s.length := by
 cases s with
 | nil => simp [nmr] at h
 | cons c t =>
  simp only [nmr, Bool.and_eq_true, decide_eq_true_eq] at h
  exact ⟨by rw [List.all_cons, h.1.1, h.1.2]; rfl, by simp; omega, by simp⟩
theorem atoiEq {s : Str} (h : nmr s = true) : atoiM s = some (num s, none) := by
 obtain ⟨h1, h2, h3⟩ := nmr_all h
 unfold atoiM
 rw [if_pos (by omega)]
 have e : Go.Lib.atoi s = some (num s) := by
  cases s with
  | nil => simp at h3
  | cons c t =>
   have hc : isD c = true := by simp only [List.all_cons, Bool.and_eq_true] at h1; exact h1.1
   simp only [isD, Bool.and_eq_true, decide_eq_true_eq] at hc
   have n1 : (c == 45) = false := by
    rw [beq_eq_false_iff_ne]; intro e; subst e; simp at hc
   have n2 : (c == 43) = false := by
    rw [beq_eq_false_iff_ne]; intro e; subst e; simp at hc
   rw [Go.Lib.atoi, n1, n2]
   simp only [Bool.false_eq_true, if_false]
   rw [Go.Lib.decNat]
   simp only [List.isEmpty_cons, Bool.false_eq_true, if_false]
   rw [decFrom_eq _ _ h1, Option.map_some, num, ← num_cast _ 0 h1]
   rfl
 rw [e]; rfl
theorem cE_20 {d b : Nat} {σ : Sg} {x : M} (h : x.Kind = 20) : cE (d + 1) σ b x = [⟨1, num x.Text, []⟩] := by rw [cE, if_pos h]
theorem cE_21 {d b : Nat} {σ : Sg} {x : M} (h : x.Kind = 21) : cE (d + 1) σ b x = [⟨2, 0, x.Text⟩] := by rw [cE, if_neg (by omega), if_pos h]
theorem cE_22 {d b : Nat} {σ : Sg} {x : M} (h : x.Kind = 22) : cE (d + 1) σ b x = tr (decide (x.Text = sTrue)) := by rw [cE, if_neg (by omega), if_neg (by omega), if_pos h]
theorem cE_23 {d b : Nat} {σ : Sg} {x : M} (h : x.Kind = 23) : cE (d + 1) σ b x = [nmI σ x.Text] := by rw [cE, if_neg (by omega), if_neg (by omega), if_neg (by omega), if_pos h]
theorem cE_24 {d b : Nat} {σ : Sg} {x k : M} (h : x.Kind = 24) (hk : x.Kids = [k]) : cE (d + 1) σ b x = cE d σ b k ++ [⟨6, 0, x.Text⟩] := by
 rw [cE, if_neg (by omega), if_neg (by omega), if_neg (by omega), if_neg (by omega), hk]; simp only; rw [if_pos h]
theorem cE_15 {d b : Nat} {σ : Sg} {x k : M} (h : x.Kind = 15) (hk : x.Kids = [k]) : cE (d + 1) σ b x = cE d σ b k ++ [⟨8, 0, []⟩] := by
 rw [cE, if_neg (by omega), if_neg (by omega), if_neg (by omega), if_neg (by omega), hk]; simp only; rw [if_neg (by omega)]
theorem cE_14 {d b : Nat} {σ : Sg} {x k l : M} (h : x.Kind = 14) (hk : x.Kids = [k, l]) : cE (d + 1) σ b x = cE d σ b k ++ ⟨10, (b + (cE d σ b k).length + 1 + (cE d σ (b + (cE d σ b k).length + 1) l).length + 1 : Nat), []⟩ :: (cE d σ (b + (cE d σ b k).length + 1) l ++ ⟨9, (b + (cE d σ b k).length + 1 + (cE d σ (b + (cE d σ b k).length + 1) l).length + 4 : Nat), []⟩ :: tr false) := by
 rw [cE, if_neg (by omega), if_neg (by omega), if_neg (by omega), if_neg (by omega), hk]; simp only; rw [if_pos h]
theorem cE_13 {d b : Nat} {σ : Sg} {x k l : M} (h : x.Kind = 13) (hk : x.Kids = [k, l]) : cE (d + 1) σ b x = cE d σ b k ++ ⟨10, (b + (cE d σ b k).length + 5 : Nat), []⟩ :: (tr true ++ ⟨9, (b + (cE d σ b k).length + 5 + (cE d σ (b + (cE d σ b k).length + 5) l).length : Nat), []⟩ :: cE d σ (b + (cE d σ b k).length + 5) l) := by
 rw [cE, if_neg (by omega), if_neg (by omega), if_neg (by omega), if_neg (by omega), hk]; simp only; rw [if_neg (by omega), if_pos h]
theorem cE_op {d b : Nat} {σ : Sg} {x k l : M} (h : x.Kind = 17 ∨ x.Kind = 18 ∨ x.Kind = 19 ∨ x.Kind = 16) (hk : x.Kids = [k, l]) : cE (d + 1) σ b x = cE d σ b k ++ (cE d σ (b + (cE d σ b k).length) l ++ [⟨7, 0, opw x⟩]) := by
 rw [cE, if_neg (by omega), if_neg (by omega), if_neg (by omega), if_neg (by omega), hk]; simp only; rw [if_neg (by omega), if_neg (by omega)]
theorem ix0 {α : Type} {a : α} {l : List α} : ix (a :: l) 0 = some a := rfl
theorem ix1 {α : Type} {a b : α} {l : List α} : ix (a :: b :: l) 1 = some b := rfl
theorem pboth {n : Nat} {f : Cp → M → Option Cp} {c c1 c2 : Cp} {x k l : M} {w : Str} (hk : x.Kids = [k, l]) (h1 : f c k = some c1) (h2 : f c1 l = some c2) (hl : c2.code.length ≤ 1000000) :
  JY f n c x w = some ⟨c2.code ++ [⟨7, 0, w⟩], c2.names, c2.slots⟩ := by
 unfold JY
 rw [hk, ix0, Option.bind_some, h1, Option.bind_some, ix1, Option.bind_some, h2, Option.bind_some, emit_eq hl, Option.bind_some]
theorem pand {f : Cp → M → Option Cp} {C A B : List I} {nm : List Jh} {z : Int} {k l : M} (h1 : f ⟨C, nm, z⟩ k = some ⟨C ++ A, nm, z⟩) (h2 : f ⟨C ++ A ++ [⟨10, 0, []⟩], nm, z⟩ l = some ⟨C ++ A ++ [⟨10, 0, []⟩] ++ B, nm, z⟩) (hl : C.length + A.length + B.length ≤ 800000) :
  ((f ⟨C, nm, z⟩ k).bind fun x95 => (Jf x95 10 0 []).bind fun x97 => (f x97.2 l).bind fun x103 => (Jf x103 9 0 []).bind fun x105 => (Jv x105.2 x97.1).bind fun x108 =>
   (JQ x108 false).bind fun x110 => (Jv x110 x105.1).bind fun x113 => some x113) = some ⟨C ++ (A ++ ⟨10, (C.length + A.length + 1 + B.length + 1 : Nat), []⟩ :: (B ++ ⟨9, (C.length + A.length + 1 + B.length + 4 : Nat), []⟩ :: tr false)), nm, z⟩ := by
 rw [h1, Option.bind_some, emit_eq (by simp; omega), Option.bind_some]
 simp only
 rw [h2, Option.bind_some, emit_eq (by simp; omega), Option.bind_some]
 simp only
 rw [here_at (C := C ++ A) (i := ⟨10, 0, []⟩) (D := B ++ [⟨9, 0, []⟩]) (C.length + A.length + 1 + B.length + 1) (by simp) rfl (by simp; omega), Option.bind_some, truth_eq (by simp; omega), Option.bind_some]
 rw [here_at (C := C ++ A ++ (⟨10, (C.length + A.length + 1 + B.length + 1 : Nat), []⟩ : I) :: B) (i := ⟨9, 0, []⟩) (D := tr false) (C.length + A.length + 1 + B.length + 4) (by simp) (by simp) (by simp [tr_len]; omega), Option.bind_some]
 simp only [List.append_assoc, List.cons_append, List.nil_append]
theorem por {f : Cp → M → Option Cp} {C A B : List I} {nm : List Jh} {z : Int} {k l : M} (h1 : f ⟨C, nm, z⟩ k = some ⟨C ++ A, nm, z⟩)
  (h2 : f ⟨C ++ (A ++ ⟨10, (C.length + A.length + 5 : Nat), []⟩ :: (tr true ++ [⟨9, 0, []⟩])), nm, z⟩ l = some ⟨C ++ (A ++ ⟨10, (C.length + A.length + 5 : Nat), []⟩ :: (tr true ++ [⟨9, 0, []⟩])) ++ B, nm, z⟩) (hl : C.length + A.length + B.length ≤ 800000) :
  ((f ⟨C, nm, z⟩ k).bind fun x121 => (Jf x121 10 0 []).bind fun x123 => (JQ x123.2 true).bind fun x125 => (Jf x125 9 0 []).bind fun x127 => (Jv x127.2 x123.1).bind fun x130 =>
   (f x130 l).bind fun x136 => (Jv x136 x127.1).bind fun x139 => some x139) = some ⟨C ++ (A ++ ⟨10, (C.length + A.length + 5 : Nat), []⟩ :: (tr true ++ ⟨9, (C.length + A.length + 5 + B.length : Nat), []⟩ :: B)), nm, z⟩ := by
 rw [h1, Option.bind_some, emit_eq (by simp; omega), Option.bind_some]
 simp only
 rw [truth_eq (by simp; omega), Option.bind_some, emit_eq (by simp [tr_len]; omega), Option.bind_some]
 simp only
 rw [here_at (C := C ++ A) (i := ⟨10, 0, []⟩) (D := tr true ++ [⟨9, 0, []⟩]) (C.length + A.length + 5) (by simp) (by simp) (by simp [tr_len]; omega), Option.bind_some, List.append_assoc]
 simp only
 rw [h2, Option.bind_some]
 rw [here_at (C := C ++ (A ++ ⟨10, (C.length + A.length + 5 : Nat), []⟩ :: tr true)) (i := ⟨9, 0, []⟩) (D := B) (C.length + A.length + 5 + B.length) (by simp) (by simp [tr_len]) (by simp [tr_len]; omega), Option.bind_some]
 simp only [List.append_assoc, List.cons_append, List.nil_append]
theorem pexpr {ρ : Env} {nm : List Jh} {z : Int} (hnm : nm.length ≤ 100000) : ∀ (d n : Nat) (C : List I) (x : M), XE ρ d x → d + 200000 ≤ n → C.length + 6 * cnt d x ≤ 800000 →
  Jw n ⟨C, nm, z⟩ x = some ⟨C ++ cE d (sgP nm) C.length x, nm, z⟩
 | 0, _, _, _, h, _, _ => h.elim
 | d + 1, 0, _, _, _, hn, _ => by omega
 | d + 1, n + 1, C, x, ⟨h1, h2⟩, hn, hC => by
  rw [cnt_eq] at hC
  rw [Jw]
  rcases h2 with ⟨q, ht, hk⟩ | ⟨q, ht, hk⟩ | ⟨q, hk⟩ | ⟨q, ht, hk⟩ | ⟨q, k, hk, hx⟩ | ⟨q, k, l, hk, hx, hy⟩
  ·rw [if_pos (by simpa using q), atoiEq ht, Option.bind_some, if_neg (by simp), emit_eq (by omega), Option.bind_some, cE_20 q]
  ·rw [if_neg (by simp; omega), if_pos (by simpa using q), emit_eq (by omega), Option.bind_some, cE_21 q]
  ·rw [if_neg (by simp; omega), if_neg (by simp; omega), if_pos (by simpa using q), truth_eq (by omega), Option.bind_some, cE_22 q]; rfl
  ·rw [if_neg (by simp; omega), if_neg (by simp; omega), if_neg (by simp; omega), if_pos (by simpa using q), name_eq (by omega) hnm (by omega), Option.bind_some, cE_23 q]
  ·rw [hk, cntL_cons] at hC
   have hl := cE_len (σ := sgP nm) d C.length k
   have e := pexpr (z := z) hnm d n C k hx (by omega) (by omega)
   rcases q with ⟨q, _⟩ | q
   ·rw [if_neg (by simp; omega), if_neg (by simp; omega), if_neg (by simp; omega), if_neg (by simp; omega), if_pos (by simpa using q), hk, ix0, Option.bind_some, e, Option.bind_some, emit_eq (by simp; omega), Option.bind_some, cE_24 q hk, List.append_assoc]
   ·rw [if_neg (by simp; omega), if_neg (by simp; omega), if_neg (by simp; omega), if_neg (by simp; omega), if_neg (by simp; omega), if_pos (by simpa using q), hk, ix0, Option.bind_some, e, Option.bind_some, emit_eq (by simp; omega), Option.bind_some, cE_15 q hk, List.append_assoc]
  ·rw [hk, cntL_cons, cntL_cons] at hC
   have hl := cE_len (σ := sgP nm) d C.length k
   have e := pexpr (z := z) hnm d n C k hx (by omega) (by omega)
   have both : ∀ w, opw x = w → (x.Kind = 17 ∨ x.Kind = 18 ∨ x.Kind = 19 ∨ x.Kind = 16) → JY (Jw n) n ⟨C, nm, z⟩ x w = some ⟨C ++ cE (d + 1) (sgP nm) C.length x, nm, z⟩ := fun w hw hq => by
    have e2 := pexpr (z := z) hnm d n (C ++ cE d (sgP nm) C.length k) l hy (by omega) (by simp only [List.length_append]; omega)
    have hl2 := cE_len (σ := sgP nm) d (C ++ cE d (sgP nm) C.length k).length l
    rw [pboth hk e e2 (by simp only [List.length_append] at hl2 ⊢; omega), cE_op hq hk, hw]
    simp only [List.length_append, List.append_assoc]
   by_cases q17 : x.Kind = 17
   ·rw [if_neg (by simp; omega), if_neg (by simp; omega), if_neg (by simp; omega), if_neg (by simp; omega), if_neg (by simp; omega), if_neg (by simp; omega), if_pos (by simpa using q17), both [43] (by simp [opw, q17]) (by omega), Option.bind_some]
   by_cases q18 : x.Kind = 18
   ·rw [if_neg (by simp; omega), if_neg (by simp; omega), if_neg (by simp; omega), if_neg (by simp; omega), if_neg (by simp; omega), if_neg (by simp; omega), if_neg (by simp; omega), if_pos (by simpa using q18), both [45] (by simp [opw, q18]) (by omega), Option.bind_some]
   by_cases q19 : x.Kind = 19
   ·rw [if_neg (by simp; omega), if_neg (by simp; omega), if_neg (by simp; omega), if_neg (by simp; omega), if_neg (by simp; omega), if_neg (by simp; omega), if_neg (by simp; omega), if_neg (by simp; omega), if_pos (by simpa using q19), both [42] (by simp [opw, q19]) (by omega), Option.bind_some]
   by_cases q16 : x.Kind = 16
   ·rw [if_neg (by simp; omega), if_neg (by simp; omega), if_neg (by simp; omega), if_neg (by simp; omega), if_neg (by simp; omega), if_neg (by simp; omega), if_neg (by simp; omega), if_neg (by simp; omega), if_neg (by simp; omega), if_pos (by simpa using q16), both x.Text (by simp [opw, q16]) (by omega), Option.bind_some]
   by_cases q14 : x.Kind = 14
   ·have hl2 := cE_len (σ := sgP nm) d (C.length + (cE d (sgP nm) C.length k).length + 1) l
    have e2 := pexpr (z := z) hnm d n (C ++ cE d (sgP nm) C.length k ++ [⟨10, 0, []⟩]) l hy (by omega) (by simp only [List.length_append, List.length_cons, List.length_nil]; omega)
    simp only [List.length_append, List.length_cons, List.length_nil, Nat.zero_add] at e2
    have h := pand e e2 (by omega)
    rw [if_neg (by simp; omega), if_neg (by simp; omega), if_neg (by simp; omega), if_neg (by simp; omega), if_neg (by simp; omega), if_neg (by simp; omega), if_neg (by simp; omega), if_neg (by simp; omega), if_neg (by simp; omega), if_neg (by simp; omega), if_pos (by simpa using q14), hk, ix0, Option.bind_some, ix1]
    simp only [Option.bind_some] at h ⊢
    rw [h, cE_14 q14 hk]
   ·have q13 : x.Kind = 13 := by omega
    have hl2 := cE_len (σ := sgP nm) d (C.length + (cE d (sgP nm) C.length k).length + 5) l
    have e2 := pexpr (z := z) hnm d n (C ++ (cE d (sgP nm) C.length k ++ ⟨10, (C.length + (cE d (sgP nm) C.length k).length + 5 : Nat), []⟩ :: (tr true ++ [⟨9, 0, []⟩]))) l hy (by omega) (by simp only [List.length_append, List.length_cons, List.length_nil, tr_len]; omega)
    rw [show (C ++ (cE d (sgP nm) C.length k ++ (⟨10, (C.length + (cE d (sgP nm) C.length k).length + 5 : Nat), []⟩ : I) :: (tr true ++ [⟨9, 0, []⟩]))).length = C.length + (cE d (sgP nm) C.length k).length + 5 by simp [tr_len]; omega] at e2
    have h := por e e2 (by omega)
    rw [if_neg (by simp; omega), if_neg (by simp; omega), if_neg (by simp; omega), if_neg (by simp; omega), if_neg (by simp; omega), if_neg (by simp; omega), if_neg (by simp; omega), if_neg (by simp; omega), if_neg (by simp; omega), if_neg (by simp; omega), if_neg (by simp; omega), if_pos (by simpa using q13), hk, ix0, Option.bind_some, ix1]
    simp only [Option.bind_some] at h ⊢
    rw [h, cE_13 q13 hk]
end Rt.Rc
set_option linter.unusedVariables false
set_option linter.unusedSimpArgs false
open Go Go.SL Go.Proofs Pl
namespace Rt.Rc
def acw (x : M) : Option Str :=
 if x.Kind = 4 then some x.Text
 else if x.Kind = 5 then some ([104, 101, 97, 100, 101, 114, 58] ++ x.Text)
 else if x.Kind = 6 then some ([118, 97, 114, 121, 58] ++ x.Text)
 else if x.Kind = 7 then some [116, 97, 103]
 else if x.Kind = 8 then some [116, 116, 108]
 else if x.Kind = 9 then some [100, 101, 110, 121]
 else if x.Kind = 10 then some [112, 97, 115, 115]
 else if x.Kind = 11 then some [116, 111, 107, 101, 110]
 else none
def acs (x : M) : List I := match acw x with
 | some w => [⟨11, 0, w⟩]
 | none => []
theorem acs_len (x : M) : (acs x).length ≤ 1 := by unfold acs; split <;> simp
def foldC (g : Sg → Int → Nat → M → List I × Int × Sg) : Sg → Int → Nat → List M → List I × Int
 | _, k, _, [] => ([], k)
 | σ, k, b, x :: l => ((g σ k b x).1 ++ (foldC g (g σ k b x).2.2 (g σ k b x).2.1 (b + (g σ k b x).1.length) l).1, (foldC g (g σ k b x).2.2 (g σ k b x).2.1 (b + (g σ k b x).1.length) l).2)
def upd (σ : Sg) (s : Str) (k : Int) : Sg := fun q => if s = q then some k else σ q
def if2 (b : Nat) (A T : List I) : List I := A ++ ⟨10, (b + A.length + 1 + T.length : Nat), []⟩ :: T
def if3 (b : Nat) (A T O : List I) : List I := A ++ ⟨10, (b + A.length + 1 + T.length + 1 : Nat), []⟩ :: (T ++ ⟨9, (b + A.length + 1 + T.length + 1 + O.length : Nat), []⟩ :: O)
def hdC (d : Nat) (σ : Sg) (b : Nat) : List M → List I
 | [] => []
 | e :: _ => cE d σ b e
def cS : Nat → Sg → Int → Nat → M → List I × Int × Sg
 | 0, σ, k, _, _ => ([], k, σ)
 | d + 1, σ, k, b, x =>
  if x.Kind = 2 then match x.Kids with
   | [e, t] => (if2 b (cE d σ b e) (foldC (cS d) σ k (b + (cE d σ b e).length + 1) t.Kids).1, (foldC (cS d) σ k (b + (cE d σ b e).length + 1) t.Kids).2, σ)
   | [e, t, o] => (if3 b (cE d σ b e) (foldC (cS d) σ k (b + (cE d σ b e).length + 1) t.Kids).1 (foldC (cS d) σ (foldC (cS d) σ k (b + (cE d σ b e).length + 1) t.Kids).2 (b + (cE d σ b e).length + 1 + (foldC (cS d) σ k (b + (cE d σ b e).length + 1) t.Kids).1.length + 1) (brn o)).1,
     (foldC (cS d) σ (foldC (cS d) σ k (b + (cE d σ b e).length + 1) t.Kids).2 (b + (cE d σ b e).length + 1 + (foldC (cS d) σ k (b + (cE d σ b e).length + 1) t.Kids).1.length + 1) (brn o)).2, σ)
   | _ => ([], k, σ)
  else if x.Kind = 3 then (hdC d σ b x.Kids ++ [⟨4, k, []⟩], k + 1, upd σ x.Text k)
  else (hdC d σ b x.Kids ++ acs x, k, σ)
theorem cS_2 {d b : Nat} {σ : Sg} {k : Int} {x e t : M} (h : x.Kind = 2) (hk : x.Kids = [e, t]) {T : List I × Int} (hT : foldC (cS d) σ k (b + (cE d σ b e).length + 1) t.Kids = T) : cS (d + 1) σ k b x = (if2 b (cE d σ b e) T.1, T.2, σ) := by
 rw [cS, if_pos h, hk]; simp only; rw [hT]
theorem cS_3 {d b : Nat} {σ : Sg} {k : Int} {x e t o : M} (h : x.Kind = 2) (hk : x.Kids = [e, t, o]) {T O : List I × Int} (hT : foldC (cS d) σ k (b + (cE d σ b e).length + 1) t.Kids = T)
  (hO : foldC (cS d) σ T.2 (b + (cE d σ b e).length + 1 + T.1.length + 1) (brn o) = O) : cS (d + 1) σ k b x = (if3 b (cE d σ b e) T.1 O.1, O.2, σ) := by
 rw [cS, if_pos h, hk]; simp only; rw [hT, hO]
theorem cS_let {d b : Nat} {σ : Sg} {k : Int} {x : M} (h : x.Kind = 3) : cS (d + 1) σ k b x = (hdC d σ b x.Kids ++ [⟨4, k, []⟩], k + 1, upd σ x.Text k) := by
 rw [cS, if_neg (by omega), if_pos h]
theorem cS_act {d b : Nat} {σ : Sg} {k : Int} {x : M} (h2 : x.Kind ≠ 2) (h3 : x.Kind ≠ 3) : cS (d + 1) σ k b x = (hdC d σ b x.Kids ++ acs x, k, σ) := by
 rw [cS, if_neg h2, if_neg h3]
theorem hdC_len {d b : Nat} {σ : Sg} : ∀ (l : List M), (hdC d σ b l).length ≤ 6 * cntL d l
 | [] => by simp [hdC]
 | e :: l => by
  have := cE_len (σ := σ) d b e
  rw [hdC, cntL_cons]; omega
theorem foldC_len {d : Nat} {g : Sg → Int → Nat → M → List I × Int × Sg} : ∀ (l : List M) (σ : Sg) (k : Int) (b : Nat), (∀ x ∈ l, ∀ σ k b, (g σ k b x).1.length ≤ 6 * cnt d x ∧ k ≤ (g σ k b x).2.1 ∧ (g σ k b x).2.1 ≤ k + cnt d x) → (foldC g σ k b l).1.length ≤ 6 * cntL d l ∧ k ≤ (foldC g σ k b l).2 ∧ (foldC g σ k b l).2 ≤ k + cntL d l
 | [], σ, k, b, _ => by simp [foldC, cntL]
 | x :: l, σ, k, b, h => by
  obtain ⟨h1, h2, h3⟩ := h x (by simp) σ k b
  obtain ⟨g1, g2, g3⟩ := foldC_len (d := d) l (g σ k b x).2.2 (g σ k b x).2.1 (b + (g σ k b x).1.length) fun q hq => h q (by simp [hq])
  rw [foldC, cntL_cons]
  simp only [List.length_append]
  omega
theorem cS_len : ∀ (d : Nat) (x : M), Ok d x → ∀ (σ : Sg) (k : Int) (b : Nat), (cS d σ k b x).1.length ≤ 6 * cnt d x ∧ k ≤ (cS d σ k b x).2.1 ∧ (cS d σ k b x).2.1 ≤ k + cnt d x
 | 0, x, h, _, _, _ => h.elim
 | d + 1, x, h, σ, k, b => by
  obtain ⟨h1, h2, h3⟩ := h
  rw [cnt_eq]
  have kidsL : ∀ t ∈ x.Kids, ∀ (σ : Sg) (k : Int) (b : Nat), (foldC (cS d) σ k b t.Kids).1.length ≤ 6 * cnt d t ∧ k ≤ (foldC (cS d) σ k b t.Kids).2 ∧ (foldC (cS d) σ k b t.Kids).2 ≤ k + cnt d t := fun t ht σ k b => by
   have hok := h3 t ht
   cases d with
   | zero => exact hok.elim
   | succ d =>
    obtain ⟨g1, g2, g3⟩ := foldC_len (d := d + 1) (g := cS (d + 1)) t.Kids σ k b fun q hq => cS_len (d + 1) q (hok.2.2 q hq).succ
    have e : cntL (d + 1) t.Kids = cntL d t.Kids := by
     unfold cntL
     congr 1
     exact List.map_congr_left fun q hq => cnt_succ (hok.2.2 q hq)
    rw [cnt_eq]
    rw [e] at g1 g3
    omega
  have brL : ∀ t ∈ x.Kids, ∀ (σ : Sg) (k : Int) (b : Nat), (foldC (cS d) σ k b (brn t)).1.length ≤ 6 * cnt d t ∧ k ≤ (foldC (cS d) σ k b (brn t)).2 ∧ (foldC (cS d) σ k b (brn t)).2 ≤ k + cnt d t := fun t ht σ k b => by
   obtain ⟨o1, o2⟩ := brn_ok (h3 t ht)
   obtain ⟨g1, g2, g3⟩ := foldC_len (d := d) (g := cS d) (brn t) σ k b fun q hq => cS_len d q (o1 q hq)
   omega
  by_cases q2 : x.Kind = 2
  ·rw [cS, if_pos q2]
   split
   ·rename_i e t hk
    have hA := cE_len (σ := σ) d b e
    obtain ⟨t1, t2, t3⟩ := kidsL t (by rw [hk]; simp) σ k (b + (cE d σ b e).length + 1)
    rw [hk, cntL_cons, cntL_cons]
    simp only [if2, List.length_append, List.length_cons]
    omega
   ·rename_i e t o hk
    have hA := cE_len (σ := σ) d b e
    obtain ⟨t1, t2, t3⟩ := kidsL t (by rw [hk]; simp) σ k (b + (cE d σ b e).length + 1)
    obtain ⟨o1, o2, o3⟩ := brL o (by rw [hk]; simp) σ (foldC (cS d) σ k (b + (cE d σ b e).length + 1) t.Kids).2 (b + (cE d σ b e).length + 1 + (foldC (cS d) σ k (b + (cE d σ b e).length + 1) t.Kids).1.length + 1)
    rw [hk, cntL_cons, cntL_cons, cntL_cons]
    simp only [if3, List.length_append, List.length_cons]
    omega
   ·simp; omega
  ·have hA := hdC_len (σ := σ) (d := d) (b := b) x.Kids
   by_cases q3 : x.Kind = 3
   ·rw [cS_let q3]
    simp only [List.length_append, List.length_cons, List.length_nil]
    omega
   ·rw [cS_act q2 q3]
    have := acs_len x
    simp only [List.length_append]
    omega
def HB (d : Nat) (f : Cp → List M → Option Cp) : Prop := ∀ (C : List I) (nm : List Jh) (z : Int) (l : List M) (ρ ρ' : Env), (∀ x ∈ l, Gd d x) → foldS (stm d) ρ l = .ok ρ' → l.length ≤ 700 → nm.length + 701 * (d + 1) ≤ 90000 → C.length + 6 * cntL d l ≤ 700000 → 0 ≤ z → z + cntL d l ≤ 1000000 →
 f ⟨C, nm, z⟩ l = some ⟨C ++ (foldC (cS d) (sgP nm) z C.length l).1, nm, (foldC (cS d) (sgP nm) z C.length l).2⟩
theorem sgP_snoc (nm : List Jh) (s : Str) (k : Int) : sgP (nm ++ [⟨s, k⟩]) = upd (sgP nm) s k := by
 funext q
 unfold sgP upd
 rw [List.reverse_append, List.reverse_cons, List.reverse_nil, List.nil_append, List.cons_append, List.find?_cons]
 by_cases h : s = q
 ·rw [decide_eq_true h, if_pos h]; rfl
 ·rw [decide_eq_false h, if_neg h]; rfl
theorem if_kids {m : Nat} {x : M} (hk : x.Kind = 2) (h : Jo (m + 1) x = some true) : ∃ e t, t.Kind = 12 ∧ (x.Kids = [e, t] ∨ ∃ o, (o.Kind = 12 ∨ o.Kind = 2) ∧ x.Kids = [e, t, o]) := by
 obtain ⟨l3, k1⟩ := stated_if2 hk h
 have k2 := stated_if hk h
 obtain ⟨m', e, _, hv⟩ := stated_inv h
 cases e
 obtain ⟨l2, _⟩ := hv hk
 match hx : x.Kids, l2, l3 with
 | [e, t], _, _ => exact ⟨e, t, k1 t (by rw [hx]; rfl), .inl rfl⟩
 | [e, t, o], _, _ =>
  refine ⟨e, t, k1 t (by rw [hx]; rfl), .inr ⟨o, ?_, rfl⟩⟩
  by_cases q : o.Kind = 12
  ·exact .inl q
  ·exact .inr (k2 o (by rw [hx]; simp) q)
 | [], h, _ => simp at h
 | [a], h, _ => simp at h
 | a :: b :: c :: e :: l, _, h => simp at h
theorem brn12 {t : M} (h : t.Kind = 12) : brn t = t.Kids := by unfold brn; rw [if_pos h]
theorem brn2 {t : M} (h : t.Kind = 2) : brn t = [t] := by unfold brn; rw [if_neg (by omega)]
set_option maxRecDepth 100000 in
theorem pchoice {f : Cp → List M → Option Cp} : ∀ (d n : Nat) (C : List I) (nm : List Jh) (z : Int) (x : M) (ρ ρ' : Env), (∀ e, e ≤ d → HB e f) → x.Kind = 2 → Gd (d + 1) x → stm (d + 1) ρ x = .ok ρ' → d + 250000 ≤ n → nm.length + 701 * (d + 1) ≤ 90000 → C.length + 6 * cnt (d + 1) x ≤ 700000 → 0 ≤ z → z + cnt (d + 1) x ≤ 1000000 →
  JZ f n ⟨C, nm, z⟩ x = some ⟨C ++ (cS (d + 1) (sgP nm) z C.length x).1, nm, (cS (d + 1) (sgP nm) z C.length x).2.1⟩
 | d, 0, _, _, _, _, _, _, _, _, _, _, hn, _, _, _, _ => by omega
 | d, n + 1, C, nm, z, x, ρ, ρ', hf, q2, hg, hs, hn, hnm, hC, hz, hz2 => by
  obtain ⟨⟨h1, h2, h3⟩, m, hm⟩ := hg
  obtain ⟨m, rfl, hv0, hv2⟩ := stated_inv hm
  obtain ⟨l2, hb⟩ := hv2 q2
  obtain ⟨e, t, ht12, hk⟩ := if_kids q2 hm
  rw [cnt_eq] at hC hz2
  have hex : ∃ ks, x.Kids = e :: t :: ks := by rcases hk with hk | ⟨o, _, hk⟩ <;> exact ⟨_, hk⟩
  obtain ⟨ks, hks⟩ := hex
  obtain ⟨te, hte, hst⟩ := stm_inv hks hs
  rcases hst with ⟨q, _⟩ | ⟨_, rfl, hbr⟩ | ⟨_, q, _⟩
  ·omega
  ·have hE : XE ρ' d e := XE_of (h3 e (by rw [hks]; simp)) (hv0 e (by rw [hks]; rfl)) hte
   have hT := brs_none hbr
   have gd : ∀ k ∈ t :: ks, (∀ q ∈ brn k, Gd d q) ∧ (brn k).length ≤ 700 := fun k hk1 => by
    have hk2 : k ∈ x.Kids := by rw [hks]; simp at hk1 ⊢; exact .inr hk1
    obtain ⟨l', e1, e2, e3⟩ := branch_ok (h3 k hk2) ((hb k (by rw [hks]; simpa using hk1)).imp (fun h => ⟨h.1, fun q hq => ⟨m, h.2 q hq⟩⟩) fun h => ⟨h.1, m, h.2⟩)
    rw [brn_eq] at e1
    cases e1
    exact ⟨e3, e2⟩
   have hAl := cE_len (σ := sgP nm) d C.length e
   rw [hks, cntL_cons, cntL_cons] at hC hz2
   have eA := pexpr (z := z) (by omega) d n C e hE (by omega) (by omega) (nm := nm)
   obtain ⟨gt, lt⟩ := gd t (by simp)
   obtain ⟨ρt, hρt⟩ := hT t (by simp)
   obtain ⟨okt, ct⟩ := brn_ok (h3 t (by rw [hks]; simp))
   rw [brn12 ht12] at gt lt hρt okt ct
   have lT := foldC_len (d := d) (g := cS d) t.Kids (sgP nm) z (C.length + (cE d (sgP nm) C.length e).length + 1) fun q hq => cS_len d q (okt q hq)
   have eT := hf d (Nat.le_refl _) (C ++ cE d (sgP nm) C.length e ++ [⟨10, 0, []⟩]) nm z t.Kids ρ' ρt gt hρt lt (by omega) (by simp only [List.length_append, List.length_cons, List.length_nil]; omega) hz (by omega)
   simp only [List.length_append, List.length_cons, List.length_nil, Nat.zero_add] at eT
   rw [JZ, hks, ix0, Option.bind_some, eA, Option.bind_some, emit_eq (by simp only [List.length_append]; omega), Option.bind_some, ix1, Option.bind_some]
   simp only
   rw [eT, Option.bind_some]
   generalize hTT : foldC (cS d) (sgP nm) z (C.length + (cE d (sgP nm) C.length e).length + 1) t.Kids = T at lT ⊢
   generalize hAA : cE d (sgP nm) C.length e = A at hAl hTT ⊢
   rcases hk with hk | ⟨o, ho, hk⟩
   ·rw [hks] at hk
    cases hk
    rw [if_pos (by simp), here_at (C := C ++ A) (i := ⟨10, 0, []⟩) (D := T.1) (C.length + A.length + 1 + T.1.length) (by simp) (by simp) (by simp <;> omega), Option.bind_some, cS_2 (T := T) q2 hks (by rw [hAA]; exact hTT), hAA]
    simp [if2]
   ·rw [hks] at hk
    cases hk
    have hot : (∀ q ∈ brn o, Gd d q) ∧ (brn o).length ≤ 700 := gd o (by simp)
    obtain ⟨go, lo⟩ := hot
    obtain ⟨ρo, hρo⟩ := hT o (by simp)
    obtain ⟨oko, co⟩ := brn_ok (h3 o (by rw [hks]; simp))
    rw [cntL_cons] at hC hz2
    rw [if_neg (by simp <;> omega), emit_eq (by simp only [List.length_append, List.length_cons, List.length_nil]; omega), Option.bind_some]
    simp only
    rw [here_at (C := C ++ A) (i := ⟨10, 0, []⟩) (D := T.1 ++ [⟨9, 0, []⟩]) (C.length + A.length + 1 + T.1.length + 1) (by simp) (by simp) (by simp; omega), Option.bind_some, show ix [e, t, o] 2 = some o from rfl, Option.bind_some, Option.bind_some]
    have eO : (if decide (o.Kind = 2) = true then (JZ f n ⟨C ++ A ++ (⟨10, (C.length + A.length + 1 + T.1.length + 1 : Nat), []⟩ : I) :: (T.1 ++ [⟨9, 0, []⟩]), nm, T.2⟩ o) else f ⟨C ++ A ++ (⟨10, (C.length + A.length + 1 + T.1.length + 1 : Nat), []⟩ : I) :: (T.1 ++ [⟨9, 0, []⟩]), nm, T.2⟩ o.Kids) =
      some ⟨C ++ A ++ (⟨10, (C.length + A.length + 1 + T.1.length + 1 : Nat), []⟩ : I) :: (T.1 ++ [⟨9, 0, []⟩]) ++ (foldC (cS d) (sgP nm) T.2 (C.length + A.length + 1 + T.1.length + 1) (brn o)).1, nm, (foldC (cS d) (sgP nm) T.2 (C.length + A.length + 1 + T.1.length + 1) (brn o)).2⟩ := by
     have len : (C ++ A ++ (⟨10, (C.length + A.length + 1 + T.1.length + 1 : Nat), []⟩ : I) :: (T.1 ++ [⟨9, 0, []⟩])).length = C.length + A.length + 1 + T.1.length + 1 := by simp; omega
     by_cases qo : o.Kind = 2
     ·rw [if_pos (by simpa using qo), brn2 qo]
      rw [brn2 qo] at go hρo
      obtain ⟨ρ2, ho1, _⟩ := foldS_cons hρo
      have hgo := go o (by simp)
      cases d with
      | zero => exact hgo.1.elim
      | succ d =>
       have := pchoice d n (C ++ A ++ (⟨10, (C.length + A.length + 1 + T.1.length + 1 : Nat), []⟩ : I) :: (T.1 ++ [⟨9, 0, []⟩])) nm T.2 o ρ' ρ2 (fun e he => hf e (by omega)) qo hgo ho1 (by omega) (by omega) (by rw [len]; omega) (by omega) (by omega)
       rw [this, len]
       simp [foldC]
     ·have q12 : o.Kind = 12 := by omega
      rw [if_neg (by simpa using qo), brn12 q12]
      rw [brn12 q12] at go lo hρo oko co
      have := hf d (Nat.le_refl _) (C ++ A ++ (⟨10, (C.length + A.length + 1 + T.1.length + 1 : Nat), []⟩ : I) :: (T.1 ++ [⟨9, 0, []⟩])) nm T.2 o.Kids ρ' ρo go hρo lo (by omega) (by rw [len]; omega) (by omega) (by omega)
      rw [this, len]
    have lO := foldC_len (d := d) (g := cS d) (brn o) (sgP nm) T.2 (C.length + A.length + 1 + T.1.length + 1) fun q hq => cS_len d q (oko q hq)
    generalize hOO : foldC (cS d) (sgP nm) T.2 (C.length + A.length + 1 + T.1.length + 1) (brn o) = O at eO lO
    have fin : Jv ⟨C ++ A ++ (⟨10, (C.length + A.length + 1 + T.1.length + 1 : Nat), []⟩ : I) :: (T.1 ++ [⟨9, 0, []⟩]) ++ O.1, nm, O.2⟩ (((C ++ A ++ [(⟨10, 0, []⟩ : I)] ++ T.1).length : Nat) : Int) = some ⟨C ++ (cS (d + 1) (sgP nm) z C.length x).1, nm, (cS (d + 1) (sgP nm) z C.length x).2.1⟩ := by
     rw [here_at (C := C ++ A ++ (⟨10, (C.length + A.length + 1 + T.1.length + 1 : Nat), []⟩ : I) :: T.1) (i := ⟨9, 0, []⟩) (D := O.1) (C.length + A.length + 1 + T.1.length + 1 + O.1.length) (by simp) (by simp <;> omega) (by simp <;> omega), cS_3 (T := T) (O := O) q2 hks (by rw [hAA]; exact hTT) (by rw [hAA]; exact hOO), hAA]
     simp [if3]
    by_cases qo : o.Kind = 2
    ·rw [if_pos (by simpa using qo)] at eO ⊢
     rw [eO, Option.bind_some, fin, Option.bind_some]
    ·rw [if_neg (by simpa using qo)] at eO ⊢
     rw [Option.bind_some, eO, Option.bind_some, fin, Option.bind_some]
  ·omega
theorem stm_other {d : Nat} {ρ ρ' : Env} {x : M} (h : stm (d + 1) ρ x = .ok ρ') : (∃ e ks, x.Kids = e :: ks ∧ ∃ t, tyE d ρ e = .ok t) ∨ x.Kids = [] := by
 cases hk : x.Kids with
 | nil => exact .inr rfl
 | cons e ks =>
  obtain ⟨t, ht, _⟩ := stm_inv hk h
  exact .inl ⟨e, ks, rfl, t, ht⟩
theorem stm_kind3 {d : Nat} {ρ ρ' : Env} {x : M} (h : stm (d + 1) ρ x = .ok ρ') (q : x.Kind ≠ 3) : ρ' = ρ := by
 cases hk : x.Kids with
 | nil => rw [stm, hk] at h; cases h; rfl
 | cons e ks =>
  obtain ⟨t, ht, hh⟩ := stm_inv hk h
  rcases hh with ⟨q3, _⟩ | ⟨_, h, _⟩ | ⟨_, _, h⟩
  ·exact absurd q3 q
  ·exact h
  ·exact h
theorem act_eq {C : List I} {nm : List Jh} {z : Int} {x : M} (hC : C.length ≤ 900000) (ht : x.Text.length ≤ 3000) (q3 : x.Kind ≠ 3) {P : Option Cp} :
  (if decide (x.Kind = 3) = true then P else if decide (x.Kind = 4) then (Jf ⟨C, nm, z⟩ 11 0 x.Text).bind fun x58 => some x58.2 else
   if decide (x.Kind = 5) then (chk (([104, 101, 97, 100, 101, 114, 58] : Str).length + x.Text.length ≤ lim)).bind fun _ => (Jf ⟨C, nm, z⟩ 11 0 (([104, 101, 97, 100, 101, 114, 58] : Str) ++ x.Text)).bind fun x65 => some x65.2 else
   if decide (x.Kind = 6) then (chk (([118, 97, 114, 121, 58] : Str).length + x.Text.length ≤ lim)).bind fun _ => (Jf ⟨C, nm, z⟩ 11 0 (([118, 97, 114, 121, 58] : Str) ++ x.Text)).bind fun x72 => some x72.2 else
   if decide (x.Kind = 7) then (Jf ⟨C, nm, z⟩ 11 0 ([116, 97, 103] : Str)).bind fun x76 => some x76.2 else
   if decide (x.Kind = 8) then (Jf ⟨C, nm, z⟩ 11 0 ([116, 116, 108] : Str)).bind fun x80 => some x80.2 else
   if decide (x.Kind = 9) then (Jf ⟨C, nm, z⟩ 11 0 ([100, 101, 110, 121] : Str)).bind fun x84 => some x84.2 else
   if decide (x.Kind = 10) then (Jf ⟨C, nm, z⟩ 11 0 ([112, 97, 115, 115] : Str)).bind fun x88 => some x88.2 else
   if decide (x.Kind = 11) then (Jf ⟨C, nm, z⟩ 11 0 ([116, 111, 107, 101, 110] : Str)).bind fun x92 => some x92.2 else some ⟨C, nm, z⟩) = some ⟨C ++ acs x, nm, z⟩ := by
 unfold acs acw
 rw [if_neg (by simpa using q3)]
 by_cases q4 : x.Kind = 4
 ·rw [if_pos (by simpa using q4), emit_eq (by omega), Option.bind_some, if_pos q4]
 rw [if_neg (by simpa using q4), if_neg q4]
 by_cases q5 : x.Kind = 5
 ·rw [if_pos (by simpa using q5), chk_bind (by simp [lim]; omega), emit_eq (by omega), Option.bind_some, if_pos q5]
 rw [if_neg (by simpa using q5), if_neg q5]
 by_cases q6 : x.Kind = 6
 ·rw [if_pos (by simpa using q6), chk_bind (by simp [lim]; omega), emit_eq (by omega), Option.bind_some, if_pos q6]
 rw [if_neg (by simpa using q6), if_neg q6]
 by_cases q7 : x.Kind = 7
 ·rw [if_pos (by simpa using q7), emit_eq (by omega), Option.bind_some, if_pos q7]
 rw [if_neg (by simpa using q7), if_neg q7]
 by_cases q8 : x.Kind = 8
 ·rw [if_pos (by simpa using q8), emit_eq (by omega), Option.bind_some, if_pos q8]
 rw [if_neg (by simpa using q8), if_neg q8]
 by_cases q9 : x.Kind = 9
 ·rw [if_pos (by simpa using q9), emit_eq (by omega), Option.bind_some, if_pos q9]
 rw [if_neg (by simpa using q9), if_neg q9]
 by_cases q10 : x.Kind = 10
 ·rw [if_pos (by simpa using q10), emit_eq (by omega), Option.bind_some, if_pos q10]
 rw [if_neg (by simpa using q10), if_neg q10]
 by_cases q11 : x.Kind = 11
 ·rw [if_pos (by simpa using q11), emit_eq (by omega), Option.bind_some, if_pos q11]
 rw [if_neg (by simpa using q11), if_neg q11]
 simp
set_option maxRecDepth 100000 in
theorem pstmt {f : Cp → List M → Option Cp} {d n : Nat} {C : List I} {nm : List Jh} {z : Int} {x : M} {ρ ρ' : Env} (hf : ∀ e, e ≤ d → HB e f) (hg : Gd (d + 1) x) (hs : stm (d + 1) ρ x = .ok ρ') (hn : d + 250000 ≤ n) (hnm : nm.length + 701 * (d + 1) ≤ 90000) (hC : C.length + 6 * cnt (d + 1) x ≤ 700000) (hz : 0 ≤ z) (hz2 : z + cnt (d + 1) x ≤ 1000000) :
  ∃ nm', Jaf f n ⟨C, nm, z⟩ x = some ⟨C ++ (cS (d + 1) (sgP nm) z C.length x).1, nm ++ nm', (cS (d + 1) (sgP nm) z C.length x).2.1⟩ ∧ nm'.length ≤ 1 ∧ sgP (nm ++ nm') = (cS (d + 1) (sgP nm) z C.length x).2.2 := by
 unfold Jaf
 by_cases q2 : x.Kind = 2
 ·rw [if_pos (by simpa using q2), pchoice d n C nm z x ρ ρ' hf q2 hg hs hn hnm hC hz hz2, Option.bind_some]
  refine ⟨[], by simp, by simp, ?_⟩
  rw [List.append_nil, cS, if_pos q2]
  split <;> rfl
 ·rw [if_neg (by simpa using q2)]
  obtain ⟨⟨h1, h2, h3⟩, m, hm⟩ := hg
  obtain ⟨m, rfl, hv0, hv2⟩ := stated_inv hm
  rw [cnt_eq] at hC hz2
  have key : ∀ (C' : List I), C'.length ≤ 800000 → C' = C ++ hdC d (sgP nm) C.length x.Kids → ∃ nm', (if decide (x.Kind = 3) = true then (Jf ⟨C', nm, z⟩ 4 (⟨C', nm, z⟩ : Cp).slots ([] : Str)).bind fun x29 =>
    (chk (x29.2.names.length + [(⟨x.Text, x29.2.slots⟩ : Jh)].length ≤ lim)).bind fun _ => (chk (InI (x29.2.slots + 1))).bind fun _ =>
    some (⟨x29.2.code, (x29.2.names ++ [(⟨x.Text, x29.2.slots⟩ : Jh)]), (x29.2.slots + 1)⟩ : Je) else some ⟨C' ++ acs x, nm, z⟩) = some ⟨C ++ (cS (d + 1) (sgP nm) z C.length x).1, nm ++ nm', (cS (d + 1) (sgP nm) z C.length x).2.1⟩ ∧ nm'.length ≤ 1 ∧ sgP (nm ++ nm') = (cS (d + 1) (sgP nm) z C.length x).2.2 := fun C' hl e => by
   by_cases q3 : x.Kind = 3
   ·rw [if_pos (by simpa using q3), emit_eq (by omega), Option.bind_some]
    simp only
    rw [chk_bind (by simp only [lim, List.length_cons, List.length_nil]; omega), chk_bind (by constructor <;> omega), cS_let q3, e]
    exact ⟨[⟨x.Text, z⟩], by simp, by simp, sgP_snoc _ _ _⟩
   ·rw [if_neg (by simpa using q3), cS_act q2 q3, e]
    exact ⟨[], by simp, by simp, by simp⟩
  have hl := hdC_len (σ := sgP nm) (d := d) (b := C.length) x.Kids
  rcases stm_other hs with ⟨e, ks, hk, t, ht⟩ | hk
  ·have hE : XE ρ d e := XE_of (h3 e (by rw [hk]; simp)) (hv0 e (by rw [hk]; rfl)) ht
   have hc : cnt d e ≤ cntL d x.Kids := by rw [hk, cntL_cons]; omega
   have hAl := cE_len (σ := sgP nm) d C.length e
   have eA := pexpr (z := z) (by omega) d n C e hE (by omega) (by omega) (nm := nm)
   rw [if_pos (by rw [hk]; simp <;> omega), hk, ix0, Option.bind_some, eA, Option.bind_some]
   rw [hk] at hl key
   have k := key (C ++ cE d (sgP nm) C.length e) (by simp only [List.length_append]; omega) rfl
   by_cases q3 : x.Kind = 3
   ·rw [if_pos (by simpa using q3)] at k ⊢
    exact k
   ·rw [act_eq (by simp only [List.length_append]; omega) h1 q3]
    rw [if_neg (by simpa using q3)] at k
    exact k
  ·rw [if_neg (by rw [hk]; simp)]
   rw [hk] at key
   have k := key C (by omega) (by simp [hdC])
   by_cases q3 : x.Kind = 3
   ·rw [if_pos (by simpa using q3)] at k ⊢
    exact k
   ·rw [act_eq (by omega) h1 q3]
    rw [if_neg (by simpa using q3)] at k
    exact k
set_option maxRecDepth 100000 in
theorem pblock_L0 {f : Cp → List M → Option Cp} {d n : Nat} (hf : ∀ e, e ≤ d → HB e f) (hn : d + 250000 ≤ n) : ∀ (l : List M) (i : Nat) (C : List I) (nm : List Jh) (z : Int) (ρ ρ' : Env), (∀ x ∈ l, Gd (d + 1) x) → foldS (stm (d + 1)) ρ l = .ok ρ' → nm.length + l.length + 701 * (d + 1) ≤ 90000 → C.length + 6 * cntL (d + 1) l ≤ 700000 → 0 ≤ z → z + cntL (d + 1) l ≤ 1000000 →
  ∃ nm', JI f n l i ⟨C, nm, z⟩ = some ⟨C ++ (foldC (cS (d + 1)) (sgP nm) z C.length l).1, nm ++ nm', (foldC (cS (d + 1)) (sgP nm) z C.length l).2⟩
 | [], i, C, nm, z, ρ, ρ', _, _, _, _, _, _ => ⟨[], by simp [JI, foldC]⟩
 | x :: l, i, C, nm, z, ρ, ρ', hg, hs, hnm, hC, hz, hz2 => by
  obtain ⟨ρ1, hs1, hs2⟩ := foldS_cons hs
  rw [cntL_cons] at hC hz2
  simp only [List.length_cons] at hnm
  have hgx := hg x (by simp)
  obtain ⟨nm1, e1, e2, e3⟩ := pstmt hf hgx hs1 hn (by omega) (C := C) (by omega) hz (by omega) (nm := nm)
  obtain ⟨c1, c2, c3⟩ := cS_len (d + 1) x hgx.1 (sgP nm) z C.length
  obtain ⟨nm2, g⟩ := pblock_L0 hf hn l (i + 1) (C ++ (cS (d + 1) (sgP nm) z C.length x).1) (nm ++ nm1) (cS (d + 1) (sgP nm) z C.length x).2.1 ρ1 ρ' (fun q hq => hg q (by simp [hq])) hs2 (by simp only [List.length_append]; omega) (by simp only [List.length_append]; omega) (by omega) (by omega)
  refine ⟨nm1 ++ nm2, ?_⟩
  rw [JI, e1, Option.bind_some, g, e3, foldC]
  simp only [List.append_assoc, List.length_append]
set_option maxRecDepth 100000 in
theorem pblock : ∀ (d n : Nat), d + 300000 ≤ n → HB d (JM n)
 | d, 0, h => by omega
 | 0, n + 1, _ => fun C nm z l ρ ρ' hg hs hl hnm hC hz hz2 => by
  cases l with
  | nil =>
   rw [JM, chk_bind (by simp [szMax]), JI, Option.bind_some]
   simp only
   rw [chk_bind (by omega)]
   simp only [foldC, List.append_nil]
   rw [show subL nm (0 : Int) (nm.length : Int) = nm by simp [subL]]
  | cons x l => exact (hg x (by simp)).1.elim
 | d + 1, n + 1, hn => fun C nm z l ρ ρ' hg hs hl hnm hC hz hz2 => by
  obtain ⟨nm', e⟩ := pblock_L0 (f := JM n) (d := d) (n := n) (fun e he => pblock e n (by omega)) (by omega) l 0 C nm z ρ ρ' hg hs (by omega) hC hz hz2
  rw [JM, chk_bind (by simp only [szMax]; omega), e, Option.bind_some]
  simp only
  rw [chk_bind (by simp only [List.length_append]; omega)]
  rw [show subL (nm ++ nm') (0 : Int) (nm.length : Int) = nm by simp [subL]]
def haltI : I := ⟨12, 0, []⟩
def prog (d : Nat) (l : List M) : List I := (foldC (cS d) (fun _ => none) 0 0 l).1 ++ [haltI]
set_option maxRecDepth 100000 in
theorem Compile_pure {n d : Nat} {y : M} {b : Bool} (hy : Ok (d + 1) y) (hd : d ≤ 100) (hn : 400000 ≤ n) (hc : cntL d y.Kids ≤ 10000) (hv : Jak n y = some b) :
  Ja1 n y = some (if b = true then (match foldS (stm d) base y.Kids with
   | .ok _ => if (prog d y.Kids).length ≤ 2048 then (prog d y.Kids, none) else ([], some 5)
   | .error e => ([], some e.2)) else ([], some 2)) := by
 unfold Ja1
 rw [Check_pure (d := d) hy (by omega) (by omega) hv, Option.bind_some]
 cases b with
 | false => rfl
 | true =>
  simp only [if_true]
  unfold chkR
  cases q : foldS (stm d) base y.Kids with
  | error e => rw [if_pos (by simp)]
  | ok ρ =>
   obtain ⟨o1, o2, o3⟩ := hy
   have hv := Valid_inv hv
   have hg : ∀ k ∈ y.Kids, Gd d k := fun k hk => ⟨o3 k hk, n, hv k hk⟩
   have h := pblock d n (by omega) [] [] 0 y.Kids base ρ hg q o2 (by simp only [List.length_nil]; omega) (by simp only [List.length_nil]; omega) (by omega) (by omega)
   rw [if_neg (by simp), h, Option.bind_some]
   obtain ⟨l1, l2, l3⟩ := foldC_len (d := d) (g := cS d) y.Kids (fun _ => none) 0 0 fun q hq => cS_len d q (o3 q hq)
   have e : sgP [] = fun _ => none := rfl
   simp only [List.nil_append, List.length_nil, e]
   rw [emit_eq (by omega), Option.bind_some]
   simp only
   unfold prog haltI
   by_cases q2 : ((foldC (cS d) (fun _ => none) 0 0 y.Kids).1 ++ [(⟨12, 0, []⟩ : I)]).length ≤ 2048
   ·rw [if_neg (by simp only [decide_eq_true_eq]; omega), if_pos q2]
   ·rw [if_pos (by simp only [decide_eq_true_eq]; omega), if_neg q2]
end Rt.Rc
set_option linter.unusedVariables false
set_option linter.unusedSimpArgs false
open Go Go.SL Go.Proofs Pl
namespace Rt.Rc
def SF (x : M) : Prop :=
 x.Kind = 2 ∨ (x.Kind = 3 ∧ x.Kids.length = 1) ∨ (x.Kind = 4 ∧ x.Kids.length = 1 ∧ (x.Text = [112, 97, 116, 104] ∨ x.Text = [113, 117, 101, 114, 121])) ∨ (x.Kind = 5 ∧ x.Kids.length = 1 ∧ prt x.Text = true) ∨ (x.Kind = 6 ∧ x.Kids.length = 0 ∧ prt x.Text = true) ∨
 ((x.Kind = 7 ∨ x.Kind = 8 ∨ x.Kind = 9) ∧ x.Kids.length = 1) ∨ ((x.Kind = 10 ∨ x.Kind = 11) ∧ x.Kids.length = 0)
theorem one_len {m : Nat} {x : M} (h : (if decide ((x.Kids.length : Int) = 1) = true then (ix x.Kids 0).bind fun x121 => (Jm m x121).bind fun x123 => some x123 else some false).bind (fun x124 => some x124) = some true) : x.Kids.length = 1 := by
 by_cases q : (x.Kids.length : Int) = 1
 ·omega
 ·rw [if_neg (by simpa using q)] at h; cases h
theorem stated_form {m : Nat} {x : M} (ht : x.Text.length ≤ 3000) (h : Jo (m + 1) x = some true) : SF x := by
 unfold SF
 by_cases q2 : x.Kind = 2
 ·exact .inl q2
 rw [Jo, if_neg (by simpa using q2)] at h
 by_cases q6 : x.Kind = 6
 ·rw [if_pos (by simpa using q6), printable_eq (by omega), Option.bind_some] at h
  simp only [Option.some.injEq, Bool.and_eq_true, decide_eq_true_eq] at h
  exact .inr (.inr (.inr (.inr (.inl ⟨q6, by omega, h.1⟩))))
 rw [if_neg (by simpa using q6)] at h
 by_cases q10 : x.Kind = 10
 ·rw [if_pos (by simpa using q10)] at h
  simp only [Option.some.injEq, Bool.and_eq_true, decide_eq_true_eq] at h
  exact .inr (.inr (.inr (.inr (.inr (.inr ⟨.inl q10, by omega⟩)))))
 rw [if_neg (by simpa using q10)] at h
 by_cases q11 : x.Kind = 11
 ·rw [if_pos (by simpa using q11)] at h
  simp only [Option.some.injEq, Bool.and_eq_true, decide_eq_true_eq] at h
  exact .inr (.inr (.inr (.inr (.inr (.inr ⟨.inr q11, by omega⟩)))))
 rw [if_neg (by simpa using q11)] at h
 by_cases q3 : x.Kind = 3
 ·rw [if_pos (by simpa using q3)] at h
  obtain ⟨b, hb, h⟩ := bnd h
  cases b with
  | false => rw [if_pos (by simp)] at h; cases h
  | true => rw [if_neg (by simp)] at h; exact .inr (.inl ⟨q3, one_len h⟩)
 rw [if_neg (by simpa using q3)] at h
 by_cases q4 : x.Kind = 4
 ·rw [if_pos (by simpa using q4)] at h
  cases q : (decide (x.Text ≠ ([112, 97, 116, 104] : Str)) && decide (x.Text ≠ ([113, 117, 101, 114, 121] : Str))) with
  | true => rw [q, if_pos rfl] at h; cases h
  | false =>
   rw [q, if_neg (by simp)] at h
   refine .inr (.inr (.inl ⟨q4, one_len h, ?_⟩))
   simp only [Bool.and_eq_false_iff, decide_eq_false_iff_not, ne_eq, Classical.not_not] at q
   exact q
 rw [if_neg (by simpa using q4)] at h
 by_cases q5 : x.Kind = 5
 ·rw [if_pos (by simpa using q5), printable_eq (by omega), Option.bind_some] at h
  cases q : prt x.Text with
  | false => rw [q, if_pos (by simp)] at h; cases h
  | true => rw [q, if_neg (by simp)] at h; exact .inr (.inr (.inr (.inl ⟨q5, one_len h, rfl⟩)))
 rw [if_neg (by simpa using q5)] at h
 by_cases q7 : x.Kind = 7
 ·rw [if_pos (by simpa using q7)] at h
  split at h
  ·cases h
  ·exact .inr (.inr (.inr (.inr (.inr (.inl ⟨.inl q7, one_len h⟩)))))
 rw [if_neg (by simpa using q7)] at h
 by_cases q8 : x.Kind = 8
 ·rw [if_pos (by simpa using q8)] at h
  split at h
  ·cases h
  ·exact .inr (.inr (.inr (.inr (.inr (.inl ⟨.inr (.inl q8), one_len h⟩)))))
 rw [if_neg (by simpa using q8)] at h
 by_cases q9 : x.Kind = 9
 ·rw [if_pos (by simpa using q9)] at h
  split at h
  ·cases h
  ·exact .inr (.inr (.inr (.inr (.inr (.inl ⟨.inr (.inr q9), one_len h⟩)))))
 rw [if_neg (by simpa using q9)] at h
 cases h
def isJ (i : I) : Bool := decide (i.Op = 9) || decide (i.Op = 10)
def shI (k : Nat) (i : I) : I := if isJ i = true then ⟨i.Op, i.N + k, i.S⟩ else i
def shL (k : Nat) (l : List I) : List I := l.map (shI k)
theorem shL_append (k : Nat) (a b : List I) : shL k (a ++ b) = shL k a ++ shL k b := by simp [shL]
theorem shL_cons (k : Nat) (a : I) (b : List I) : shL k (a :: b) = shI k a :: shL k b := rfl
theorem shL_nil (k : Nat) : shL k [] = [] := rfl
theorem shL_len (k : Nat) (a : List I) : (shL k a).length = a.length := by simp [shL]
theorem shI_j {k : Nat} {o : Int} {n : Nat} (h : o = 9 ∨ o = 10) : shI k ⟨o, (n : Int), []⟩ = ⟨o, ((n + k : Nat) : Int), []⟩ := by
 unfold shI isJ
 rw [if_pos (by rcases h with h | h <;> simp [h])]
 simp
theorem shI_o {k : Nat} {i : I} (h1 : i.Op ≠ 9) (h2 : i.Op ≠ 10) : shI k i = i := by
 unfold shI isJ
 rw [if_neg (by simp [h1, h2])]
theorem shL_tr (k : Nat) (b : Bool) : shL k (tr b) = tr b := by
 unfold tr shL
 simp [shI, isJ]
theorem shI_nm (k : Nat) (σ : Sg) (s : Str) : shI k (nmI σ s) = nmI σ s := by
 unfold nmI
 split <;> exact shI_o (by simp) (by simp)
theorem cE_shift {σ : Sg} : ∀ (d b k : Nat) (x : M), shL k (cE d σ b x) = cE d σ (b + k) x
 | 0, b, k, x => by simp [cE, shL]
 | d + 1, b, k, x => by
  by_cases q20 : x.Kind = 20; · rw [cE_20 q20, cE_20 q20]; simp [shL, shI, isJ]
  by_cases q21 : x.Kind = 21; · rw [cE_21 q21, cE_21 q21]; simp [shL, shI, isJ]
  by_cases q22 : x.Kind = 22; · rw [cE_22 q22, cE_22 q22, shL_tr]
  by_cases q23 : x.Kind = 23; · rw [cE_23 q23, cE_23 q23, shL_cons, shI_nm, shL_nil]
  rw [cE, cE, if_neg q20, if_neg q21, if_neg q22, if_neg q23, if_neg q20, if_neg q21, if_neg q22, if_neg q23]
  split
  ·rename_i e _
   rw [shL_append, cE_shift d b k e]
   split <;> simp [shL, shI, isJ]
  ·rename_i e l _
   have hl : (cE d σ (b + k) e).length = (cE d σ b e).length := by rw [← cE_shift d b k e, shL_len]
   rw [hl]
   split
   ·have e2 := cE_shift (σ := σ) d (b + (cE d σ b e).length + 1) k l
    rw [show b + (cE d σ b e).length + 1 + k = b + k + (cE d σ b e).length + 1 by omega] at e2
    have hl2 : (cE d σ (b + k + (cE d σ b e).length + 1) l).length = (cE d σ (b + (cE d σ b e).length + 1) l).length := by rw [← e2, shL_len]
    rw [hl2, shL_append, cE_shift d b k e, shL_cons, shL_append, e2, shL_cons, shL_tr, shI_j (.inr rfl), shI_j (.inl rfl)]
    congr 2
    ·congr 2; omega
    ·congr 2; congr 2; omega
   ·split
    ·have e2 := cE_shift (σ := σ) d (b + (cE d σ b e).length + 5) k l
     rw [show b + (cE d σ b e).length + 5 + k = b + k + (cE d σ b e).length + 5 by omega] at e2
     have hl2 : (cE d σ (b + k + (cE d σ b e).length + 5) l).length = (cE d σ (b + (cE d σ b e).length + 5) l).length := by rw [← e2, shL_len]
     rw [hl2, shL_append, cE_shift d b k e, shL_cons, shL_append, shL_cons, e2, shL_tr, shI_j (.inr rfl), shI_j (.inl rfl)]
     congr 2
     ·congr 2; omega
     ·congr 2; congr 2; omega
    ·have e2 := cE_shift (σ := σ) d (b + (cE d σ b e).length) k l
     rw [show b + (cE d σ b e).length + k = b + k + (cE d σ b e).length by omega] at e2
     rw [shL_append, cE_shift d b k e, shL_append, e2, shL_cons, shL_nil, shI_o (by simp) (by simp)]
  ·rfl
theorem cE_len_base {σ : Sg} (d b c : Nat) (x : M) : (cE d σ b x).length = (cE d σ c x).length := by
 rw [← Nat.zero_add b, ← Nat.zero_add c, ← cE_shift, ← cE_shift, shL_len, shL_len]
theorem hdC_shift {σ : Sg} (d b k : Nat) : ∀ (l : List M), shL k (hdC d σ b l) = hdC d σ (b + k) l
 | [] => rfl
 | e :: _ => cE_shift d b k e
theorem acs_shift (k : Nat) (x : M) : shL k (acs x) = acs x := by
 unfold acs
 split
 ·rw [shL_cons, shL_nil, shI_o (by simp) (by simp)]
 ·rfl
theorem foldC_shift {g : Sg → Int → Nat → M → List I × Int × Sg} {k : Nat} : ∀ (l : List M) (σ : Sg) (z : Int) (b : Nat), (∀ x ∈ l, ∀ σ z b, g σ z (b + k) x = (shL k (g σ z b x).1, (g σ z b x).2)) → foldC g σ z (b + k) l = (shL k (foldC g σ z b l).1, (foldC g σ z b l).2)
 | [], σ, z, b, _ => rfl
 | x :: l, σ, z, b, h => by
  have e := foldC_shift l (g σ z b x).2.2 (g σ z b x).2.1 (b + (g σ z b x).1.length) fun q hq => h q (by simp [hq])
  rw [foldC, foldC, h x (by simp)]
  simp only [shL_len]
  rw [show b + k + (g σ z b x).1.length = b + (g σ z b x).1.length + k by omega, e, shL_append]
theorem if2_shift (b k : Nat) (A T : List I) : shL k (if2 b A T) = if2 (b + k) (shL k A) (shL k T) := by
 unfold if2
 rw [shL_append, shL_cons, shI_j (.inr rfl), shL_len, shL_len]
 congr 2; congr 2; omega
theorem if3_shift (b k : Nat) (A T O : List I) : shL k (if3 b A T O) = if3 (b + k) (shL k A) (shL k T) (shL k O) := by
 unfold if3
 rw [shL_append, shL_cons, shL_append, shL_cons, shI_j (.inr rfl), shI_j (.inl rfl), shL_len, shL_len, shL_len]
 congr 2
 ·congr 2; omega
 ·congr 2; congr 2; omega
theorem cS_shift : ∀ (d k : Nat) (x : M) (σ : Sg) (z : Int) (b : Nat), cS d σ z (b + k) x = (shL k (cS d σ z b x).1, (cS d σ z b x).2)
 | 0, k, x, σ, z, b => rfl
 | d + 1, k, x, σ, z, b => by
  have fs : ∀ (l : List M) (σ : Sg) (z : Int) (b : Nat), foldC (cS d) σ z (b + k) l = (shL k (foldC (cS d) σ z b l).1, (foldC (cS d) σ z b l).2) := fun l σ z b => foldC_shift l σ z b fun q _ σ z b => cS_shift d k q σ z b
  by_cases q2 : x.Kind = 2
  ·rw [cS, cS, if_pos q2, if_pos q2]
   split
   ·rename_i e t _
    rw [← cE_shift d b k e, shL_len, show b + k + (cE d σ b e).length + 1 = b + (cE d σ b e).length + 1 + k by omega, fs, if2_shift]
   ·rename_i e t o _
    rw [← cE_shift d b k e, shL_len, show b + k + (cE d σ b e).length + 1 = b + (cE d σ b e).length + 1 + k by omega, fs]
    simp only [shL_len]
    rw [show b + (cE d σ b e).length + 1 + k + (foldC (cS d) σ z (b + (cE d σ b e).length + 1) t.Kids).1.length + 1 = b + (cE d σ b e).length + 1 + (foldC (cS d) σ z (b + (cE d σ b e).length + 1) t.Kids).1.length + 1 + k by omega, fs, if3_shift]
   ·rfl
  ·by_cases q3 : x.Kind = 3
   ·rw [cS_let q3, cS_let q3, shL_append, hdC_shift, shL_cons, shL_nil, shI_o (by simp) (by simp)]
   ·rw [cS_act q2 q3, cS_act q2 q3, shL_append, hdC_shift, acs_shift]
def Bd (b : Nat) (l : List I) : Prop := ∀ i ∈ l, isJ i = true → (b : Int) ≤ i.N ∧ i.N ≤ b + l.length
theorem Bd.append {b : Nat} {l k : List I} (h1 : Bd b l) (h2 : Bd (b + l.length) k) : Bd b (l ++ k) := fun i hi hj => by
 rw [List.length_append]
 rcases List.mem_append.1 hi with h | h
 ·have := h1 i h hj; omega
 ·have := h2 i h hj; omega
theorem Bd.nil (b : Nat) : Bd b [] := fun i hi _ => by cases hi
theorem Bd.one {b : Nat} {i : I} (h : isJ i = false) : Bd b [i] := fun j hj hx => by
 rw [List.mem_singleton.1 hj, h] at hx; cases hx
theorem Bd.no {b : Nat} {l : List I} (h : l.all (fun i => !isJ i) = true) : Bd b l := fun i hi hj => by
 have := List.all_eq_true.1 h i hi
 rw [hj] at this; cases this
theorem Bd.jump {b t : Nat} {o : Int} {l : List I} (h : Bd (b + 1) l) (h1 : b ≤ t) (h2 : t ≤ b + 1 + l.length) : Bd b (⟨o, (t : Int), []⟩ :: l) := fun i hi hj => by
 rw [List.length_cons]
 rcases List.mem_cons.1 hi with rfl | hi
 ·simp only; omega
 ·have := h i hi hj; omega
theorem tr_no (b : Bool) : (tr b).all (fun i => !isJ i) = true := by cases b <;> rfl
theorem cE_bd {σ : Sg} : ∀ (d b : Nat) (x : M), Bd b (cE d σ b x)
 | 0, b, x => Bd.nil b
 | d + 1, b, x => by
  by_cases q20 : x.Kind = 20; · rw [cE_20 q20]; exact Bd.one rfl
  by_cases q21 : x.Kind = 21; · rw [cE_21 q21]; exact Bd.one rfl
  by_cases q22 : x.Kind = 22; · rw [cE_22 q22]; exact Bd.no (tr_no _)
  by_cases q23 : x.Kind = 23; · rw [cE_23 q23]; refine Bd.one ?_; unfold nmI; split <;> rfl
  rw [cE, if_neg q20, if_neg q21, if_neg q22, if_neg q23]
  split
  ·rename_i e _
   refine (cE_bd d b e).append (Bd.one ?_)
   split <;> rfl
  ·rename_i e l _
   have h1 := cE_bd (σ := σ) d b e
   split
   ·refine h1.append (Bd.jump ?_ (by omega) (by simp only [List.length_append, List.length_cons, tr_len]; omega))
    exact (cE_bd d _ l).append (Bd.jump (Bd.no (tr_no _)) (by omega) (by rw [tr_len]; omega))
   ·split
    ·refine h1.append (Bd.jump ?_ (by omega) (by simp only [List.length_append, List.length_cons, tr_len]; omega))
     refine (Bd.no (tr_no _)).append (Bd.jump ?_ (by rw [tr_len]; omega) (by rw [tr_len]; omega))
     have := cE_bd (σ := σ) d (b + (cE d σ b e).length + 5) l
     rw [tr_len, show b + (cE d σ b e).length + 1 + 3 + 1 = b + (cE d σ b e).length + 5 by omega]
     exact this
    ·exact h1.append ((cE_bd d _ l).append (Bd.one rfl))
  ·exact Bd.nil b
theorem if2_bd {b : Nat} {A T : List I} (hA : Bd b A) (hT : Bd (b + A.length + 1) T) : Bd b (if2 b A T) := by
 unfold if2
 exact hA.append (Bd.jump hT (by omega) (by omega))
theorem if3_bd {b : Nat} {A T O : List I} (hA : Bd b A) (hT : Bd (b + A.length + 1) T) (hO : Bd (b + A.length + 1 + T.length + 1) O) : Bd b (if3 b A T O) := by
 unfold if3
 exact hA.append (Bd.jump (hT.append (Bd.jump hO (by omega) (by omega))) (by omega) (by simp only [List.length_append, List.length_cons]; omega))
theorem hdC_bd {σ : Sg} (d b : Nat) : ∀ (l : List M), Bd b (hdC d σ b l)
 | [] => Bd.nil b
 | e :: _ => cE_bd d b e
theorem acs_bd (b : Nat) (x : M) : Bd b (acs x) := by
 unfold acs; split
 ·exact Bd.one rfl
 ·exact Bd.nil b
theorem foldC_bd {g : Sg → Int → Nat → M → List I × Int × Sg} : ∀ (l : List M) (σ : Sg) (z : Int) (b : Nat), (∀ x ∈ l, ∀ σ z b, Bd b (g σ z b x).1) → Bd b (foldC g σ z b l).1
 | [], _, _, b, _ => Bd.nil b
 | x :: l, σ, z, b, h => by
  rw [foldC]
  exact (h x (by simp) σ z b).append (foldC_bd l _ _ _ fun q hq => h q (by simp [hq]))
theorem cS_bd : ∀ (d : Nat) (x : M) (σ : Sg) (z : Int) (b : Nat), Bd b (cS d σ z b x).1
 | 0, x, σ, z, b => Bd.nil b
 | d + 1, x, σ, z, b => by
  have fb : ∀ (l : List M) (σ : Sg) (z : Int) (b : Nat), Bd b (foldC (cS d) σ z b l).1 := fun l σ z b => foldC_bd l σ z b fun q _ σ z b => cS_bd d q σ z b
  by_cases q2 : x.Kind = 2
  ·rw [cS, if_pos q2]
   split
   ·exact if2_bd (cE_bd d b _) (fb _ _ _ _)
   ·exact if3_bd (cE_bd d b _) (fb _ _ _ _) (fb _ _ _ _)
   ·exact Bd.nil b
  ·by_cases q3 : x.Kind = 3
   ·rw [cS_let q3]; exact (hdC_bd d b _).append (Bd.one rfl)
   ·rw [cS_act q2 q3]; exact (hdC_bd d b _).append (acs_bd _ x)
end Rt.Rc
set_option linter.unusedVariables false
set_option linter.unusedSimpArgs false
open Go Go.SL Go.Proofs Pl
namespace Rt.Rc
abbrev I2 := Jd
def cv (i : I) : I2 := ⟨i.Op, i.N, i.S⟩
theorem ixA {A B : List I} {x : I} {i : Nat} (h : A.length = i) : ix ((A ++ x :: B).map cv) (i : Int) = some (cv x) := by
 subst h
 unfold ix
 rw [if_pos (by omega), show ((A.length : Nat) : Int).toNat = A.length by simp, List.getElem?_map, List.getElem?_append_right (Nat.le_refl _), Nat.sub_self]
 rfl
theorem setA {A B : List I} {x y : I} {i : Nat} (h : A.length = i) : ((A ++ x :: B).map cv).set ((i : Int)).toNat (cv y) = ((A ++ [y]) ++ B).map cv := by
 subst h
 rw [show ((A.length : Nat) : Int).toNat = A.length by simp, List.map_append, List.set_append_right _ _ (by simp)]
 simp
theorem shifted_L0 {k : Nat} (hk : k ≤ 1000000) : ∀ (B A : List I) (i : Nat), A.length = i → (∀ x ∈ B, isJ x = true → 0 ≤ x.N ∧ x.N ≤ 10000000) → Jap (k : Int) B.length i ((A ++ B).map cv) = some ((A ++ shL k B).map cv)
 | [], A, i, _, _ => by simp [Jap, shL]
 | x :: B, A, i, h, hb => by
  have hb' : ∀ x ∈ B, isJ x = true → 0 ≤ x.N ∧ x.N ≤ 10000000 := fun q hq => hb q (by simp [hq])
  rw [List.length_cons, Jap, ixA h, Option.bind_some, Option.bind_some]
  have hj : (if decide ((cv x).Op = 9) = true then some true else some (decide ((cv x).Op = 10))) = some (isJ x) := by
   unfold isJ cv
   by_cases q : x.Op = 9
   ·simp [q]
   ·simp [q]
  rw [hj, Option.bind_some]
  cases q : isJ x with
  | true =>
   have hN := hb x (by simp) q
   rw [if_pos rfl, Option.bind_some, Option.bind_some]
   have e : (⟨(cv x).Op, (cv x).N + (k : Int), (cv x).S⟩ : I2) = cv (shI k x) := by unfold shI; rw [if_pos q]; rfl
   rw [chk_bind (by simp only [cv]; constructor <;> omega), e, setA h, shifted_L0 hk B (A ++ [shI k x]) (i + 1) (by simp [h]) hb', shL_cons]
   simp
  | false =>
   have e : shI k x = x := by unfold shI; rw [if_neg (by simp [q])]
   rw [if_neg (by simp), show A ++ x :: B = (A ++ [x]) ++ B by simp, shifted_L0 hk B (A ++ [x]) (i + 1) (by simp [h]) hb', shL_cons, e]
   simp
theorem shifted_eq {l : List I} {k : Nat} (hl : l.length ≤ 1000000) (hk : k ≤ 1000000) (hb : ∀ i ∈ l, isJ i = true → 0 ≤ i.N ∧ i.N ≤ 10000000) : JN (l.map cv) (k : Int) = some ((shL k l).map cv) := by
 unfold JN
 rw [chk_bind (by simp [lim]; omega), chk_bind (by simp only [List.nil_append, List.length_map]; constructor <;> omega)]
 have := shifted_L0 hk l [] 0 rfl hb
 simp only [List.nil_append, List.length_map] at this ⊢
 rw [show ((l.length : Nat) : Int).toNat = l.length by simp, this, Option.bind_some]
theorem Bd.le {l : List I} {b : Nat} (h : Bd b l) (hl : b + l.length ≤ 10000000) : ∀ i ∈ l, isJ i = true → 0 ≤ i.N ∧ i.N ≤ 10000000 := fun i hi hj => by
 have := h i hi hj; omega
theorem truth2_eq (b : Bool) : JbV b = some ((tr b).map cv) := by
 cases b <;> rfl
theorem number_L0 : ∀ (s : Str) (i : Nat) (a : Int), s.all isD = true → 0 ≤ a → (a + 1) * 10 ^ s.length ≤ 10000000000 → JaX s i a = some (s.foldl (fun (n : Int) c => 10 * n + ((c.toNat : Int) - 48)) a)
 | [], i, a, _, _, _ => rfl
 | c :: s, i, a, h, h0, hb => by
  simp only [List.all_cons, Bool.and_eq_true] at h
  have h1 := h.1
  simp only [isD, Bool.and_eq_true, decide_eq_true_eq] at h1
  have e : ((c - (48 : UInt8)).toNat : Int) = (c.toNat : Int) - 48 := by
   rw [UInt8.toNat_sub_of_le _ _ (by rw [UInt8.le_iff_toNat_le]; simp; omega)]
   simp; omega
  have hp : (1 : Int) ≤ 10 ^ s.length := by
   have : (0 : Int) < 10 ^ s.length := Int.pow_pos (by omega)
   omega
  have hle : 10 * (a + 1) ≤ 10000000000 := by
   rw [List.length_cons, Int.pow_succ] at hb
   have : (a + 1) * 10 ≤ (a + 1) * (10 ^ s.length * 10) := Int.mul_le_mul_of_nonneg_left (by omega) (by omega)
   omega
  rw [JaX, e, chk_bind (by constructor <;> omega), chk_bind (by constructor <;> omega), number_L0 s (i + 1) _ h.2 (by omega) ?_, List.foldl_cons]
  rw [List.length_cons, Int.pow_succ] at hb
  have : (10 * a + ((c.toNat : Int) - 48) + 1) * 10 ^ s.length ≤ ((a + 1) * 10) * 10 ^ s.length := Int.mul_le_mul_of_nonneg_right (by omega) (by omega)
  have e2 : (a + 1) * 10 * 10 ^ s.length = (a + 1) * (10 ^ s.length * 10) := by rw [Int.mul_assoc, Int.mul_comm 10]
  omega
theorem number2_eq {s : Str} (h : nmr s = true) : Jb1 s = some (num s) := by
 obtain ⟨h1, h2, h3⟩ := nmr_all h
 unfold Jb1
 rw [chk_bind (by simp only [szMax]; omega), number_L0 s 0 0 h1 (by omega) ?_, Option.bind_some]
 ·rfl
 ·rw [show (0 : Int) + 1 = 1 from rfl, Int.one_mul]
  have : ∀ k : Nat, k ≤ 9 → (10 : Int) ^ k ≤ 10000000000 := by decide
  exact this _ h2
def sgR (vis : List Int) (names : List Str) : Sg := fun s => vis.reverse.find? (fun i => decide (names[i.toNat]? = some s))
def InV (vis : List Int) (names : List Str) : Prop := ∀ i ∈ vis, 0 ≤ i ∧ i < names.length
theorem slot_L0 {vis : List Int} {names : List Str} {s : Str} (hv : InV vis names) (hl : vis.length ≤ 100000) : ∀ (j n : Nat), j ≤ vis.length → j + 1 ≤ n →
  Jbb vis names s n ((j : Int) - 1) = some (match (vis.take j).reverse.find? (fun i => decide (names[i.toNat]? = some s)) with
   | some b => Fl.ret b
   | none => Fl.go (-1))
 | 0, n + 1, _, _ => by
  rw [Jbb, if_neg (by simp)]; simp
 | j + 1, n + 1, hj, hn => by
  have hlt : j < vis.length := by omega
  obtain ⟨v0, v1⟩ := hv vis[j] (List.getElem_mem hlt)
  rw [Jbb, if_pos (by simp), show (((j + 1 : Nat) : Int) - 1) = (j : Int) by omega]
  rw [ixn hlt, Option.bind_some, Option.bind_some, List.take_succ_eq_append_getElem hlt, List.reverse_append, List.reverse_cons, List.reverse_nil, List.nil_append, List.cons_append, List.find?_cons]
  have hk : (vis[j]).toNat < names.length := by omega
  have hix : ix names vis[j] = some (names[(vis[j]).toNat]) := by
   unfold ix; rw [if_pos v0, List.getElem?_eq_getElem hk]
  rw [hix, Option.bind_some, List.getElem?_eq_getElem hk]
  by_cases q : names[(vis[j]).toNat] = s
  ·rw [if_pos (by simpa using q), decide_eq_true (by rw [q])]
  ·rw [if_neg (by simpa using q), chk_bind (by constructor <;> omega), slot_L0 hv hl j n (by omega) (by omega), decide_eq_false (by simpa using q)]
   rfl
theorem slot_eq {vis : List Int} {names : List Str} {s : Str} {n : Nat} (hv : InV vis names) (hl : vis.length ≤ 100000) (hn : vis.length + 1 ≤ n) : Jcu n vis names s = some ((sgR vis names s).getD 0) := by
 unfold Jcu
 rw [chk_bind (by constructor <;> omega)]
 have h := slot_L0 (s := s) hv hl vis.length n (by omega) hn
 rw [List.take_length] at h
 rw [h, Option.bind_some]
 unfold sgR
 cases vis.reverse.find? (fun i => decide (names[i.toNat]? = some s)) with
 | some b => rfl
 | none => rfl
structure Cov (ρ : Env) (σ : Sg) : Prop where
 known : ∀ s, ρ s ≠ 0 → pre s = false → (σ s).isSome = true
 fixed : ∀ s, pre s = true → σ s = none ∧ ρ s ≠ 0
theorem cov_base : Cov base (fun _ => none) := ⟨fun s h hp => by simp [base, hp] at h, fun s h => ⟨rfl, by simp [base, h]⟩⟩
theorem Cov.let {ρ : Env} {σ : Sg} (h : Cov ρ σ) {s : Str} (hs : ρ s = 0) (t k : Int) : Cov (ext ρ s t) (upd σ s k) := by
 have hp : pre s = false := by
  cases q : pre s with
  | false => rfl
  | true => exact absurd hs (h.fixed s q).2
 refine ⟨fun q hq hn => ?_, fun q hq => ?_⟩
 ·unfold upd
  by_cases e : s = q
  ·rw [if_pos e]; rfl
  ·rw [if_neg e]
   refine h.known q ?_ hn
   unfold ext at hq
   rw [if_neg e] at hq
   exact hq
 ·have e : s ≠ q := fun e => by rw [e, hq] at hp; cases hp
  unfold upd ext
  rw [if_neg e, if_neg e]
  exact h.fixed q hq
theorem expr2_L0 {f : N → List Int → List Str → Option (List I2)} {vis : List Int} {names : List Str} : ∀ {l : List N} {cs : List (List I2)}, A2 (fun x c => f x vis names = some c) l cs → ∀ (i : Nat) (y : List (List I2)), y.length + l.length ≤ 100000 → Jaq f vis names l i y = some (y ++ cs) := fun h => by
 induction h with
 | nil => intro i y _; simp [Jaq]
 | cons hx _ ih =>
  intro i y hl
  simp only [List.length_cons] at hl
  rw [Jaq, hx, Option.bind_some, chk_bind (by simp only [lim]; omega), ih (i + 1) _ (by simp only [List.length_append, List.length_cons, List.length_nil]; omega)]
  simp
theorem shL_0 (l : List I) : shL 0 l = l := by
 have : ∀ i : I, shI 0 i = i := fun i => by unfold shI; split <;> simp
 unfold shL
 rw [show shI 0 = id from funext this, List.map_id]
theorem joined2 {A B : List I} (hA : ∀ i ∈ A, isJ i = true → 0 ≤ i.N ∧ i.N ≤ 10000000) (hB : ∀ i ∈ B, isJ i = true → 0 ≤ i.N ∧ i.N ≤ 10000000) (lA : A.length ≤ 600000) (lB : B.length ≤ 600000) : Jbc [A.map cv, B.map cv] = some ((A ++ shL A.length B).map cv) := by
 unfold Jbc
 rw [chk_bind (by simp [szMax]), JaN]
 have e := shifted_eq (l := A) (k := 0) (by omega) (by omega) hA
 rw [shL_0] at e
 simp only [List.length_nil] at e ⊢
 rw [show ((0 : Nat) : Int) = 0 from rfl] at e ⊢
 rw [e, Option.bind_some, chk_bind (by simp [lim]; omega), JaN, List.nil_append, List.length_map, shifted_eq (by omega) (by omega) hB, Option.bind_some, chk_bind (by simp [lim, shL_len]; omega), JaN, Option.bind_some, List.map_append]
theorem nmI_pre {ρ : Env} {σ : Sg} (hc : Cov ρ σ) {s : Str} (h : ρ s ≠ 0) : nmI σ s = if pre s = true then ⟨5, 0, s⟩ else ⟨3, (σ s).getD 0, []⟩ := by
 unfold nmI
 cases q : pre s with
 | true => rw [(hc.fixed s q).1, if_pos rfl]
 | false =>
  have := hc.known s h q
  cases q2 : σ s with
  | none => rw [q2] at this; cases this
  | some k => rw [if_neg (by simp)]; rfl
theorem cvd_nil {d : Nat} {x : N} {y : M} (h : A2 (Cvd d) x.Kids y.Kids) (hk : y.Kids = []) : x.Kids = [] := by
 rw [hk] at h
 cases hx : x.Kids with
 | nil => rfl
 | cons a l => rw [hx] at h; cases h
theorem cvd_one {d : Nat} {x : N} {y k : M} (h : A2 (Cvd d) x.Kids y.Kids) (hk : y.Kids = [k]) : ∃ a, x.Kids = [a] ∧ Cvd d a k := by
 rw [hk] at h
 cases hx : x.Kids with
 | nil => rw [hx] at h; cases h
 | cons a l =>
  rw [hx] at h
  cases h with
  | cons h1 h2 => cases h2; exact ⟨a, rfl, h1⟩
theorem cvd_two {d : Nat} {x : N} {y k l : M} (h : A2 (Cvd d) x.Kids y.Kids) (hk : y.Kids = [k, l]) : ∃ a b, x.Kids = [a, b] ∧ Cvd d a k ∧ Cvd d b l := by
 rw [hk] at h
 cases hx : x.Kids with
 | nil => rw [hx] at h; cases h
 | cons a m =>
  rw [hx] at h
  cases h with
  | cons h1 h2 =>
   cases h2 with
   | cons h3 h4 => cases h4; exact ⟨a, _, rfl, h1, h3⟩
set_option maxRecDepth 100000 in
theorem expr2 {ρ : Env} {vis : List Int} {names : List Str} (hv : InV vis names) (hc : Cov ρ (sgR vis names)) (hvl : vis.length ≤ 100000) : ∀ (d n : Nat) (x : N) (y : M), XE ρ d y → Cvd d x y → d + 200000 ≤ n → 6 * cnt d y ≤ 500000 →
  JbC n x vis names = some ((cE d (sgR vis names) 0 y).map cv)
 | 0, _, _, _, h, _, _, _ => h.elim
 | d + 1, 0, _, _, _, _, hn, _ => by omega
 | d + 1, n + 1, x, y, ⟨h1, h2⟩, ⟨c1, c2, c3, c4⟩, hn, hC => by
  rw [cnt_eq] at hC
  have hKl : x.Kids.length = y.Kids.length := (c4.len).symm
  rw [JbC]
  rw [← c1, ← c2]
  rcases h2 with ⟨q, ht, hk⟩ | ⟨q, ht, hk⟩ | ⟨q, hk⟩ | ⟨q, ht, hk⟩ | ⟨q, k, hk, hx⟩ | ⟨q, k, l, hk, hx, hy⟩
  ·rw [cvd_nil c4 hk, chk_bind (by simp [szMax]), Jaq, Option.bind_some, if_pos (by simpa using q), number2_eq ht, Option.bind_some, cE_20 q]; rfl
  ·rw [cvd_nil c4 hk, chk_bind (by simp [szMax]), Jaq, Option.bind_some, if_neg (by simp; omega), if_pos (by simpa using q), cE_21 q]; rfl
  ·rw [cvd_nil c4 hk, chk_bind (by simp [szMax]), Jaq, Option.bind_some, if_neg (by simp; omega), if_neg (by simp; omega), if_pos (by simpa using q), truth2_eq, Option.bind_some, cE_22 q]; rfl
  ·have hp : Jbm y.Text = some (pre y.Text) := rfl
   rw [cvd_nil c4 hk, chk_bind (by simp [szMax]), Jaq, Option.bind_some, if_neg (by simp; omega), if_neg (by simp; omega), if_neg (by simp; omega), if_pos (by simpa using q), hp, Option.bind_some, cE_23 q, nmI_pre hc ht]
   cases qp : pre y.Text with
   | true => rw [if_pos rfl, if_pos rfl]; rfl
   | false => rw [if_neg (by simp), if_neg (by simp), slot_eq hv hvl (by omega), Option.bind_some]; rfl
  ·obtain ⟨a, ha, hca⟩ := cvd_one c4 hk
   rw [hk, cntL_cons] at hC
   have e := expr2 hv hc hvl d n a k hx hca (by omega) (by omega)
   have hl := cE_len (σ := sgR vis names) d 0 k
   rw [ha, chk_bind (by simp [szMax]), expr2_L0 (.cons e .nil) 0 [] (by simp), Option.bind_some, List.nil_append]
   rcases q with ⟨q, _⟩ | q
   ·rw [if_neg (by simp; omega), if_neg (by simp; omega), if_neg (by simp; omega), if_neg (by simp; omega), if_pos (by simpa using q), ix0, Option.bind_some, chk_bind (by simp [lim]; omega), cE_24 q hk]
    simp [cv]
   ·rw [if_neg (by simp; omega), if_neg (by simp; omega), if_neg (by simp; omega), if_neg (by simp; omega), if_neg (by simp; omega), if_pos (by simpa using q), ix0, Option.bind_some, chk_bind (by simp [lim]; omega), cE_15 q hk]
    simp [cv]
  ·obtain ⟨a, b, hab, hca, hcb⟩ := cvd_two c4 hk
   rw [hk, cntL_cons, cntL_cons] at hC
   have e1 := expr2 hv hc hvl d n a k hx hca (by omega) (by omega)
   have e2 := expr2 hv hc hvl d n b l hy hcb (by omega) (by omega)
   have hl1 := cE_len (σ := sgR vis names) d 0 k
   have hl2 := cE_len (σ := sgR vis names) d 0 l
   have b1 := (cE_bd (σ := sgR vis names) d 0 k).le (by omega)
   have b2 := (cE_bd (σ := sgR vis names) d 0 l).le (by omega)
   rw [hab, chk_bind (by simp [szMax]), expr2_L0 (.cons e1 (.cons e2 .nil)) 0 [] (by simp), Option.bind_some, List.nil_append]
   have both : (x : Str) → opw y = x → (y.Kind = 17 ∨ y.Kind = 18 ∨ y.Kind = 19 ∨ y.Kind = 16) → ((Jbc [(cE d (sgR vis names) 0 k).map cv, (cE d (sgR vis names) 0 l).map cv]).bind fun x184 => (chk (x184.length + [(⟨7, 0, x⟩ : I2)].length ≤ lim)).bind fun _ => some (x184 ++ [(⟨7, 0, x⟩ : I2)])) = some ((cE (d + 1) (sgR vis names) 0 y).map cv) := fun w hw hq => by
    rw [joined2 b1 b2 (by omega) (by omega), Option.bind_some, chk_bind (by simp [lim, shL_len]; omega), cE_op hq hk, cE_shift, Nat.zero_add, hw]
    simp [cv]
   by_cases q14 : y.Kind = 14
   ·have sh := shifted_eq (l := cE d (sgR vis names) 0 l) (k := (cE d (sgR vis names) 0 k).length + 1) (by omega) (by omega) b2
    rw [cE_shift, Nat.zero_add] at sh
    have hl3 := cE_len_base (σ := sgR vis names) d ((cE d (sgR vis names) 0 k).length + 1) 0 l
    have sh' : JN ((cE d (sgR vis names) 0 l).map cv) ((((cE d (sgR vis names) 0 k).map cv).length : Int) + 1) = some ((cE d (sgR vis names) ((cE d (sgR vis names) 0 k).length + 1) l).map cv) := by rw [← sh]; congr 1; simp
    rw [if_neg (by simp; omega), if_neg (by simp; omega), if_neg (by simp; omega), if_neg (by simp; omega), if_neg (by simp; omega), if_neg (by simp; omega), if_pos (by simpa using q14), ix0, Option.bind_some, ix1, Option.bind_some]
    rw [chk_bind (by simp only [List.length_map]; constructor <;> omega), chk_bind (by simp only [List.length_map]; constructor <;> omega), chk_bind (by simp only [List.length_map]; constructor <;> omega), chk_bind (by simp only [List.length_map]; constructor <;> omega), chk_bind (by simp only [List.length_map]; constructor <;> omega), chk_bind (by simp only [List.length_map]; constructor <;> omega), chk_bind (by simp only [List.length_map]; constructor <;> omega),
     Option.bind_some, chk_bind (by simp [lim]; omega), chk_bind (by simp [lim]; omega), Option.bind_some, chk_bind (by simp only [List.length_map]; constructor <;> omega), sh', Option.bind_some, chk_bind (by simp [lim]; omega), chk_bind (by simp [lim]; omega), truth2_eq, Option.bind_some, chk_bind (by simp [lim, tr_len]; omega), cE_14 q14 hk]
    simp only [Nat.zero_add, hl3]
    simp [cv]
    omega
   by_cases q13 : y.Kind = 13
   ·have sh := shifted_eq (l := cE d (sgR vis names) 0 l) (k := (cE d (sgR vis names) 0 k).length + 5) (by omega) (by omega) b2
    rw [cE_shift, Nat.zero_add] at sh
    have hl3 := cE_len_base (σ := sgR vis names) d ((cE d (sgR vis names) 0 k).length + 5) 0 l
    have sh' : JN ((cE d (sgR vis names) 0 l).map cv) ((((((cE d (sgR vis names) 0 k).map cv).length : Int) + 1) + 3) + 1) = some ((cE d (sgR vis names) ((cE d (sgR vis names) 0 k).length + 5) l).map cv) := by rw [← sh]; congr 1; simp; omega
    rw [if_neg (by simp; omega), if_neg (by simp; omega), if_neg (by simp; omega), if_neg (by simp; omega), if_neg (by simp; omega), if_neg (by simp; omega), if_neg (by simp; omega), if_pos (by simpa using q13), ix0, Option.bind_some, ix1, Option.bind_some]
    rw [chk_bind (by simp only [List.length_map]; constructor <;> omega), chk_bind (by simp only [List.length_map]; constructor <;> omega), chk_bind (by simp only [List.length_map]; constructor <;> omega), chk_bind (by simp only [List.length_map]; constructor <;> omega), chk_bind (by simp only [List.length_map]; constructor <;> omega), chk_bind (by simp only [List.length_map]; constructor <;> omega), chk_bind (by simp only [List.length_map]; constructor <;> omega),
     Option.bind_some, chk_bind (by simp [lim]; omega), chk_bind (by simp [lim]; omega), truth2_eq, Option.bind_some, chk_bind (by simp [lim, tr_len]; omega), chk_bind (by simp [lim, tr_len]; omega), Option.bind_some, sh', Option.bind_some, chk_bind (by simp [lim, tr_len]; omega), cE_13 q13 hk]
    simp only [Nat.zero_add, hl3]
    simp [cv]
    omega
   rw [if_neg (by simp; omega), if_neg (by simp; omega), if_neg (by simp; omega), if_neg (by simp; omega), if_neg (by simp; omega), if_neg (by simp; omega), if_neg (by simp; omega), if_neg (by simp; omega)]
   by_cases q17 : y.Kind = 17
   ·rw [if_pos (by simpa using q17), both [43] (by simp [opw, q17]) (by omega)]
   by_cases q18 : y.Kind = 18
   ·rw [if_neg (by simp; omega), if_pos (by simpa using q18), both [45] (by simp [opw, q18]) (by omega)]
   by_cases q19 : y.Kind = 19
   ·rw [if_neg (by simp; omega), if_neg (by simp; omega), if_pos (by simpa using q19), both [42] (by simp [opw, q19]) (by omega)]
   rw [if_neg (by simp; omega), if_neg (by simp; omega), if_neg (by simp; omega)]
   exact both y.Text (by simp [opw, q17, q18, q19]) (by omega)
end Rt.Rc
set_option linter.unusedVariables false
set_option linter.unusedSimpArgs false
open Go Go.SL Go.Proofs Pl
namespace Rt.Rc
theorem find_congr {α : Type} {p q : α → Bool} : ∀ {l : List α}, (∀ x ∈ l, p x = q x) → l.find? p = l.find? q
 | [], _ => rfl
 | x :: l, h => by
  rw [List.find?_cons, List.find?_cons, h x (by simp), find_congr fun y hy => h y (by simp [hy])]
theorem sgR_more {vis : List Int} {names : List Str} (hv : InV vis names) (more : List Str) : sgR vis (names ++ more) = sgR vis names := by
 funext s
 unfold sgR
 refine find_congr fun i hi => ?_
 obtain ⟨h0, h1⟩ := hv i (by simpa using hi)
 rw [List.getElem?_append_left (by omega)]
theorem sgR_let {vis : List Int} {names : List Str} (hv : InV vis names) (s : Str) : sgR (vis ++ [(names.length : Int)]) (names ++ [s]) = upd (sgR vis names) s names.length := by
 have h := sgR_more hv [s]
 funext q
 have hq := congrFun h q
 unfold sgR upd at *
 rw [List.reverse_append, List.reverse_cons, List.reverse_nil, List.nil_append, List.cons_append, List.find?_cons, List.nil_append, hq]
 have e : (names ++ [s])[((names.length : Int)).toNat]? = some s := by simp
 rw [e]
 by_cases hs : s = q
 ·rw [if_pos hs, decide_eq_true (by rw [hs])]
 ·rw [if_neg hs, decide_eq_false (by simpa using hs)]
theorem InV.more {vis : List Int} {names : List Str} (hv : InV vis names) (more : List Str) : InV vis (names ++ more) := fun i hi => by
 have := hv i hi
 rw [List.length_append]; omega
theorem InV.let {vis : List Int} {names : List Str} (hv : InV vis names) (s : Str) : InV (vis ++ [(names.length : Int)]) (names ++ [s]) := fun i hi => by
 rw [List.length_append, List.length_singleton]
 rcases List.mem_append.1 hi with h | h
 ·have := hv i h; omega
 ·rw [List.mem_singleton.1 h]; omega
theorem stm_let {d : Nat} {ρ ρ' : Env} {x : M} (q : x.Kind = 3) (hk : x.Kids.length = 1) (h : stm (d + 1) ρ x = .ok ρ') : ρ x.Text = 0 ∧ ∃ t, ρ' = ext ρ x.Text t := by
 match hx : x.Kids, hk with
 | [e], _ =>
  rw [stm, hx] at h
  simp only at h
  cases q1 : tyE d ρ e with
  | error e => rw [q1] at h; cases h
  | ok t =>
   rw [q1] at h
   simp only at h
   split at h
   ·cases h
   ·split at h
    ·rename_i h0
     cases h; exact ⟨h0, t, rfl⟩
    ·cases h
def HB2 (d : Nat) (f : List N → List Int → List Str → Option (List I2 × List Str)) : Prop := ∀ (l : List N) (k : List M) (vis : List Int) (names : List Str) (ρ ρ' : Env), A2 (Cvd d) l k → (∀ y ∈ k, Gd d y) → foldS (stm d) ρ k = .ok ρ' → InV vis names → Cov ρ (sgR vis names) → k.length ≤ 700 → vis.length + 701 * (d + 1) ≤ 90000 → names.length + cntL d k ≤ 100000 → 6 * cntL d k ≤ 400000 →
 ∃ more, f l vis names = some ((foldC (cS d) (sgR vis names) (names.length : Int) 0 k).1.map cv, names ++ more) ∧ (foldC (cS d) (sgR vis names) (names.length : Int) 0 k).2 = ((names ++ more).length : Int)
theorem hd2 {ρ ρ' : Env} {vis : List Int} {names : List Str} {d n m : Nat} {x : N} {y : M} (hv : InV vis names) (hc : Cov ρ (sgR vis names)) (hvl : vis.length ≤ 100000) (ho : ∀ k ∈ y.Kids, Ok d k) (hv0 : ∀ c, y.Kids[0]? = some c → Jm m c = some true) (h : stm (d + 1) ρ y = .ok ρ') (c4 : A2 (Cvd d) x.Kids y.Kids) (hn : d + 200000 ≤ n) (hC : 6 * cntL d y.Kids ≤ 400000) :
  (if decide ((x.Kids.length : Int) > 0) = true then (ix x.Kids 0).bind fun x29 => (JbC n x29 vis names).bind fun x33 => some x33 else some []) = some ((hdC d (sgR vis names) 0 y.Kids).map cv) := by
 rcases stm_other h with ⟨e, ks, hk, t, ht⟩ | hk
 ·have hE : XE ρ d e := XE_of (ho e (by rw [hk]; simp)) (hv0 e (by rw [hk]; rfl)) ht
  have hcn : cnt d e ≤ cntL d y.Kids := by rw [hk, cntL_cons]; omega
  rw [hk] at c4
  cases hx : x.Kids with
  | nil => rw [hx] at c4; cases c4
  | cons a l =>
   rw [hx] at c4
   cases c4 with
   | cons h1 h2 =>
    rw [if_pos (by simp <;> omega), ix0, Option.bind_some, expr2 hv hc hvl d n a e hE h1 hn (by omega), Option.bind_some, hk]
    rfl
 ·rw [cvd_nil c4 hk, hk]; rfl
def St2 (d : Nat) (vis : List Int) (names : List Str) (ρ1 : Env) (y : M) (t : List Int × List Str × List I2) : Prop := ∃ more, t.2.1 = names ++ more ∧ t.2.2 = (cS (d + 1) (sgR vis names) (names.length : Int) 0 y).1.map cv ∧ (cS (d + 1) (sgR vis names) (names.length : Int) 0 y).2.1 = ((names ++ more).length : Int) ∧
 sgR t.1 t.2.1 = (cS (d + 1) (sgR vis names) (names.length : Int) 0 y).2.2 ∧ InV t.1 t.2.1 ∧ Cov ρ1 (sgR t.1 t.2.1) ∧ t.1.length ≤ vis.length + 1
theorem st2_act {d : Nat} {vis : List Int} {names : List Str} {ρ : Env} {y : M} (hv : InV vis names) (hc : Cov ρ (sgR vis names)) (q2 : y.Kind ≠ 2) (q3 : y.Kind ≠ 3) : St2 d vis names ρ y (vis, names, (hdC d (sgR vis names) 0 y.Kids ++ acs y).map cv) := by
 rw [St2, cS_act q2 q3]
 exact ⟨[], by simp, rfl, by simp, rfl, hv, hc, by simp⟩
set_option maxRecDepth 100000 in
theorem st2_if {f : List N → List Int → List Str → Option (List I2 × List Str)} {d m : Nat} {x : N} {y : M} {vis : List Int} {names : List Str} {ρ ρ' : Env} (hf : HB2 d f) (q2 : y.Kind = 2) (hok : Ok (d + 1) y) (hm : Jo (m + 1) y = some true) (hs : stm (d + 1) ρ y = .ok ρ') (hcv : Cvd (d + 1) x y) (hv : InV vis names) (hc : Cov ρ (sgR vis names)) (hvl : vis.length + 701 * (d + 1) ≤ 90000) (hnl : names.length + cnt (d + 1) y ≤ 100000) (hC : 6 * cnt (d + 1) y ≤ 400000)
  {A : List I} (hA : A = hdC d (sgR vis names) 0 y.Kids) : ∃ t, ((ix x.Kids 1).bind fun x119 => (f x119.Kids vis names).bind fun x124 => (chk (InI (((A.map cv).length : Int) + 1))).bind fun _ =>
   if decide ((x.Kids.length : Int) = 2) = true then
    (chk (InI ((((A.map cv).length : Int) + 1) + (x124.1.length : Int)))).bind fun _ =>
    (chk ((A.map cv).length + ([(⟨10, ((((A.map cv).length : Int) + 1) + (x124.1.length : Int)), ([] : Str)⟩ : I2)]).length ≤ lim)).bind fun _ =>
    (JN x124.1 (((A.map cv).length : Int) + 1)).bind fun x144 =>
    (chk (((A.map cv) ++ [(⟨10, ((((A.map cv).length : Int) + 1) + (x124.1.length : Int)), ([] : Str)⟩ : I2)]).length + x144.length ≤ lim)).bind fun _ =>
    some (vis, x124.2, (((A.map cv) ++ [(⟨10, ((((A.map cv).length : Int) + 1) + (x124.1.length : Int)), ([] : Str)⟩ : I2)]) ++ x144))
   else
    (ix x.Kids 2).bind fun x148 => (ix x.Kids 2).bind fun x153 =>
    ((if decide (x153.Kind = 2) = true then (ix x.Kids 2).bind fun x159 => some [x159] else some x148.Kids : Option (List N))).bind fun t915 =>
    (f t915 vis x124.2).bind fun x166 =>
    (chk (InI ((((A.map cv).length : Int) + 1) + (x124.1.length : Int)))).bind fun _ =>
    (chk (InI (((((A.map cv).length : Int) + 1) + (x124.1.length : Int)) + 1))).bind fun _ =>
    (chk ((A.map cv).length + ([(⟨10, (((((A.map cv).length : Int) + 1) + (x124.1.length : Int)) + 1), ([] : Str)⟩ : I2)]).length ≤ lim)).bind fun _ =>
    (JN x124.1 (((A.map cv).length : Int) + 1)).bind fun x181 =>
    (chk (((A.map cv) ++ [(⟨10, (((((A.map cv).length : Int) + 1) + (x124.1.length : Int)) + 1), ([] : Str)⟩ : I2)]).length + x181.length ≤ lim)).bind fun _ =>
    (chk (InI ((((((A.map cv).length : Int) + 1) + (x124.1.length : Int)) + 1) + (x166.1.length : Int)))).bind fun _ =>
    (chk ((((A.map cv) ++ [(⟨10, (((((A.map cv).length : Int) + 1) + (x124.1.length : Int)) + 1), ([] : Str)⟩ : I2)]) ++ x181).length + ([(⟨9, ((((((A.map cv).length : Int) + 1) + (x124.1.length : Int)) + 1) + (x166.1.length : Int)), ([] : Str)⟩ : I2)]).length ≤ lim)).bind fun _ =>
    (JN x166.1 (((((A.map cv).length : Int) + 1) + (x124.1.length : Int)) + 1)).bind fun x193 =>
    (chk (((((A.map cv) ++ [(⟨10, (((((A.map cv).length : Int) + 1) + (x124.1.length : Int)) + 1), ([] : Str)⟩ : I2)]) ++ x181) ++ [(⟨9, ((((((A.map cv).length : Int) + 1) + (x124.1.length : Int)) + 1) + (x166.1.length : Int)), ([] : Str)⟩ : I2)]).length + x193.length ≤ lim)).bind fun _ =>
    some (vis, x166.2, (((((A.map cv) ++ [(⟨10, (((((A.map cv).length : Int) + 1) + (x124.1.length : Int)) + 1), ([] : Str)⟩ : I2)]) ++ x181) ++ [(⟨9, ((((((A.map cv).length : Int) + 1) + (x124.1.length : Int)) + 1) + (x166.1.length : Int)), ([] : Str)⟩ : I2)]) ++ x193))) = some t ∧ St2 d vis names ρ' y t := by
 obtain ⟨h1, h2, h3⟩ := hok
 obtain ⟨m', e, hv0, hv2⟩ := stated_inv hm
 cases e
 obtain ⟨l2, hb⟩ := hv2 q2
 obtain ⟨e, t, ht12, hk⟩ := if_kids q2 hm
 obtain ⟨c1, c2, c3, c4⟩ := hcv
 rw [cnt_eq] at hC hnl
 have hex : ∃ ks, y.Kids = e :: t :: ks := by rcases hk with hk | ⟨o, _, hk⟩ <;> exact ⟨_, hk⟩
 obtain ⟨ks, hks⟩ := hex
 obtain ⟨te, hte, hst⟩ := stm_inv hks hs
 have hρ : ρ' = ρ := stm_kind3 hs (by omega)
 subst hρ
 rcases hst with ⟨q, _⟩ | ⟨_, _, hbr⟩ | ⟨_, q, _⟩
 ·omega
 ·have hT := brs_none hbr
  have gd : ∀ k ∈ t :: ks, (∀ q ∈ brn k, Gd d q) ∧ (brn k).length ≤ 700 := fun k hk1 => by
   have hk2 : k ∈ y.Kids := by rw [hks]; simp at hk1 ⊢; exact .inr hk1
   obtain ⟨l', e1, e2, e3⟩ := branch_ok (h3 k hk2) ((hb k (by rw [hks]; simpa using hk1)).imp (fun h => ⟨h.1, fun q hq => ⟨m, h.2 q hq⟩⟩) fun h => ⟨h.1, m, h.2⟩)
   rw [brn_eq] at e1
   cases e1
   exact ⟨e3, e2⟩
  have hAe : A = cE d (sgR vis names) 0 e := by rw [hA, hks]; rfl
  have hAl := cE_len (σ := sgR vis names) d 0 e
  rw [← hAe] at hAl
  rw [hks, cntL_cons, cntL_cons] at hC hnl
  rw [hks] at c4
  obtain ⟨gt, lt⟩ := gd t (by simp)
  obtain ⟨ρt, hρt⟩ := hT t (by simp)
  obtain ⟨okt, ct⟩ := brn_ok (h3 t (by rw [hks]; simp))
  rw [brn12 ht12] at gt lt hρt okt ct
  cases hx : x.Kids with
  | nil => rw [hx] at c4; cases c4
  | cons xe xs =>
   rw [hx] at c4
   cases c4 with
   | cons ce c4 =>
   cases xs with
   | nil => cases c4
   | cons xt xs =>
   cases c4 with
   | cons cT c4 =>
   have cTk : A2 (Cvd d) xt.Kids t.Kids := by
    cases d with
    | zero => exact cT.elim
    | succ d =>
     have : ∀ {l : List N} {k : List M}, A2 (Cvd d) l k → A2 (Cvd (d + 1)) l k := fun h => by
      induction h with
      | nil => exact .nil
      | cons h _ ih => exact .cons (cvd_up _ _ _ h) ih
     exact this cT.2.2.2
   obtain ⟨moreT, eT, nT⟩ := hf xt.Kids t.Kids vis names ρ' ρt cTk gt hρt hv hc lt hvl (by omega) (by omega)
   have lT := foldC_len (d := d) (g := cS d) t.Kids (sgR vis names) (names.length : Int) 0 fun q hq => cS_len d q (okt q hq)
   have bT := (foldC_bd (g := cS d) t.Kids (sgR vis names) (names.length : Int) 0 fun q _ σ z b => cS_bd d q σ z b).le (by omega)
   have fT : ∀ b, foldC (cS d) (sgR vis names) (names.length : Int) b t.Kids = (shL b (foldC (cS d) (sgR vis names) (names.length : Int) 0 t.Kids).1, (foldC (cS d) (sgR vis names) (names.length : Int) 0 t.Kids).2) := fun b => by
    have := foldC_shift (k := b) t.Kids (sgR vis names) (names.length : Int) 0 fun q _ σ z b' => cS_shift d b q σ z b'
    rw [Nat.zero_add] at this
    exact this
   generalize hTT : foldC (cS d) (sgR vis names) (names.length : Int) 0 t.Kids = T at eT nT lT bT fT
   have sT : JN (T.1.map cv) (((A.map cv).length : Int) + 1) = some ((shL (A.length + 1) T.1).map cv) := by
    rw [← shifted_eq (l := T.1) (k := A.length + 1) (by omega) (by omega) bT]; congr 1; simp
   rw [ix1, Option.bind_some, eT, Option.bind_some, chk_bind (by simp only [List.length_map]; constructor <;> omega)]
   rcases hk with hk | ⟨o, ho, hk⟩
   ·rw [hks] at hk
    cases hk
    cases c4
    rw [if_pos (by simp), chk_bind (by simp only [List.length_map]; constructor <;> omega), chk_bind (by simp [lim]; omega), sT, Option.bind_some, chk_bind (by simp [lim, shL_len]; omega)]
    refine ⟨_, rfl, ?_⟩
    have hcs := cS_2 (b := 0) (σ := sgR vis names) (k := (names.length : Int)) (T := foldC (cS d) (sgR vis names) (names.length : Int) (0 + (cE d (sgR vis names) 0 e).length + 1) t.Kids) q2 hks rfl
    rw [fT, ← hAe, Nat.zero_add] at hcs
    rw [St2, hcs]
    refine ⟨moreT, rfl, ?_, nT, sgR_more hv _, hv.more _, by rw [sgR_more hv]; exact hc, by simp⟩
    simp only [if2, shL_len, List.map_append, List.map_cons, List.length_map, List.append_assoc, List.cons_append, List.nil_append]
    congr 2
    simp only [cv]
    congr 1
    omega
   ·rw [hks] at hk
    cases hk
    cases xs with
    | nil => cases c4
    | cons xo xs =>
    cases c4 with
    | cons cO c4 =>
    cases c4
    rw [cntL_cons] at hC hnl
    obtain ⟨go, lo⟩ := gd o (by simp)
    obtain ⟨ρo, hρo⟩ := hT o (by simp)
    obtain ⟨oko, co⟩ := brn_ok (h3 o (by rw [hks]; simp))
    have kO : xo.Kind = o.Kind := by
     cases d with
     | zero => exact cO.elim
     | succ d => exact cO.1.symm
    have brO : ∃ lO, ((if decide (xo.Kind = 2) = true then (ix [xe, xt, xo] 2).bind fun x159 => some [x159] else some xo.Kids : Option (List N))) = some lO ∧ A2 (Cvd d) lO (brn o) := by
     by_cases qo : o.Kind = 2
     ·refine ⟨[xo], ?_, ?_⟩
      ·rw [if_pos (by simp [kO, qo])]; rfl
      ·rw [brn2 qo]; exact .cons cO .nil
     ·have q12 : o.Kind = 12 := by omega
      refine ⟨xo.Kids, if_neg (by simp [kO, qo]), ?_⟩
      rw [brn12 q12]
      cases d with
      | zero => exact cO.elim
      | succ d =>
       have : ∀ {l : List N} {k : List M}, A2 (Cvd d) l k → A2 (Cvd (d + 1)) l k := fun h => by
        induction h with
        | nil => exact .nil
        | cons h _ ih => exact .cons (cvd_up _ _ _ h) ih
       exact this cO.2.2.2
    obtain ⟨lO', eb, cB⟩ := brO
    have sgT := sgR_more hv moreT
    obtain ⟨moreO, eO, nO⟩ := hf lO' (brn o) vis (names ++ moreT) ρ' ρo cB go hρo (hv.more _) (by rw [sgT]; exact hc) lo hvl (by have := nT; omega) (by omega)
    have lO := foldC_len (d := d) (g := cS d) (brn o) (sgR vis (names ++ moreT)) ((names ++ moreT).length : Int) 0 fun q hq => cS_len d q (oko q hq)
    have bO := (foldC_bd (g := cS d) (brn o) (sgR vis (names ++ moreT)) ((names ++ moreT).length : Int) 0 fun q _ σ z b => cS_bd d q σ z b).le (by omega)
    have fO : ∀ b, foldC (cS d) (sgR vis (names ++ moreT)) ((names ++ moreT).length : Int) b (brn o) = (shL b (foldC (cS d) (sgR vis (names ++ moreT)) ((names ++ moreT).length : Int) 0 (brn o)).1, (foldC (cS d) (sgR vis (names ++ moreT)) ((names ++ moreT).length : Int) 0 (brn o)).2) := fun b => by
     have := foldC_shift (k := b) (brn o) (sgR vis (names ++ moreT)) ((names ++ moreT).length : Int) 0 fun q _ σ z b' => cS_shift d b q σ z b'
     rw [Nat.zero_add] at this
     exact this
    generalize hOO : foldC (cS d) (sgR vis (names ++ moreT)) ((names ++ moreT).length : Int) 0 (brn o) = O at eO nO lO bO fO
    have sO : JN (O.1.map cv) (((((A.map cv).length : Int) + 1) + ((T.1.map cv).length : Int)) + 1) = some ((shL (A.length + 1 + T.1.length + 1) O.1).map cv) := by
     rw [← shifted_eq (l := O.1) (k := A.length + 1 + T.1.length + 1) (by omega) (by omega) bO]; congr 1; simp
    rw [if_neg (by simp <;> omega), show ix [xe, xt, xo] 2 = some xo from rfl, Option.bind_some, Option.bind_some]
    rw [show ix [xe, xt, xo] 2 = some xo from rfl] at eb
    rw [eb, Option.bind_some, eO, Option.bind_some]
    rw [chk_bind (by simp only [List.length_map]; constructor <;> omega), chk_bind (by simp only [List.length_map]; constructor <;> omega), chk_bind (by simp [lim]; omega), sT, Option.bind_some, chk_bind (by simp [lim, shL_len]; omega), chk_bind (by simp only [List.length_map]; constructor <;> omega), chk_bind (by simp [lim, shL_len]; omega), sO, Option.bind_some, chk_bind (by simp [lim, shL_len]; omega)]
    refine ⟨_, rfl, ?_⟩
    have hcs := cS_3 (b := 0) (σ := sgR vis names) (k := (names.length : Int)) (T := foldC (cS d) (sgR vis names) (names.length : Int) (0 + (cE d (sgR vis names) 0 e).length + 1) t.Kids) (O := foldC (cS d) (sgR vis names) (foldC (cS d) (sgR vis names) (names.length : Int) (0 + (cE d (sgR vis names) 0 e).length + 1) t.Kids).2 (0 + (cE d (sgR vis names) 0 e).length + 1 + (foldC (cS d) (sgR vis names) (names.length : Int) (0 + (cE d (sgR vis names) 0 e).length + 1) t.Kids).1.length + 1) (brn o)) q2 hks rfl rfl
    rw [fT, ← hAe, Nat.zero_add] at hcs
    simp only [shL_len] at hcs
    rw [nT, ← sgT, fO] at hcs
    rw [St2]
    rw [sgT] at hcs
    rw [hcs]
    refine ⟨moreT ++ moreO, by simp, ?_, by rw [← List.append_assoc]; exact nO, ?_, ?_, ?_, by simp⟩
    ·simp only [if3, shL_len, List.map_append, List.map_cons, List.length_map, List.append_assoc, List.cons_append, List.nil_append]
     congr 2
     ·simp only [cv]
      congr 1
      omega
     ·congr 2
      simp only [cv]
      congr 1
      omega
    ·rw [List.append_assoc]; exact sgR_more hv _
    ·rw [List.append_assoc]; exact hv.more _
    ·rw [List.append_assoc, sgR_more hv]; exact hc
 ·omega
theorem hdC_len' {σ : Sg} (d b : Nat) (y : M) : (hdC d σ b y.Kids).length ≤ 6 * cntL d y.Kids := hdC_len _
theorem acs_of {y : M} {w : Str} (h : acw y = some w) (l : List I) : (l ++ acs y).map cv = l.map cv ++ [(⟨11, 0, w⟩ : I2)] := by
 unfold acs; rw [h]; simp [cv]
set_option maxRecDepth 100000 in
theorem sts2_L0 {f : List N → List Int → List Str → Option (List I2 × List Str)} {d n : Nat} (hf : HB2 d f) (hn : d + 200000 ≤ n) : ∀ (l : List N) (k : List M) (i : Nat) (vis : List Int) (names : List Str) (C : List I) (ρ ρ' : Env), A2 (Cvd (d + 1)) l k → (∀ y ∈ k, Gd (d + 1) y) → foldS (stm (d + 1)) ρ k = .ok ρ' → InV vis names → Cov ρ (sgR vis names) →
  vis.length + k.length + 701 * (d + 1) ≤ 90000 → names.length + cntL (d + 1) k ≤ 100000 → C.length + 6 * cntL (d + 1) k ≤ 400000 →
  ∃ vis' more, JW n f l i vis names (C.map cv) = some (vis', names ++ more, (C ++ (foldC (cS (d + 1)) (sgR vis names) (names.length : Int) C.length k).1).map cv) ∧ (foldC (cS (d + 1)) (sgR vis names) (names.length : Int) C.length k).2 = ((names ++ more).length : Int)
 | [], k, i, vis, names, C, ρ, ρ', hcv, _, _, _, _, _, _, _ => by
  cases hcv
  exact ⟨vis, [], by simp [JW, foldC], by simp [foldC]⟩
 | x :: l, [], _, _, _, _, _, _, hcv, _, _, _, _, _, _, _ => by cases hcv
 | x :: l, y :: k, i, vis, names, C, ρ, ρ', hcv, hg, hs, hv, hc, hvl, hnl, hC => by
  cases hcv with
  | cons hxy hcv =>
  obtain ⟨ρ1, hs1, hs2⟩ := foldS_cons hs
  rw [cntL_cons] at hnl hC
  simp only [List.length_cons] at hvl
  obtain ⟨hok, m, hm⟩ := hg y (by simp)
  obtain ⟨m, rfl, hv0, hv2⟩ := stated_inv hm
  have hform := stated_form hok.1 hm
  have hcS := cS_len (d + 1) y hok (sgR vis names) (names.length : Int) 0
  have hcn := hok
  obtain ⟨o1, o2, o3⟩ := hcn
  obtain ⟨c1, c2, c3, c4⟩ := hxy
  have hcnt := cnt_eq d y
  have cont : ∀ t : List Int × List Str × List I2, St2 d vis names ρ1 y t → ∃ vis' more, ((JN t.2.2 (((C.map cv).length : Int))).bind fun x199 => (chk ((C.map cv).length + x199.length ≤ lim)).bind fun _ => JW n f l (i + 1) t.1 t.2.1 (C.map cv ++ x199)) =
    some (vis', names ++ more, (C ++ (foldC (cS (d + 1)) (sgR vis names) (names.length : Int) C.length (y :: k)).1).map cv) ∧ (foldC (cS (d + 1)) (sgR vis names) (names.length : Int) C.length (y :: k)).2 = ((names ++ more).length : Int) := fun t ht => by
   obtain ⟨t1, t2, t3⟩ := t
   obtain ⟨more1, e1, e2, e3, e4, e5, e6, e7⟩ := ht
   simp only at e1 e2 e4 e5 e6 e7
   subst e1 e2
   have hb := (cS_bd (d + 1) y (sgR vis names) (names.length : Int) 0).le (by omega)
   have sh := cS_shift (d + 1) C.length y (sgR vis names) (names.length : Int) 0
   rw [Nat.zero_add] at sh
   have hsf := shifted_eq (l := (cS (d + 1) (sgR vis names) (names.length : Int) 0 y).1) (k := C.length) (by omega) (by omega) hb
   have e1' : (cS (d + 1) (sgR vis names) (names.length : Int) C.length y).1 = shL C.length (cS (d + 1) (sgR vis names) (names.length : Int) 0 y).1 := by rw [sh]
   have e2' : (cS (d + 1) (sgR vis names) (names.length : Int) C.length y).2 = (cS (d + 1) (sgR vis names) (names.length : Int) 0 y).2 := by rw [sh]
   simp only [List.length_map]
   rw [hsf, Option.bind_some, chk_bind (by simp [lim, shL_len]; omega), ← e1', ← List.map_append]
   obtain ⟨vis', more2, g1, g2⟩ := sts2_L0 hf hn l k (i + 1) t1 (names ++ more1) (C ++ (cS (d + 1) (sgR vis names) (names.length : Int) C.length y).1) ρ1 ρ' hcv (fun q hq => hg q (by simp [hq])) hs2 e5 e6 (by omega) (by omega) (by rw [List.length_append, e1', shL_len]; omega)
   refine ⟨vis', more1 ++ more2, ?_, ?_⟩
   ·rw [g1, foldC, e2', e4, ← e3, List.append_assoc, List.append_assoc, List.length_append]
   ·rw [foldC]
    simp only
    rw [e2', ← e4, e3, ← List.append_assoc, ← g2]
    simp only [List.length_append]
  have hd := hd2 (x := x) hv hc (by omega) o3 hv0 hs1 c4 (n := n) (by omega) (by omega)
  rw [JW, hd, Option.bind_some, ← c1, ← c2]
  have hA := hdC_len' (σ := sgR vis names) d 0 y
  by_cases q3 : y.Kind = 3
  ·have hk1 : y.Kids.length = 1 := by rcases hform with h | h | h | h | h | h | h <;> omega
   obtain ⟨h0, t, rfl⟩ := stm_let q3 hk1 hs1
   rw [if_pos (by simpa using q3), chk_bind (by simp [lim]; omega), chk_bind (by simp [lim]; omega), chk_bind (by simp [lim]; omega), chk_bind (by simp only [lim]; omega), chk_bind (by simp [lim]; omega), Option.bind_some]
   refine cont _ ?_
   rw [St2, cS_let q3]
   refine ⟨[y.Text], rfl, by simp [cv], by simp, ?_, ?_, ?_, by simp⟩
   ·simp only [List.nil_append]; exact sgR_let hv _
   ·simp only [List.nil_append]; exact hv.let _
   ·simp only [List.nil_append]; rw [sgR_let hv]; exact hc.let h0 _ _
  rw [if_neg (by simpa using q3)]
  have hρ : ρ1 = ρ := stm_kind3 hs1 q3
  by_cases q2 : y.Kind = 2
  ·rw [if_neg (by simp; omega), if_neg (by simp; omega), if_neg (by simp; omega), if_neg (by simp; omega), if_neg (by simp; omega), if_neg (by simp; omega), if_neg (by simp; omega), if_neg (by simp; omega), if_pos (by simpa using q2)]
   obtain ⟨t, e, ht⟩ := st2_if hf q2 hok hm hs1 ⟨c1, c2, c3, c4⟩ hv hc (by omega) (by omega) (by omega) rfl
   rw [e, Option.bind_some]
   exact cont t ht
  subst hρ
  have fin : ∀ w, acw y = some w → ∃ vis' more, ((JN ((hdC d (sgR vis names) 0 y.Kids).map cv ++ [(⟨11, 0, w⟩ : I2)]) (((C.map cv).length : Int))).bind fun x199 => (chk ((C.map cv).length + x199.length ≤ lim)).bind fun _ => JW n f l (i + 1) vis names (C.map cv ++ x199)) =
    some (vis', names ++ more, (C ++ (foldC (cS (d + 1)) (sgR vis names) (names.length : Int) C.length (y :: k)).1).map cv) ∧ (foldC (cS (d + 1)) (sgR vis names) (names.length : Int) C.length (y :: k)).2 = ((names ++ more).length : Int) := fun w hw => by
   have := cont _ (st2_act hv hc q2 q3)
   rw [acs_of hw] at this
   exact this
  by_cases q4 : y.Kind = 4
  ·rw [if_pos (by simpa using q4), chk_bind (by simp [lim]; omega), Option.bind_some]
   exact fin _ (by simp [acw, q4])
  rw [if_neg (by simpa using q4)]
  by_cases q5 : y.Kind = 5
  ·rw [if_pos (by simpa using q5), chk_bind (by simp [lim]; omega), chk_bind (by simp [lim]; omega), Option.bind_some]
   exact fin _ (by simp [acw, q5])
  rw [if_neg (by simpa using q5)]
  by_cases q6 : y.Kind = 6
  ·rw [if_pos (by simpa using q6), chk_bind (by simp [lim]; omega), chk_bind (by simp [lim]; omega), Option.bind_some]
   exact fin _ (by simp [acw, q6])
  rw [if_neg (by simpa using q6)]
  by_cases q7 : y.Kind = 7
  ·rw [if_pos (by simpa using q7), chk_bind (by simp [lim]; omega), Option.bind_some]
   exact fin _ (by simp [acw, q7])
  rw [if_neg (by simpa using q7)]
  by_cases q8 : y.Kind = 8
  ·rw [if_pos (by simpa using q8), chk_bind (by simp [lim]; omega), Option.bind_some]
   exact fin _ (by simp [acw, q8])
  rw [if_neg (by simpa using q8)]
  by_cases q9 : y.Kind = 9
  ·rw [if_pos (by simpa using q9), chk_bind (by simp [lim]; omega), Option.bind_some]
   exact fin _ (by simp [acw, q9])
  rw [if_neg (by simpa using q9)]
  by_cases q10 : y.Kind = 10
  ·rw [if_pos (by simpa using q10), chk_bind (by simp [lim]; omega), Option.bind_some]
   exact fin _ (by simp [acw, q10])
  rw [if_neg (by simpa using q10)]
  by_cases q11 : y.Kind = 11
  ·rw [if_pos (by simpa using q11), chk_bind (by simp [lim]; omega), Option.bind_some]
   exact fin _ (by simp [acw, q11])
  exact absurd hform (by unfold SF; omega)
set_option maxRecDepth 100000 in
theorem sts2 : ∀ (d n : Nat), d + 300000 ≤ n → HB2 d (Jaa n)
 | d, 0, h => by omega
 | 0, n + 1, _ => fun l k vis names ρ ρ' hcv hg hs hv hc hl hvl hnl hC => by
  cases k with
  | nil =>
   cases hcv
   exact ⟨[], by rw [Jaa, chk_bind (by simp [szMax]), JW, Option.bind_some]; simp [foldC], by simp [foldC]⟩
  | cons y k => exact (hg y (by simp)).1.elim
 | d + 1, n + 1, hn => fun l k vis names ρ ρ' hcv hg hs hv hc hl hvl hnl hC => by
  obtain ⟨vis', more, e1, e2⟩ := sts2_L0 (f := Jaa n) (d := d) (n := n) (sts2 d n (by omega)) (by omega) l k 0 vis names [] ρ ρ' hcv hg hs hv hc (by omega) hnl (by simpa using hC)
  refine ⟨more, ?_, e2⟩
  have hlen := hcv.len
  simp only [List.map_nil, List.nil_append, List.length_nil] at e1
  rw [Jaa, chk_bind (by simp only [szMax]; omega), e1, Option.bind_some]
set_option maxRecDepth 100000 in
theorem Compile2_pure {n d : Nat} {x : N} {y : M} {b : Bool} (ho : OkN (d + 1) x) (hy : Ok (d + 1) y) (hc : Cvd (d + 1) x y) (hd : d ≤ 100) (hn : 400000 ≤ n) (hcn : cntL d y.Kids ≤ 10000) (hb : JbI n x = some b) (hb2 : Jak n y = some b) :
  JbS n x = some (if b = true then (match foldS (stm d) base y.Kids with
   | .ok _ => if (prog d y.Kids).length ≤ 2048 then ((prog d y.Kids).map cv, 0) else ([], 5)
   | .error e => ([], e.2)) else ([], 2)) := by
 unfold JbS
 rw [Check2_pure ho hc hd hn hb hb2, Option.bind_some]
 cases b with
 | false => rfl
 | true =>
  simp only [if_true]
  cases q : foldS (stm d) base y.Kids with
  | error e =>
   have := fold_err q
   rw [if_pos (show decide ((fl2 (.error e)).Code ≠ 0) = true from decide_eq_true this)]
   rfl
  | ok ρ =>
   obtain ⟨o1, o2, o3⟩ := hy
   have hv := Valid_inv hb2
   have hg : ∀ k ∈ y.Kids, Gd d k := fun k hk => ⟨o3 k hk, n, hv k hk⟩
   have e : sgR [] [] = fun _ => none := rfl
   have h := sts2 d n (by omega) x.Kids y.Kids [] [] base ρ hc.2.2.2 hg q (fun i hi => by cases hi) (by rw [e]; exact cov_base) o2 (by simp only [List.length_nil]; omega) (by simp only [List.length_nil]; omega) (by omega)
   rw [e] at h
   obtain ⟨more, h, _⟩ := h
   replace h : Jaa n x.Kids [] [] = some ((foldC (cS d) (fun _ => none) 0 0 y.Kids).1.map cv, more) := h
   rw [if_neg (show ¬ decide ((fl2 (.ok ρ)).Code ≠ 0) = true by simp [fl2]), h, Option.bind_some]
   obtain ⟨l1, l2, l3⟩ := foldC_len (d := d) (g := cS d) y.Kids (fun _ => none) 0 0 fun q hq => cS_len d q (o3 q hq)
   simp only
   rw [chk_bind (by simp [lim]; omega)]
   unfold prog haltI
   by_cases q2 : ((foldC (cS d) (fun _ => none) 0 0 y.Kids).1 ++ [(⟨12, 0, []⟩ : I)]).length ≤ 2048
   ·have q3 : (foldC (cS d) (fun _ => none) 0 0 y.Kids).1.length ≤ 2047 := by simp at q2; omega
    rw [if_neg (by simp; omega), if_pos q2]
    simp [cv]
   ·have q3 : ¬ (foldC (cS d) (fun _ => none) 0 0 y.Kids).1.length ≤ 2047 := by simp at q2; omega
    rw [if_pos (by simp; omega), if_neg q2]
end Rt.Rc
