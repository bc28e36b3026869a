import Derived.Test.YtmpdebfckeahmaaGreatDoorR
import Derived.Test.YtmpdebfckeahmaaGreatDoorPlain
import Derived.Test.YtmpdebfckeahmaaGreatDoorG2
import Derived.Test.YtmpdebfckeahmaaGreatDoorLS
set_option linter.unusedVariables false
set_option linter.unusedSimpArgs false
open Go Go.SL Go.Proofs Pl
namespace Rt
theorem el_go {ρ σ γ : Type} {y : σ} {f : ρ → Option γ} {g : σ → Option γ} : (Fl.go y : Fl ρ σ).el f g = g y := rfl
theorem el_ret {ρ σ γ : Type} {y : ρ} {f : ρ → Option γ} {g : σ → Option γ} : (Fl.ret y : Fl ρ σ).el f g = f y := rfl
theorem ix_ok {α : Type} {s : List α} {i : Int} (h0 : 0 ≤ i) (h1 : i < (s.length : Int)) : ∃ x, ix s i = some x := by
 unfold ix
 rw [if_pos h0]
 exact ⟨s[i.toNat]'(by omega), List.getElem?_eq_getElem (by omega)⟩
theorem ite_ex {α : Type} {b : Bool} {x y : Option α} (h1 : b = true → ∃ r, x = some r) (h2 : b = false → ∃ r, y = some r) : ∃ r, (if b = true then x else y) = some r := by
 cases b with
 | true => exact h1 rfl
 | false => exact h2 rfl
theorem quoted_L0 {s : Str} (hs : s.length ≤ 5000) : ∀ (n : Nat) (y : Str) (i : Int), 0 ≤ i → i ≤ (s.length : Int) → (s.length : Int) - i < n → (y.length : Int) + (s.length - i) ≤ 100000 → ∃ r, JaH s n y i = some r ∧ ∀ a b, r = Fl.ret (a, b) → a = 0 ∨ (0 < a ∧ a ≤ (s.length : Int))
 | 0, y, i, h0, h3, h1, h2 => by omega
 | n + 1, y, i, h0, h3, h1, h2 => by
  rw [JaH]
  by_cases hi : i < (s.length : Int)
  ·obtain ⟨c, hc⟩ := ix_ok h0 hi
   rw [if_pos (by simpa using hi), hc, Option.bind_some]
   by_cases q : (c.toNat : Int) = 34
   ·rw [if_pos (by simpa using q), chk_bind (by constructor <;> omega)]
    exact ⟨_, rfl, fun a b e => by cases e; right; omega⟩
   ·rw [if_neg (by simpa using q)]
    by_cases q2 : (c.toNat : Int) = 92
    ·rw [if_pos (by simpa using q2), chk_bind (by constructor <;> omega)]
     by_cases q3 : i + 1 = (s.length : Int)
     ·rw [if_pos (by simpa using q3)]; exact ⟨_, rfl, fun a b e => by cases e; left; rfl⟩
     ·obtain ⟨d, hd⟩ := ix_ok (s := s) (i := i + 1) (by omega) (by omega)
      rw [if_neg (by simpa using q3), hd, Option.bind_some]
      have e2 : ∃ b, (if decide ((d.toNat : Int) ≠ 34) = true then (some d).bind fun x40 => some (decide ((x40.toNat : Int) ≠ 92)) else some false) = some b := ite_ex (fun _ => ⟨_, rfl⟩) (fun _ => ⟨_, rfl⟩)
      obtain ⟨b, hb⟩ := e2
      rw [hb, Option.bind_some]
      cases b with
      | true => exact ⟨_, if_pos rfl, fun a b e => by cases e; left; rfl⟩
      | false =>
       rw [if_neg (by simp), Option.bind_some, chk_bind (by simp only [lim, List.length_cons, List.length_nil]; omega), chk_bind (by constructor <;> omega)]
       exact quoted_L0 hs n _ _ (by omega) (by omega) (by omega) (by simp only [List.length_append, List.length_cons, List.length_nil]; omega)
    ·rw [if_neg (by simpa using q2)]
     refine (fun (h : ∀ b : Bool, b = (decide ((c.toNat : Int) < 32) || decide ((c.toNat : Int) > 126)) → _) => h _ rfl) fun b hb => ?_
     rw [← hb]
     cases b with
     | true => exact ⟨_, if_pos rfl, fun a b e => by cases e; left; rfl⟩
     | false =>
      rw [if_neg (by simp), chk_bind (by simp only [lim, List.length_cons, List.length_nil]; omega), chk_bind (by constructor <;> omega)]
      exact quoted_L0 hs n _ _ (by omega) (by omega) (by omega) (by simp only [List.length_append, List.length_cons, List.length_nil]; omega)
  ·rw [if_neg (by simpa using hi)]; exact ⟨_, rfl, fun a b e => by cases e⟩
theorem token_L1 {s : Str} (hs : s.length ≤ 5000) : ∀ (n : Nat) (i : Int), 0 < i → i ≤ (s.length : Int) → (s.length : Int) - i < n → ∃ r, JaD s n i = some r ∧ 0 < r ∧ r ≤ (s.length : Int)
 | 0, i, h0, h1, h2 => by omega
 | n + 1, i, h0, h1, h2 => by
  rw [JaD]
  by_cases hi : i < (s.length : Int)
  ·obtain ⟨c, hc⟩ := ix_ok (by omega) hi
   rw [if_pos (by simpa using hi), hc, Option.bind_some]
   unfold Ja0 JaO
   rw [Option.bind_some]
   have e : ∀ b : Bool, ∃ d, (if b = true then some true else (some c).bind fun x28 => (some (decide ((x28.toNat : Int) ≥ 48) && decide ((x28.toNat : Int) ≤ 57))).bind fun x29 => some x29) = some d := fun b => ite_ex (fun _ => ⟨_, rfl⟩) (fun _ => ⟨_, rfl⟩)
   obtain ⟨d, hd⟩ := e _
   rw [hd, Option.bind_some]
   cases d with
   | true => rw [if_pos rfl, chk_bind (by constructor <;> omega)]; exact token_L1 hs n (i + 1) (by omega) (by omega) (by omega)
   | false => exact ⟨i, if_neg (by simp), h0, h1⟩
  ·exact ⟨i, if_neg (by simpa using hi), h0, h1⟩
theorem token_L3 {s : Str} (hs : s.length ≤ 5000) : ∀ (n : Nat) (i : Int), 0 < i → i ≤ (s.length : Int) → (s.length : Int) - i < n → ∃ r, Ja9 s n i = some r ∧ 0 < r ∧ r ≤ (s.length : Int)
 | 0, i, h0, h1, h2 => by omega
 | n + 1, i, h0, h1, h2 => by
  rw [Ja9]
  by_cases hi : i < (s.length : Int)
  ·obtain ⟨c, hc⟩ := ix_ok (by omega) hi
   rw [if_pos (by simpa using hi), hc, Option.bind_some]
   unfold JaO
   rw [Option.bind_some, Option.bind_some]
   refine (fun (h : ∀ b : Bool, b = (decide ((c.toNat : Int) ≥ 48) && decide ((c.toNat : Int) ≤ 57)) → _) => h _ rfl) fun b hb => ?_
   rw [← hb]
   cases b with
   | true => rw [if_pos rfl, chk_bind (by constructor <;> omega)]; exact token_L3 hs n (i + 1) (by omega) (by omega) (by omega)
   | false => exact ⟨i, if_neg (by simp), h0, h1⟩
  ·rw [if_neg (by simpa using hi), Option.bind_some]
   exact ⟨i, if_neg (by simp), h0, h1⟩
theorem prefix_ok (s p : Str) : J1 s p = some (decide ((s.length : Int) ≥ (p.length : Int)) && decide (subL s (0 : Int) (p.length : Int) = p)) := by
 unfold J1 Jad
 by_cases h : (s.length : Int) ≥ (p.length : Int)
 ·rw [if_pos (by simpa using h), chk_bind (by omega)]; simp [h]
 ·rw [if_neg (by simpa using h)]
  have : ¬ p.length ≤ s.length := by omega
  simp [this]
theorem token_L5 {s : Str} : ∀ (k i : Nat), i + k = 14 → ∃ r, JaE s k i = some r ∧ ∀ a b c, r = Fl.ret (a, b, c) → 0 ≤ b ∧ b ≤ (s.length : Int)
 | 0, i, h => ⟨_, rfl, fun a b c e => by cases e⟩
 | k + 1, i, h => by
  rw [JaE]
  obtain ⟨p, hp⟩ := ix_ok (s := ([([61, 61] : Str), ([33, 61] : Str), ([60, 61] : Str), ([60] : Str), ([43] : Str), ([45] : Str), ([42] : Str), ([40] : Str), ([41] : Str), ([123] : Str), ([125] : Str), ([44] : Str), ([59] : Str), ([61] : Str)])) (i := (i : Int)) (by omega) (by simp; omega)
  rw [hp, Option.bind_some, prefix_ok, Option.bind_some]
  by_cases q : (decide ((s.length : Int) ≥ (p.length : Int)) && decide (subL s (0 : Int) (p.length : Int) = p)) = true
  ·rw [if_pos q]
   simp only [Bool.and_eq_true, decide_eq_true_eq] at q
   exact ⟨_, rfl, fun a b c e => by cases e; omega⟩
  ·rw [if_neg q]; exact token_L5 k (i + 1) (by omega)
theorem token_ok {n : Nat} {s : Str} (hn : 10000 ≤ n) (h0 : 0 < s.length) (hs : s.length ≤ 5000) : ∃ a b c, Jbf n s = some (a, b, c) ∧ 0 ≤ b ∧ b ≤ (s.length : Int) := by
 unfold Jbf
 obtain ⟨c, hc⟩ := ix_ok (s := s) (i := 0) (by omega) (by omega)
 rw [hc, Option.bind_some]
 unfold Ja0
 rw [Option.bind_some]
 split
 ·obtain ⟨r, hr, h1, h2⟩ := token_L1 hs n 1 (by omega) (by omega) (by omega)
  rw [hr, Option.bind_some, chk_bind (by omega)]
  exact ⟨_, _, _, rfl, by omega, h2⟩
 ·unfold JaO
  rw [Option.bind_some]
  split
  ·obtain ⟨r, hr, h1, h2⟩ := token_L3 hs n 1 (by omega) (by omega) (by omega)
   rw [hr, Option.bind_some]
   split
   ·exact ⟨_, _, _, rfl, by omega, by omega⟩
   ·rw [chk_bind (by omega)]; exact ⟨_, _, _, rfl, by omega, h2⟩
  ·split
   ·unfold JcU
    obtain ⟨r, hr, h1⟩ := quoted_L0 hs n [] 1 (by omega) (by omega) (by omega) (by simp; omega)
    rw [hr, Option.bind_some]
    cases r with
    | ret z =>
     obtain ⟨a, b⟩ := z
     rw [el_ret, Option.bind_some]
     have := h1 a b rfl
     exact ⟨_, _, _, rfl, by omega, by omega⟩
    | go z => rw [el_go, Option.bind_some]; exact ⟨_, _, _, rfl, by omega, by omega⟩
   ·obtain ⟨r, hr, h1⟩ := token_L5 (s := s) 14 0 rfl
    rw [chk_bind (by constructor <;> omega), show ((14 : Int)).toNat = 14 from rfl, hr, Option.bind_some]
    cases r with
    | ret z =>
     obtain ⟨a, b, c⟩ := z
     have := h1 a b c rfl
     exact ⟨_, _, _, rfl, this.1, this.2⟩
    | go z => exact ⟨_, _, _, rfl, by omega, by omega⟩
theorem split_L3 {s : Str} (hs : s.length ≤ 5000) : ∀ (n : Nat) (i : Int), 0 ≤ i → i ≤ (s.length : Int) → (s.length : Int) - i < n → ∃ r, Jba s n i = some r ∧ i ≤ r ∧ r ≤ (s.length : Int) ∧ (∀ c, ix s i = some c → (c.toNat : Int) ≠ 10 → i < r)
 | 0, i, h0, h1, h2 => by omega
 | n + 1, i, h0, h1, h2 => by
  rw [Jba]
  by_cases hi : i < (s.length : Int)
  ·obtain ⟨c, hc⟩ := ix_ok h0 hi
   rw [if_pos (by simpa using hi), hc, Option.bind_some, Option.bind_some]
   by_cases q : (c.toNat : Int) = 10
   ·exact ⟨i, if_neg (by simpa using q), by omega, h1, fun d e => by cases e; exact fun h => absurd q h⟩
   ·obtain ⟨r, hr, h3, h4, _⟩ := split_L3 hs n (i + 1) (by omega) (by omega) (by omega)
    rw [if_pos (by simpa using q), chk_bind (by constructor <;> omega)]
    exact ⟨r, hr, by omega, h4, fun _ _ _ => by omega⟩
  ·rw [if_neg (by simpa using hi), Option.bind_some]
   refine ⟨i, if_neg (by simp), by omega, h1, fun c e => ?_⟩
   unfold ix at e
   rw [if_pos h0, List.getElem?_eq_none (by omega)] at e; cases e
theorem split_L0 {s : Str} {m : Nat} (hm : 10000 ≤ m) (hs : s.length ≤ 5000) : ∀ (n : Nat) (y : List JA) (a b i : Int), 0 ≤ i → i ≤ (s.length : Int) → (s.length : Int) - i < n → (y.length : Int) + (s.length - i) ≤ 100000 → 0 ≤ a → a + (s.length - i) ≤ 100000 → 0 ≤ b → b ≤ i →
  ∃ r, JQ s m n y a b i = some r ∧ ∀ p q u v, r = Fl.go (p, q, u, v) → p.length ≤ 100000 ∧ 0 ≤ u ∧ u ≤ (s.length : Int)
 | 0, y, a, b, i, h0, h1, h2, h3, h4, h5, h6, h7 => by omega
 | n + 1, y, a, b, i, h0, h1, h2, h3, h4, h5, h6, h7 => by
  rw [JQ]
  by_cases hi : i < (s.length : Int)
  ·obtain ⟨c, hc⟩ := ix_ok h0 hi
   rw [if_pos (by simpa using hi), hc, Option.bind_some]
   split
   ·rw [chk_bind (by constructor <;> omega), chk_bind (by constructor <;> omega)]
    exact split_L0 hm hs n _ _ _ _ (by omega) (by omega) (by omega) (by omega) (by omega) (by omega) (by omega) (by omega)
   ·rename_i h10
    split
    ·rw [chk_bind (by constructor <;> omega)]
     exact split_L0 hm hs n _ _ _ _ (by omega) (by omega) (by omega) (by omega) (by omega) (by omega) (by omega) (by omega)
    ·split
     ·rw [chk_bind (by constructor <;> omega)]
      exact split_L0 hm hs n _ _ _ _ (by omega) (by omega) (by omega) (by omega) (by omega) (by omega) (by omega) (by omega)
     ·split
      ·rw [chk_bind (by constructor <;> omega)]
       exact split_L0 hm hs n _ _ _ _ (by omega) (by omega) (by omega) (by omega) (by omega) (by omega) (by omega) (by omega)
      ·split
       ·obtain ⟨r, hr, g1, g2, g3⟩ := split_L3 hs m i h0 h1 (by omega)
        have := g3 c hc (by simpa using h10)
        rw [hr, Option.bind_some]
        exact split_L0 hm hs n _ _ _ _ (by omega) (by omega) (by omega) (by omega) (by omega) (by omega) (by omega) (by omega)
       ·have hsl : (subL s i (s.length : Int)).length = s.length - i.toNat := by
         unfold subL
         rw [List.length_take, List.length_drop]; omega
        rw [chk_bind (by omega)]
        obtain ⟨u, v, w, hr, g1, g2⟩ := token_ok (n := m) (s := subL s i (s.length : Int)) hm (by omega) (by omega)
        rw [hr, Option.bind_some]
        split
        ·exact ⟨_, rfl, fun p q u v e => by cases e⟩
        ·rename_i hz
         have hz' : v ≠ 0 := by simpa using hz
         rw [chk_bind (by constructor <;> omega), chk_bind (by constructor <;> omega), chk_bind (by simp only [lim, List.length_cons, List.length_nil]; omega), chk_bind (by constructor <;> simp only <;> omega)]
         exact split_L0 hm hs n _ _ _ _ (by simp only; omega) (by simp only; omega) (by simp only; omega) (by simp only [List.length_append, List.length_cons, List.length_nil]; omega) (by omega) (by simp only; omega) (by omega) (by simp only; omega)
  ·rw [if_neg (by simpa using hi)]
   exact ⟨_, rfl, fun p q u v e => by cases e; omega⟩
theorem split_ok {n : Nat} {s : Str} (hn : 10000 ≤ n) : ∃ r, Jbg n s = some r := by
 unfold Jbg
 by_cases h : (s.length : Int) > 4096
 ·exact ⟨_, if_pos (by simpa using h)⟩
 ·obtain ⟨r, hr, h1⟩ := split_L0 hn (s := s) (by omega) n [] 1 0 0 (by omega) (by omega) (by omega) (by simp; omega) (by omega) (by omega) (by omega) (by omega)
  rw [if_neg (by simpa using h), hr, Option.bind_some]
  cases r with
  | ret z => rw [el_ret]; exact ⟨_, rfl⟩
  | go z =>
   obtain ⟨p, q, u, v⟩ := z
   obtain ⟨g1, g2, g3⟩ := h1 p q u v rfl
   rw [el_go, chk_bind (by constructor <;> simp only <;> omega), chk_bind (by constructor <;> simp only <;> omega), chk_bind (by simp only [lim, List.length_cons, List.length_nil]; omega)]
   exact ⟨_, rfl⟩
theorem bind_ex {α β : Type} {o : Option α} {f : α → Option β} (h1 : ∃ a, o = some a) (h2 : ∀ a, o = some a → ∃ r, f a = some r) : ∃ r, o.bind f = some r := by
 obtain ⟨a, ha⟩ := h1
 rw [ha, Option.bind_some]; exact h2 a ha
abbrev M := Ja
abbrev N := Jb
def Ok : Nat → M → Prop
 | 0, _ => False
 | d + 1, x => x.Ac.length ≤ 3000 ∧ x.Aa.length ≤ 700 ∧ ∀ k ∈ x.Aa, Ok d k
theorem Ok.succ : ∀ {d : Nat} {x : M}, Ok d x → Ok (d + 1) x
 | d + 1, x, h => ⟨h.1, h.2.1, fun k hk => (h.2.2 k hk).succ⟩
theorem expression_L0_inv {f : M → Option Bool} : ∀ (l : List M) (i : Nat), (JI f l i).bind (fun s0 => s0.el some fun t0 => some true) = some true → ∀ k ∈ l, f k = some true
 | [], i, _, k, hk => by cases hk
 | a :: l, i, h, k, hk => by
  rw [JI] at h
  cases ha : f a with
  | none => rw [ha] at h; cases h
  | some b =>
   rw [ha, Option.bind_some] at h
   cases b with
   | false => simp [Fl.el] at h
   | true =>
    rw [if_neg (by simp)] at h
    rcases List.mem_cons.1 hk with rfl | hk
    ·exact ha
    ·exact expression_L0_inv l (i + 1) h k hk
theorem expression_inv {n : Nat} {x : M} (h : Jq n x = some true) : ∃ m k, n = m + 1 ∧ Ju m x = some k ∧ k ≠ -2 ∧ (0 ≤ k → (x.Aa.length : Int) = k) ∧ ∀ c ∈ x.Aa, Jq m c = some true := by
 cases n with
 | zero => rw [Jq] at h; cases h
 | succ m =>
  rw [Jq] at h
  obtain ⟨k, hk, h⟩ := bnd h
  refine ⟨m, k, rfl, hk, ?_⟩
  cases q : decide (k = -2) with
  | true => rw [q, if_pos rfl] at h; cases h
  | false =>
   rw [q, if_neg (by simp)] at h
   refine ⟨of_decide_eq_false q, ?_⟩
   cases q2 : (decide (k ≥ 0) && decide ((x.Aa.length : Int) ≠ k)) with
   | true => rw [q2, if_pos rfl] at h; cases h
   | false =>
    rw [q2, if_neg (by simp)] at h
    obtain ⟨_, h⟩ := chkb h
    refine ⟨fun h0 => ?_, expression_L0_inv x.Aa 0 h⟩
    simp only [Bool.and_eq_false_iff, decide_eq_false_iff_not] at q2
    omega
theorem blocked_L0_inv {f : M → Option Bool} : ∀ (l : List M) (i : Nat), (JU f l i).bind (fun s0 => s0.el some fun t0 => some true) = some true → ∀ k ∈ l, f k = some true
 | [], i, _, k, hk => by cases hk
 | a :: l, i, h, k, hk => by
  rw [JU] at h
  cases ha : f a with
  | none => rw [ha] at h; cases h
  | some b =>
   rw [ha, Option.bind_some] at h
   cases b with
   | false => simp [Fl.el] at h
   | true =>
    rw [if_neg (by simp)] at h
    rcases List.mem_cons.1 hk with rfl | hk
    ·exact ha
    ·exact blocked_L0_inv l (i + 1) h k hk
theorem blocked_inv {f : M → Option Bool} {n : Nat} {x : M} (h : JaF f n x = some true) : x.Ab = 12 ∧ ∀ k ∈ x.Aa, f k = some true := by
 unfold JaF at h
 cases q : (decide (x.Ab ≠ 12) || decide (x.Ac ≠ ([] : Str))) with
 | true => rw [q, if_pos rfl] at h; cases h
 | false =>
  rw [q, if_neg (by simp)] at h
  obtain ⟨_, h⟩ := chkb h
  simp only [Bool.or_eq_false_iff, decide_eq_false_iff_not, Classical.not_not] at q
  exact ⟨q.1, blocked_L0_inv x.Aa 0 h⟩
theorem Valid_L0_inv {n : Nat} : ∀ (l : List M) (i : Nat), (Jav n l i).bind (fun s0 => s0.el some fun t0 => some true) = some true → ∀ k ∈ l, Jr n k = some true
 | [], i, _, k, hk => by cases hk
 | a :: l, i, h, k, hk => by
  rw [Jav] at h
  cases ha : Jr n a with
  | none => rw [ha] at h; cases h
  | some b =>
   rw [ha, Option.bind_some] at h
   cases b with
   | false => simp [Fl.el] at h
   | true =>
    rw [if_neg (by simp)] at h
    rcases List.mem_cons.1 hk with rfl | hk
    ·exact ha
    ·exact Valid_L0_inv l (i + 1) h k hk
theorem Valid_inv {n : Nat} {x : M} (h : Jab n x = some true) : ∀ k ∈ x.Aa, Jr n k = some true := by
 unfold Jab at h
 split at h
 ·cases h
 ·obtain ⟨s, hs, h⟩ := bnd h
  split at h
  ·cases h
  ·obtain ⟨_, h⟩ := chkb h
   exact Valid_L0_inv x.Aa 0 h
abbrev Ck := Jk
abbrev Bd := Ji
theorem lookup_L0 {env : List Bd} {s : Str} (hl : env.length ≤ 100000) : ∀ (n : Nat) (i : Int), -1 ≤ i → i < (env.length : Int) → i + 1 < n → ∃ r, Jac env s n i = some r
 | 0, i, _, _, h => by omega
 | n + 1, i, h0, h1, h => by
  rw [Jac]
  refine ite_ex (fun hi => ?_) fun _ => ⟨_, rfl⟩
  have hi := of_decide_eq_true hi
  obtain ⟨b, hb⟩ := ix_ok (s := env) (i := i) (by omega) (by omega)
  rw [hb, Option.bind_some]
  refine ite_ex (fun _ => ⟨_, rfl⟩) fun _ => ?_
  rw [chk_bind (by constructor <;> omega)]
  exact lookup_L0 hl n (i - 1) (by omega) (by omega) (by omega)
theorem lookup_ok {env : List Bd} {s : Str} {n : Nat} (hl : env.length ≤ 100000) (hn : env.length + 1 ≤ n) : ∃ t, JaP n s env = some t := by
 unfold JaP
 obtain ⟨r, hr⟩ := lookup_L0 (s := s) hl n ((env.length : Int) - 1) (by omega) (by omega) (by omega)
 rw [chk_bind (by constructor <;> omega), hr, Option.bind_some]
 cases r with
 | ret z => exact ⟨_, rfl⟩
 | go z => rw [el_go]; exact bind_ex ⟨_, rfl⟩ fun _ _ => ite_ex (fun _ => ⟨_, rfl⟩) fun _ => ⟨_, rfl⟩
theorem op1_L0 (t : Int) : ∀ (l : List Int) (i : Nat), ∃ r, JJ t l i = some r
 | [], i => ⟨_, rfl⟩
 | x :: l, i => by
  rw [JJ]
  exact ite_ex (fun _ => ⟨_, rfl⟩) fun _ => op1_L0 t l (i + 1)
theorem op1_ok (t : Int) {l : List Int} (h : l.length ≤ 1000) : ∃ b, Jv t l = some b := by
 obtain ⟨r, hr⟩ := op1_L0 t l 0
 unfold Jv
 rw [chk_bind (by simp only [szMax]; omega), hr, Option.bind_some]
 cases r <;> exact ⟨_, rfl⟩
theorem operator_ok {x : M} {l : List Int} (h : l.length ≤ 1000) (h16 : x.Ab = 16 → l.length = 2) : ∃ t, JL x l = some t := by
 have one : ∀ (t a : Int), ∃ r, (Jv t l).bind (fun x => if x = true then some a else some 0) = some r := fun t a => bind_ex (op1_ok t h) fun _ _ => ite_ex (fun _ => ⟨_, rfl⟩) fun _ => ⟨_, rfl⟩
 unfold JL
 refine ite_ex (fun _ => bind_ex (op1_ok 1 h) fun _ _ => ite_ex (fun _ => ⟨_, rfl⟩) fun _ => one 2 2) fun _ => ?_
 refine ite_ex (fun _ => one 2 2) fun _ => ?_
 refine ite_ex (fun _ => one 2 2) fun _ => ?_
 refine ite_ex (fun _ => one 3 3) fun _ => ?_
 refine ite_ex (fun _ => one 3 3) fun _ => ?_
 refine ite_ex (fun _ => one 3 3) fun _ => ?_
 refine ite_ex (fun hk => ?_) fun _ => ⟨_, rfl⟩
 have h2 := h16 (of_decide_eq_true hk)
 have cmp : ∃ r, (ix l 0).bind (fun x36 => (ix l 1).bind fun x39 => if decide (x36 = x39) = true then some (3 : Int) else some 0) = some r := bind_ex (ix_ok (by omega) (by omega)) fun _ _ => bind_ex (ix_ok (by omega) (by omega)) fun _ _ => ite_ex (fun _ => ⟨_, rfl⟩) fun _ => ⟨_, rfl⟩
 refine ite_ex (fun _ => cmp) fun _ => ?_
 refine ite_ex (fun _ => cmp) fun _ => ?_
 refine ite_ex (fun _ => one 2 3) fun _ => ?_
 refine ite_ex (fun _ => one 2 3) fun _ => ?_
 exact one 1 3
theorem fail_ok (c : Ck) (x : M) (e : Err) : ∃ r, JH c x e = some r := by
 unfold JH
 exact ite_ex (fun _ => ⟨_, rfl⟩) fun _ => ⟨_, rfl⟩
theorem function_ok (s : Str) : ∃ r, J2 s = some r := by
 unfold J2
 repeat (refine ite_ex (fun _ => ⟨_, rfl⟩) fun _ => ?_)
 exact ⟨_, rfl⟩
theorem call_ok (c : Ck) (x : M) (l : List Int) : ∃ r, JV c x l = some r := by
 unfold JV
 refine bind_ex (function_ok _) fun f _ => ite_ex (fun _ => bind_ex (fail_ok _ _ _) fun _ _ => ⟨_, rfl⟩) fun _ => ?_
 refine bind_ex (ite_ex (fun _ => ⟨_, rfl⟩) fun h => ?_) fun _ _ => ite_ex (fun _ => bind_ex (fail_ok _ _ _) fun _ _ => ⟨_, rfl⟩) fun _ => ⟨_, rfl⟩
 have h := of_decide_eq_false h
 exact bind_ex (ix_ok (by omega) (by omega)) fun _ _ => ⟨_, rfl⟩
theorem cexpr_L0 {f : Ck → M → List Bd → Option (Int × Ck)} {env : List Bd} : ∀ (l : List M) (i : Nat) (y : List Int) (a : Int) (e : Err), (∀ k ∈ l, ∀ c, ∃ r, f c k env = some r) → y.length + l.length ≤ 1000 →
  ∃ r, JM f env l i y a e = some r ∧ ∀ z, r = Fl.go z → z.1.length = y.length + l.length
 | [], i, y, a, e, _, _ => ⟨_, rfl, fun z h => by cases h; rfl⟩
 | k :: l, i, y, a, e, h, hy => by
  simp only [List.length_cons] at hy
  obtain ⟨r, hr⟩ := h k (by simp) ⟨a, e⟩
  rw [JM, hr, Option.bind_some, chk_bind (by simp only [lim, List.length_cons, List.length_nil]; omega)]
  cases q : r.2.err.isSome with
  | true => exact ⟨_, if_pos rfl, fun z h => by cases h⟩
  | false =>
   rw [if_neg (by simp)]
   obtain ⟨r', hr', hl⟩ := cexpr_L0 (f := f) (env := env) l (i + 1) (y ++ [r.1]) r.2.line r.2.err (fun k hk => h k (by simp [hk])) (by simp only [List.length_append, List.length_cons, List.length_nil]; omega)
   exact ⟨r', hr', fun z hz => by rw [hl z hz]; simp only [List.length_append, List.length_cons, List.length_nil]; omega⟩
theorem operands_16 {m : Nat} {x : M} {k : Int} (hk : x.Ab = 16) (h : Ju m x = some k) : k = 2 ∨ k = -2 := by
 unfold Ju at h
 rw [hk] at h
 rw [if_neg (by decide), if_neg (by decide), if_neg (by decide), if_neg (by decide), if_neg (by decide), if_neg (by decide), if_pos (by decide)] at h
 obtain ⟨a, _, h⟩ := bnd h
 obtain ⟨b, _, h⟩ := bnd h
 split at h <;> cases h <;> simp
theorem cexpr_ok {env : List Bd} (he : env.length ≤ 100000) : ∀ (d n m : Nat) (x : M) (c : Ck), Ok d x → Jq m x = some true → d + 200000 ≤ n → ∃ r, JD n c x env = some r
 | d + 1, 0, m, x, c, _, _, hn => by omega
 | d + 1, n + 1, m, x, c, h, hv, hn => by
  obtain ⟨h1, h2, h3⟩ := h
  obtain ⟨m', k, rfl, hk, k2, k3, k4⟩ := expression_inv hv
  obtain ⟨r, hr, hl⟩ := cexpr_L0 (f := JD n) (env := env) x.Aa 0 [] c.line c.err (fun q hq c' => cexpr_ok he d n m' q c' (h3 q hq) (k4 q hq) (by omega)) (by simp <;> omega)
  rw [JD, chk_bind (by simp only [szMax]; omega), hr, Option.bind_some]
  cases r with
  | ret z => exact ⟨_, rfl⟩
  | go z =>
   have hz := hl z rfl
   simp only [List.length_nil, Nat.zero_add] at hz
   rw [el_go]
   refine ite_ex (fun _ => ⟨_, rfl⟩) fun _ => ?_
   refine ite_ex (fun _ => ⟨_, rfl⟩) fun _ => ?_
   refine ite_ex (fun _ => ⟨_, rfl⟩) fun _ => ?_
   refine ite_ex (fun _ => bind_ex (lookup_ok he (by omega)) fun _ _ => ite_ex (fun _ => bind_ex (fail_ok _ _ _) fun _ _ => ⟨_, rfl⟩) fun _ => ⟨_, rfl⟩) fun _ => ?_
   refine ite_ex (fun _ => bind_ex (call_ok _ _ _) fun _ _ => ⟨_, rfl⟩) fun _ => ?_
   refine bind_ex (operator_ok (by omega) fun h16 => ?_) fun _ _ => ite_ex (fun _ => bind_ex (fail_ok _ _ _) fun _ _ => ⟨_, rfl⟩) fun _ => ⟨_, rfl⟩
   rcases operands_16 h16 hk with rfl | rfl
   ·have := k3 (by omega); omega
   ·exact absurd rfl k2
theorem needs_ok (x : M) : ∃ t, JbK x = some t := by
 unfold JbK
 repeat (refine ite_ex (fun _ => ⟨_, rfl⟩) fun _ => ?_)
 exact ⟨_, rfl⟩
theorem declared_ok {env : List Bd} {s : Str} {n : Nat} (hl : env.length ≤ 100000) (hn : env.length + 1 ≤ n) : ∃ t, JaI n s env = some t := by
 unfold JaI
 exact bind_ex (lookup_ok hl hn) fun _ _ => ⟨_, rfl⟩
theorem extended_eq {env : List Bd} {s : Str} {t : Int} (hl : env.length ≤ 100000) : Jaa env s t = some (env ++ [⟨s, t⟩]) := by
 unfold Jaa
 rw [chk_bind (by constructor <;> omega), chk_bind (by simp only [lim]; omega), chk_bind (by simp only [lim, List.length_nil]; omega), chk_bind (by simp only [lim, List.length_append, List.length_cons, List.length_nil]; omega)]; rfl
theorem stated_inv {n : Nat} {x : M} (h : Jr n x = some true) : ∃ m, n = m + 1 ∧ (∀ c, x.Aa[0]? = some c → Jq m c = some true) ∧
  (x.Ab = 2 → 2 ≤ x.Aa.length ∧ ∀ c ∈ x.Aa.drop 1, (c.Ab = 12 ∧ ∀ k ∈ c.Aa, Jr m k = some true) ∨ (c.Ab ≠ 12 ∧ Jr m c = some true)) := by
 cases n with
 | zero => rw [Jr] at h; cases h
 | succ m =>
  have one : (if decide ((x.Aa.length : Int) = 1) then (ix x.Aa 0).bind fun x121 => (Jq m x121).bind fun x123 => some x123 else some false).bind (fun x124 => some x124) = some true → ∀ c, x.Aa[0]? = some c → Jq m c = some true := fun h c hc => by
   obtain ⟨b, hb, h⟩ := bnd h
   cases h
   split at hb
   ·have hx : ix x.Aa 0 = some c := by unfold ix; rw [if_pos (by omega)]; exact hc
    rw [hx, Option.bind_some] at hb
    obtain ⟨b2, hb2, hb⟩ := bnd hb
    cases hb; exact hb2
   ·cases hb
  have nil : (x.Aa.length : Int) = 0 → ∀ c, x.Aa[0]? = some c → Jq m c = some true := fun h c hc => by
   rw [List.getElem?_eq_none (by omega)] at hc; cases hc
  refine ⟨m, rfl, ?_⟩
  rw [Jr] at h
  by_cases k2 : x.Ab = 2
  ·rw [if_pos (by simpa using k2)] at h
   obtain ⟨a, ha, g⟩ := bnd h
   obtain ⟨b, hb, gg⟩ := bnd g
   cases b with
   | true => rw [if_pos rfl] at gg; cases gg
   | false =>
    rw [if_neg (by simp)] at gg
    cases a with
    | true => rw [if_pos rfl] at hb; cases hb
    | false =>
     cases q : ((decide (x.Ac ≠ ([] : Str)) || decide ((x.Aa.length : Int) < 2)) || decide ((x.Aa.length : Int) > 3)) with
     | true => rw [q, if_pos rfl] at ha; cases ha
     | false =>
      rw [q, if_neg (by simp)] at ha
      simp only [Bool.or_eq_false_iff, decide_eq_false_iff_not] at q
      rw [if_neg (by simp)] at hb
      obtain ⟨c0, hc0, ha⟩ := bnd ha
      obtain ⟨e0, he0, ha⟩ := bnd ha
      obtain ⟨c1, hc1, hb⟩ := bnd hb
      obtain ⟨e1, he1, hb⟩ := bnd hb
      have ha : e0 = true := by simpa using ha
      have hb : e1 = true := by simpa using hb
      subst ha; subst hb
      have g0 : x.Aa[0]? = some c0 := by unfold ix at hc0; rw [if_pos (by omega)] at hc0; exact hc0
      have g1 : x.Aa[1]? = some c1 := by unfold ix at hc1; rw [if_pos (by omega)] at hc1; exact hc1
      obtain ⟨i1, i2⟩ := blocked_inv he1
      refine ⟨fun c hc => by rw [g0] at hc; cases hc; exact he0, fun _ => ⟨by omega, fun c hc => ?_⟩⟩
      obtain ⟨i, hi⟩ := List.getElem?_of_mem hc
      rw [List.getElem?_drop] at hi
      have hil : 1 + i < x.Aa.length := (List.getElem?_eq_some_iff.1 hi).1
      by_cases z : i = 0
      ·subst z
       rw [g1] at hi; cases hi
       exact .inl ⟨i1, i2⟩
      ·have : i = 1 := by omega
       subst this
       have hx2 : ix x.Aa 2 = some c := by unfold ix; rw [if_pos (by omega)]; exact hi
       rw [if_neg (by simp <;> omega), hx2, Option.bind_some] at gg
       obtain ⟨e, he, g3⟩ := bnd gg
       obtain ⟨e', he', he2⟩ := bnd he
       cases he2
       cases e with
       | true => have := blocked_inv he'; exact .inl ⟨this.1, this.2⟩
       | false =>
        rw [if_neg (by simp), Option.bind_some] at g3
        obtain ⟨e2, he2, g4⟩ := bnd g3
        cases g4
        split at he2
        ·rename_i hk
         have hk := of_decide_eq_true hk
         rw [Option.bind_some] at he2
         obtain ⟨e3, he3, g5⟩ := bnd he2
         cases g5
         exact .inr ⟨by omega, he3⟩
        ·cases he2
  ·rw [if_neg (by simpa using k2)] at h
   refine ⟨?_, fun h2 => absurd h2 k2⟩
   by_cases q6 : x.Ab = 6
   ·rw [if_pos (by simpa using q6)] at h
    obtain ⟨_, _, g⟩ := bnd h
    exact nil (of_decide_eq_true (Bool.and_eq_true_iff.1 (Option.some.inj g)).2)
   rw [if_neg (by simpa using q6)] at h
   by_cases q10 : x.Ab = 10
   ·rw [if_pos (by simpa using q10)] at h
    exact nil (of_decide_eq_true (Bool.and_eq_true_iff.1 (Option.some.inj h)).2)
   rw [if_neg (by simpa using q10)] at h
   by_cases q11 : x.Ab = 11
   ·rw [if_pos (by simpa using q11)] at h
    exact nil (of_decide_eq_true (Bool.and_eq_true_iff.1 (Option.some.inj h)).2)
   rw [if_neg (by simpa using q11)] at h
   have fin : ∀ {b : Bool} {p : Option Bool}, (if b = true then some false else p) = some true → p = some true := fun {b p} h => by
    cases b with
    | true => rw [if_pos rfl] at h; cases h
    | false => rw [if_neg (by simp)] at h; exact h
   by_cases q3 : x.Ab = 3
   ·rw [if_pos (by simpa using q3)] at h
    obtain ⟨_, _, g⟩ := bnd h
    exact one (fin g)
   rw [if_neg (by simpa using q3)] at h
   by_cases q4 : x.Ab = 4
   ·rw [if_pos (by simpa using q4)] at h; exact one (fin h)
   rw [if_neg (by simpa using q4)] at h
   by_cases q5 : x.Ab = 5
   ·rw [if_pos (by simpa using q5)] at h
    obtain ⟨_, _, g⟩ := bnd h
    exact one (fin g)
   rw [if_neg (by simpa using q5)] at h
   by_cases q7 : x.Ab = 7
   ·rw [if_pos (by simpa using q7)] at h; exact one (fin h)
   rw [if_neg (by simpa using q7)] at h
   by_cases q8 : x.Ab = 8
   ·rw [if_pos (by simpa using q8)] at h; exact one (fin h)
   rw [if_neg (by simpa using q8)] at h
   by_cases q9 : x.Ab = 9
   ·rw [if_pos (by simpa using q9)] at h; exact one (fin h)
   rw [if_neg (by simpa using q9)] at h
   cases h
def Gd (d : Nat) (x : M) : Prop := Ok d x ∧ ∃ m, Jr m x = some true
theorem branch_ok {d : Nat} {k : M} (h : Ok d k) (hv : (k.Ab = 12 ∧ ∀ q ∈ k.Aa, ∃ m, Jr m q = some true) ∨ (k.Ab ≠ 12 ∧ ∃ m, Jr m k = some true)) :
  ∃ l, JaB k = some l ∧ l.length ≤ 700 ∧ ∀ x ∈ l, Gd d x := by
 unfold JaB
 rcases hv with ⟨h1, h2⟩ | ⟨h1, h2⟩
 ·refine ⟨_, if_pos (by simpa using h1), ?_, ?_⟩
  ·cases d with
   | zero => exact h.elim
   | succ d => exact h.2.1
  ·cases d with
   | zero => exact h.elim
   | succ d => exact fun x hx => ⟨(h.2.2 x hx).succ, h2 x hx⟩
 ·refine ⟨_, if_neg (by simpa using h1), by simp, fun x hx => ?_⟩
  simp at hx; subst hx
  exact ⟨h, h2⟩
theorem block_L3 {f : Ck → List M → List Bd → Option Ck} {env : List Bd} : ∀ (l : List M) (i : Nat) (a : Int) (e : Err), (∀ k ∈ l, ∃ q, JaB k = some q ∧ ∀ c, ∃ r, f c q env = some r) → ∃ r, Jy f env l i a e = some r
 | [], i, a, e, _ => ⟨_, rfl⟩
 | k :: l, i, a, e, h => by
  obtain ⟨q, hq, hr⟩ := h k (by simp)
  rw [Jy, hq, Option.bind_some]
  exact bind_ex (hr _) fun _ _ => block_L3 l (i + 1) _ _ fun k hk => h k (by simp [hk])
set_option maxRecDepth 100000 in
theorem block_L0 {n d : Nat} {f : Ck → List M → List Bd → Option Ck} (hn : d + 200000 ≤ n) (hf : ∀ (l : List M) (env : List Bd) (c : Ck), (∀ x ∈ l, Gd d x) → l.length ≤ 700 → env.length + 701 * (d + 1) ≤ 90000 → ∃ r, f c l env = some r) :
  ∀ (l : List M) (i : Nat) (env : List Bd) (a : Int) (e : Err), (∀ x ∈ l, Gd (d + 1) x) → env.length + l.length + 701 * (d + 1) ≤ 90000 → ∃ r, Jp n f l i env a e = some r
 | [], i, env, a, e, _, _ => ⟨_, rfl⟩
 | x :: l, i, env, a, e, h, hl => by
  simp only [List.length_cons] at hl
  have ih : ∀ (env' : List Bd) (a' : Int) (e' : Err), env'.length ≤ env.length + 1 → ∃ r, Jp n f l (i + 1) env' a' e' = some r := fun env' a' e' he => block_L0 hn hf l (i + 1) env' a' e' (fun y hy => h y (by simp [hy])) (by omega)
  obtain ⟨⟨h1, h2, h3⟩, m0, hm⟩ := h x (by simp)
  obtain ⟨m, rfl, k0, k2⟩ := stated_inv hm
  rw [Jp]
  refine ite_ex (fun _ => ih _ _ _ (by omega)) fun hk => ?_
  have hk := of_decide_eq_false hk
  have hg0 : x.Aa[0]? = some (x.Aa[0]'(by omega)) := List.getElem?_eq_getElem (by omega)
  have hi0 : ix x.Aa 0 = some (x.Aa[0]'(by omega)) := by unfold ix; rw [if_pos (by omega)]; exact hg0
  rw [hi0, Option.bind_some]
  have tl : ∀ c1 : Ck, ∀ t : Int, ∃ r, (if decide (x.Ab = 3) then
    (JaI n x.Ac env).bind fun x61 =>
    if x61 then
    (JH c1 x (some 4)).bind fun x65 =>
    (Jaa env x.Ac t).bind fun x70 =>
    if x65.err.isSome then
    some (Fl.ret x65)
    else
    Jp n f l (i + 1) x70 x65.line x65.err
    else
    (Jaa env x.Ac t).bind fun x70 =>
    if c1.err.isSome then
    some (Fl.ret c1)
    else
    Jp n f l (i + 1) x70 c1.line c1.err
    else
    if decide (x.Ab = 2) then
    (chk (0 ≤ (1 : Int) ∧ (1 : Int) ≤ (x.Aa.length : Int) ∧ (x.Aa.length : Int) ≤ (x.Aa.length : Int))).bind fun _ =>
    (chk ((subL x.Aa (1 : Int) (x.Aa.length : Int)).length ≤ szMax)).bind fun _ =>
    (Jy f env (subL x.Aa (1 : Int) (x.Aa.length : Int)) 0 c1.line c1.err).bind fun t3 =>
    if t3.2.isSome then
    some (Fl.ret (⟨t3.1, t3.2⟩ : Ck))
    else
    Jp n f l (i + 1) env t3.1 t3.2
    else
    if c1.err.isSome then
    some (Fl.ret c1)
    else
    Jp n f l (i + 1) env c1.line c1.err : Option (Fl Ck (List Bd × Int × Err))) = some r := fun c1 t => by
   refine ite_ex (fun _ => ?_) fun _ => ?_
   ·refine bind_ex (declared_ok (by omega) (by omega)) fun _ _ => ite_ex (fun _ => ?_) fun _ => ?_
    ·refine bind_ex (fail_ok _ _ _) fun _ _ => ?_
     rw [extended_eq (by omega), Option.bind_some]
     exact ite_ex (fun _ => ⟨_, rfl⟩) fun _ => ih _ _ _ (by simp)
    ·rw [extended_eq (by omega), Option.bind_some]
     exact ite_ex (fun _ => ⟨_, rfl⟩) fun _ => ih _ _ _ (by simp)
   ·refine ite_ex (fun hk2 => ?_) fun _ => ite_ex (fun _ => ⟨_, rfl⟩) fun _ => ih _ _ _ (by omega)
    obtain ⟨g1, g2⟩ := k2 (of_decide_eq_true hk2)
    have hsub : subL x.Aa (1 : Int) (x.Aa.length : Int) = x.Aa.drop 1 := by
     unfold subL
     rw [show ((1 : Int)).toNat = 1 from rfl]
     exact List.take_of_length_le (by rw [List.length_drop]; omega)
    rw [chk_bind (by omega), hsub, chk_bind (by rw [List.length_drop]; simp only [szMax]; omega)]
    refine bind_ex (block_L3 _ 0 _ _ fun k hk => ?_) fun _ _ => ite_ex (fun _ => ⟨_, rfl⟩) fun _ => ih _ _ _ (by omega)
    have hkm : k ∈ x.Aa := List.mem_of_mem_drop hk
    obtain ⟨q, hq, ql, qg⟩ := branch_ok (h3 k hkm) (by
     rcases g2 k hk with ⟨a1, a2⟩ | ⟨a1, a2⟩
     ·exact .inl ⟨a1, fun q hq => ⟨m, a2 q hq⟩⟩
     ·exact .inr ⟨a1, m, a2⟩)
    exact ⟨q, hq, fun c => hf q env c qg ql (by omega)⟩
  refine bind_ex (cexpr_ok (env := env) (by omega) d n m _ _ (h3 _ (List.getElem_mem _)) (k0 _ hg0) (by omega)) fun t ht => ?_
  refine bind_ex (needs_ok x) fun nd _ => ?_
  refine ite_ex (fun _ => ?_) fun _ => ?_
  ·refine bind_ex (fail_ok _ _ _) fun c1 _ => ?_
   exact ite_ex (fun _ => ⟨_, rfl⟩) fun _ => tl c1 t.1
  ·exact ite_ex (fun _ => ⟨_, rfl⟩) fun _ => tl t.2 t.1
set_option maxRecDepth 100000 in
theorem block_ok : ∀ (d n : Nat) (l : List M) (env : List Bd) (c : Ck), (∀ x ∈ l, Gd d x) → l.length ≤ 700 → env.length + 701 * (d + 1) ≤ 90000 → d + 300000 ≤ n → ∃ r, Jx n c l env = some r
 | d, 0, l, env, c, _, _, _, hn => by omega
 | 0, n + 1, l, env, c, h, hl, he, hn => by
  have : l = [] := by
   cases l with
   | nil => rfl
   | cons x l => exact (h x (by simp)).1.elim
  subst this
  rw [Jx, chk_bind (by simp [szMax])]
  exact ⟨_, rfl⟩
 | d + 1, n + 1, l, env, c, h, hl, he, hn => by
  obtain ⟨r, hr⟩ := block_L0 (n := n) (d := d) (f := Jx n) (by omega) (fun l' env' c' h1 h2 h3 => block_ok d n l' env' c' h1 h2 h3 (by omega)) l 0 env c.line c.err h (by omega)
  rw [Jx, chk_bind (by simp only [szMax]; omega), hr, Option.bind_some]
  cases r <;> exact ⟨_, rfl⟩
inductive A2 {α β : Type} (P : α → β → Prop) : List α → List β → Prop
 | nil : A2 P [] []
 | cons {a : α} {b : β} {l : List α} {k : List β} : P a b → A2 P l k → A2 P (a :: l) (b :: k)
theorem A2.len {α β : Type} {P : α → β → Prop} {l : List α} {k : List β} (h : A2 P l k) : k.length = l.length := by
 induction h with
 | nil => rfl
 | cons _ _ ih => simp [ih]
theorem A2.mem {α β : Type} {P : α → β → Prop} {l : List α} {k : List β} (h : A2 P l k) : ∀ b ∈ k, ∃ a ∈ l, P a b := by
 induction h with
 | nil => intro b hb; cases hb
 | cons hp _ ih =>
  intro b hb
  rcases List.mem_cons.1 hb with rfl | hb
  ·exact ⟨_, by simp, hp⟩
  ·obtain ⟨a, ha, q⟩ := ih b hb; exact ⟨a, by simp [ha], q⟩
def OkN : Nat → N → Prop
 | 0, _ => False
 | d + 1, x => x.Ac.length ≤ 3000 ∧ x.Aa.length ≤ 700 ∧ ∀ k ∈ x.Aa, OkN d k
theorem weigh_L0 {f : N → Int → Option Int} {e B : Int} (he : -100 ≤ e ∧ e ≤ 100) (hB : 0 ≤ B ∧ B ≤ 1000000) {P : N → Prop} : ∀ (l : List N) (i : Nat) (y : Int), 1 ≤ y → y ≤ 700 → (∀ k ∈ l, ∃ v, f k (e - 1) = some v ∧ 1 ≤ v ∧ v ≤ B ∧ (v ≤ 700 → P k)) →
  ∃ r, JaZ e f l i y = some r ∧ (∀ z, r = Fl.go z → z ≤ 700 ∧ y + l.length ≤ z ∧ ∀ k ∈ l, P k) ∧ ∀ z, r = Fl.ret z → 700 < z ∧ z ≤ 700 + B
 | [], i, y, h1, h2, _ => ⟨_, rfl, fun z e => by cases e; exact ⟨h2, by simp, fun k hk => by cases hk⟩, fun z e => by cases e⟩
 | k :: l, i, y, h1, h2, h => by
  obtain ⟨v, hv, v1, v2, v3⟩ := h k (by simp)
  rw [JaZ, chk_bind (by constructor <;> omega), hv, Option.bind_some, chk_bind (by constructor <;> omega)]
  by_cases q : y + v > 700
  ·exact ⟨_, if_pos (by simpa using q), fun z e => (by cases e), fun z e => by cases e; omega⟩
  ·rw [if_neg (by simpa using q)]
   obtain ⟨r, hr, g1, g2⟩ := weigh_L0 he hB (P := P) l (i + 1) (y + v) (by omega) (by omega) fun k hk => h k (by simp [hk])
   refine ⟨r, hr, fun z hz => ?_, g2⟩
   obtain ⟨a1, a2, a3⟩ := g1 z hz
   refine ⟨a1, by rw [List.length_cons]; omega, fun q hq => ?_⟩
   rcases List.mem_cons.1 hq with rfl | hq
   ·exact v3 (by omega)
   ·exact a3 q hq
theorem weigh_ok : ∀ (e n : Nat) (x : N), Jb.ok x → e + 1 ≤ n → e ≤ 40 → ∃ v, JaL n x (e : Int) = some v ∧ 1 ≤ v ∧ v ≤ 1000 + 700 * e ∧ (v ≤ 700 → OkN e x)
 | e, 0, x, _, hn, _ => by omega
 | 0, n + 1, x, h, hn, he => by
  rw [JaL, if_pos (by simp)]
  exact ⟨_, rfl, by omega, by omega, fun h => by omega⟩
 | e + 1, n + 1, x, h, hn, he => by
  obtain ⟨k0, k1, l2, k2, k3⟩ := h
  rw [JaL]
  by_cases q : x.Ac.length > 3000
  ·rw [if_pos (by simp; omega)]
   exact ⟨_, rfl, by omega, by omega, fun h => by omega⟩
  ·rw [if_neg (by simp; omega), chk_bind l2]
   obtain ⟨r, hr, g1, g2⟩ := weigh_L0 (f := JaL n) (e := ((e + 1 : Nat) : Int)) (B := 1000 + 700 * e) (by omega) (by omega) (P := fun k => OkN e k) x.Aa 0 1 (by omega) (by omega) fun k hk => by
    have := weigh_ok e n k (k2 k hk) (by omega) (by omega)
    rw [show (((e + 1 : Nat) : Int) - 1) = (e : Int) from by omega]
    exact this
   rw [hr, Option.bind_some]
   cases r with
   | ret z =>
    obtain ⟨a1, a2⟩ := g2 z rfl
    exact ⟨z, rfl, by omega, by omega, fun h => by omega⟩
   | go z =>
    obtain ⟨a1, a2, a3⟩ := g1 z rfl
    exact ⟨z, rfl, by omega, by omega, fun _ => ⟨by omega, by omega, a3⟩⟩
theorem Large_ok {n : Nat} {x : N} (h : Jb.ok x) (hn : 41 ≤ n) : JbY n x = some true ∨ (JbY n x = some false ∧ OkN 40 x) := by
 obtain ⟨v, hv, _, _, h2⟩ := weigh_ok 40 n x h hn (by omega)
 unfold JbY
 rw [show ((40 : Nat) : Int) = 40 from rfl] at hv
 rw [hv, Option.bind_some]
 by_cases q : v > 700
 ·left; simp [q]
 ·right; exact ⟨by simp [q], h2 (by omega)⟩
def Cvd : Nat → N → M → Prop
 | 0, _, _ => False
 | d + 1, x, y => y.Ab = x.Ab ∧ y.Ac = x.Ac ∧ y.Ad = x.Ad ∧ A2 (Cvd d) x.Aa y.Aa
def Mvd (b : Int) : Nat → N → N → Prop
 | 0, _, _ => False
 | d + 1, x, y => y.Ab = x.Ab ∧ y.Ac = x.Ac ∧ y.Ad = IntKind.i64.wrap (x.Ad + b) ∧ A2 (Mvd b d) x.Aa y.Aa
theorem Of_L0 {f : N → Option M} {P : N → M → Prop} : ∀ (l : List N) (i : Nat) (y : List M), (∀ k ∈ l, ∃ z, f k = some z ∧ P k z) → y.length + l.length ≤ 10000 → ∃ ys, Jca f l i y = some (y ++ ys) ∧ A2 P l ys
 | [], i, y, _, _ => ⟨[], by simp [Jca], .nil⟩
 | k :: l, i, y, h, hl => by
  simp only [List.length_cons] at hl
  obtain ⟨z, hz, hp⟩ := h k (by simp)
  obtain ⟨ys, e, ha⟩ := Of_L0 (P := P) l (i + 1) (y ++ [z]) (fun k hk => h k (by simp [hk])) (by simp only [List.length_append, List.length_cons, List.length_nil]; omega)
  rw [Jca, hz, Option.bind_some, chk_bind (by simp only [lim, List.length_cons, List.length_nil]; omega), e]
  exact ⟨z :: ys, by simp, .cons hp ha⟩
theorem Of_ok : ∀ (d n : Nat) (x : N), OkN d x → d + 1 ≤ n → ∃ y, Jb6 n x = some y ∧ Cvd d x y
 | d + 1, 0, x, _, hn => by omega
 | d + 1, n + 1, x, h, hn => by
  obtain ⟨h1, h2, h3⟩ := h
  obtain ⟨ys, e, ha⟩ := Of_L0 (f := Jb6 n) (P := Cvd d) x.Aa 0 [] (fun k hk => Of_ok d n k (h3 k hk) (by omega)) (by simp <;> omega)
  rw [Jb6, chk_bind (by simp only [szMax]; omega), e, Option.bind_some]
  exact ⟨_, rfl, rfl, rfl, rfl, ha⟩
theorem Cvd.ok : ∀ {d : Nat} {x : N} {y : M}, OkN d x → Cvd d x y → Ok d y
 | d + 1, x, y, h, hc => by
  obtain ⟨h1, h2, h3⟩ := h
  obtain ⟨c1, c2, c3, c4⟩ := hc
  refine ⟨by rw [c2]; exact h1, by rw [c4.len]; exact h2, fun k hk => ?_⟩
  obtain ⟨a, ha, q⟩ := c4.mem k hk
  exact Cvd.ok (h3 a ha) q
theorem Mvd.ok {b : Int} : ∀ {d : Nat} {x y : N}, OkN d x → Mvd b d x y → OkN d y
 | d + 1, x, y, h, hc => by
  obtain ⟨h1, h2, h3⟩ := h
  obtain ⟨c1, c2, c3, c4⟩ := hc
  refine ⟨by rw [c2]; exact h1, by rw [c4.len]; exact h2, fun k hk => ?_⟩
  obtain ⟨a, ha, q⟩ := c4.mem k hk
  exact Mvd.ok (h3 a ha) q
def cnt : Nat → M → Nat
 | 0, _ => 0
 | d + 1, x => 1 + (x.Aa.map (cnt d)).sum
def cntL (d : Nat) (l : List M) : Nat := (l.map (cnt d)).sum
theorem cntL_cons (d : Nat) (x : M) (l : List M) : cntL d (x :: l) = cnt d x + cntL d l := by simp [cntL]
theorem cnt_eq (d : Nat) (x : M) : cnt (d + 1) x = 1 + cntL d x.Aa := rfl
theorem cnt_mem {d : Nat} : ∀ {l : List M} {x : M}, x ∈ l → cnt d x ≤ cntL d l
 | a :: l, x, h => by
  rw [cntL_cons]
  rcases List.mem_cons.1 h with rfl | h
  ·omega
  ·have := cnt_mem (d := d) h; omega
theorem cnt_succ : ∀ {d : Nat} {x : M}, Ok d x → cnt (d + 1) x = cnt d x
 | d + 1, x, h => by
  rw [cnt_eq, cnt_eq]
  have : ∀ l : List M, (∀ k ∈ l, Ok d k) → cntL (d + 1) l = cntL d l := by
   intro l
   induction l with
   | nil => intro _; rfl
   | cons a l ih =>
    intro hl
    rw [cntL_cons, cntL_cons, ih fun k hk => hl k (by simp [hk]), cnt_succ (hl a (by simp))]
  rw [this x.Aa h.2.2]
def pre (s : Str) : Bool := ((decide (s = ([109, 101, 116, 104, 111, 100] : Str)) || decide (s = ([104, 111, 115, 116] : Str))) || decide (s = ([112, 97, 116, 104] : Str))) || decide (s = ([113, 117, 101, 114, 121] : Str))
def lk (s : Str) (env : List Bd) : Int := match env.reverse.find? (fun b => decide (b.Name = s)) with
 | some b => b.As
 | none => if pre s then 1 else 0
theorem lk_snoc (s : Str) (env : List Bd) (b : Bd) : lk s (env ++ [b]) = if b.Name = s then b.As else lk s env := by
 unfold lk
 rw [List.reverse_append]
 simp only [List.reverse_cons, List.reverse_nil, List.nil_append, List.cons_append, List.find?_cons]
 by_cases h : b.Name = s <;> simp [h]
theorem lookup_L0_eq {env : List Bd} {s : Str} (hl : env.length ≤ 100000) : ∀ (j n : Nat), j ≤ env.length → j + 1 ≤ n →
  Jac env s n ((j : Int) - 1) = some (match (env.take j).reverse.find? (fun b => decide (b.Name = s)) with | some b => Fl.ret b.As | none => Fl.go (-1))
 | 0, n + 1, _, _ => by
  rw [Jac, if_neg (by simp)]; simp
 | j + 1, n + 1, h, hn => by
  have hj : j < env.length := by omega
  have e : ((j + 1 : Nat) : Int) - 1 = (j : Int) := by omega
  have hix : ix env (j : Int) = some env[j] := by unfold ix; rw [if_pos (by omega)]; simp [hj]
  have ht : (env.take (j + 1)).reverse = env[j] :: (env.take j).reverse := by
   rw [List.take_succ_eq_append_getElem hj, List.reverse_append]; rfl
  rw [e, Jac, if_pos (by simp), hix, Option.bind_some, Option.bind_some, ht, List.find?_cons]
  by_cases q : env[j].Name = s
  ·rw [if_pos (by simpa using q)]; simp [q]
  ·rw [if_neg (by simpa using q), chk_bind (by constructor <;> omega), lookup_L0_eq hl j n (by omega) (by omega)]
   simp [q]
 | 0, 0, _, h => by omega
 | j + 1, 0, _, h => by omega
theorem lookup_eq {env : List Bd} {s : Str} {n : Nat} (hl : env.length ≤ 100000) (hn : env.length + 1 ≤ n) : JaP n s env = some (lk s env) := by
 unfold JaP
 rw [chk_bind (by constructor <;> omega), lookup_L0_eq hl env.length n (by omega) hn, Option.bind_some, List.take_length]
 unfold lk
 cases env.reverse.find? (fun b => decide (b.Name = s)) with
 | some b => rfl
 | none =>
  rw [el_go]
  show (if pre s = true then some (1 : Int) else some 0) = some (if pre s = true then 1 else 0)
  split <;> rfl
def Ev (e e' : List Bd) : Prop := ∀ s, lk s e ≠ 0 → lk s e' = lk s e
theorem Ev.trans {a b c : List Bd} (h : Ev a b) (k : Ev b c) : Ev a c := fun s hs => by
 have h1 := h s hs
 rw [k s (by rw [h1]; exact hs), h1]
theorem Ev.ext {e : List Bd} {s : Str} {t : Int} (h : lk s e = 0) : Ev e (e ++ [⟨s, t⟩]) := fun q hq => by
 rw [lk_snoc]
 have : s ≠ q := fun e1 => hq (e1 ▸ h)
 rw [if_neg this]
def cntN : Nat → N → Nat
 | 0, _ => 0
 | d + 1, x => 1 + (x.Aa.map (cntN d)).sum
def cntNL (d : Nat) (l : List N) : Nat := (l.map (cntN d)).sum
theorem cntNL_cons (d : Nat) (x : N) (l : List N) : cntNL d (x :: l) = cntN d x + cntNL d l := by simp [cntNL]
theorem cntN_eq (d : Nat) (x : N) : cntN (d + 1) x = 1 + cntNL d x.Aa := rfl
theorem weigh_L0_cnt {f : N → Int → Option Int} {e : Int} {d : Nat} : ∀ (l : List N) (i : Nat) (y : Int) (r : Fl Int Int), 1 ≤ y → (∀ k ∈ l, ∀ v, f k (e - 1) = some v → v ≤ 700 → (cntN d k : Int) ≤ v) → JaZ e f l i y = some r →
  (∀ z, r = Fl.go z → y + (cntNL d l : Int) ≤ z) ∧ ∀ z, r = Fl.ret z → 700 < z
 | [], i, y, r, _, _, h => by cases h; exact ⟨fun z e => by cases e; simp [cntNL], fun z e => by cases e⟩
 | k :: l, i, y, r, hy, hf, h => by
  rw [JaZ] at h
  obtain ⟨_, h1⟩ := chkb h
  obtain ⟨v, hv, h2⟩ := bnd h1
  obtain ⟨_, h3⟩ := chkb h2
  by_cases q : y + v > 700
  ·rw [if_pos (by simpa using q)] at h3
   cases h3
   exact ⟨fun z e => (by cases e), fun z e => by cases e; exact q⟩
  ·rw [if_neg (by simpa using q)] at h3
   have hc := hf k (by simp) v hv (by omega)
   obtain ⟨g1, g2⟩ := weigh_L0_cnt l (i + 1) (y + v) r (by omega) (fun k hk => hf k (by simp [hk])) h3
   refine ⟨fun z e => ?_, g2⟩
   have := g1 z e
   rw [cntNL_cons]; omega
theorem weigh_cnt : ∀ (e n : Nat) (x : N) (v : Int), JaL n x (e : Int) = some v → v ≤ 700 → (cntN e x : Int) ≤ v
 | _, 0, x, v, h, _ => by rw [JaL] at h; cases h
 | 0, n + 1, x, v, h, hv => by
  rw [JaL, if_pos (by simp)] at h
  cases h; omega
 | e + 1, n + 1, x, v, h, hv => by
  rw [JaL] at h
  split at h
  ·cases h; omega
  ·obtain ⟨_, h1⟩ := chkb h
   obtain ⟨r, hr, h2⟩ := bnd h1
   obtain ⟨g1, g2⟩ := weigh_L0_cnt (d := e) x.Aa 0 1 r (by omega) (fun k hk v hv hv2 => by
    rw [show (((e + 1 : Nat) : Int) - 1) = (e : Int) from by omega] at hv
    exact weigh_cnt e n k v hv hv2) hr
   cases r with
   | ret z => rw [el_ret] at h2; cases h2; have := g2 _ rfl; omega
   | go z => rw [el_go] at h2; cases h2; have := g1 _ rfl; rw [cntN_eq]; omega
theorem Large_cnt {n : Nat} {x : N} (h : JbY n x = some false) : cntN 40 x ≤ 700 := by
 unfold JbY at h
 obtain ⟨v, hv, h1⟩ := bnd h
 simp only [Option.some.injEq, decide_eq_false_iff_not] at h1
 have := weigh_cnt 40 n x v hv (by omega)
 omega
theorem Cvd.cnt : ∀ {d : Nat} {x : N} {y : M}, Cvd d x y → Rt.cnt d y = cntN d x
 | d + 1, x, y, ⟨_, _, _, h⟩ => by
  rw [cnt_eq, cntN_eq]
  have : ∀ {l : List N} {k : List M}, A2 (Cvd d) l k → cntL d k = cntNL d l := by
   intro l k h
   induction h with
   | nil => rfl
   | cons hp _ ih => rw [cntL_cons, cntNL_cons, ih, hp.cnt]
  rw [this h]
theorem Cvd.func : ∀ {d : Nat} {x : N} {y z : M}, Cvd d x y → Cvd d x z → y = z
 | d + 1, x, y, z, ⟨a1, a2, a3, a4⟩, ⟨b1, b2, b3, b4⟩ => by
  have : ∀ {l : List N} {k k' : List M}, A2 (Cvd d) l k → A2 (Cvd d) l k' → k = k' := by
   intro l k k' h
   induction h generalizing k' with
   | nil => intro h'; cases h'; rfl
   | cons hp _ ih =>
    intro h'
    cases h' with
    | cons hq ht => rw [hp.func hq, ih ht]
  have e := this a4 b4
  cases y; cases z
  simp only at a1 a2 a3 b1 b2 b3 e
  rw [a1, a2, a3, b1, b2, b3, e]
def isL (c : UInt8) : Bool := (decide ((c.toNat : Int) ≥ 97) && decide ((c.toNat : Int) ≤ 122)) || decide ((c.toNat : Int) = 95)
def isD (c : UInt8) : Bool := decide ((c.toNat : Int) ≥ 48) && decide ((c.toNat : Int) ≤ 57)
def isA (c : UInt8) : Bool := isL c || isD c
def tw (p : UInt8 → Bool) (s : Str) (i : Nat) : Int := ((i + ((s.drop i).takeWhile p).length : Nat) : Int)
theorem tw_stop {p : UInt8 → Bool} {s : Str} {i : Nat} (h : s.length ≤ i) : tw p s i = i := by
 unfold tw; rw [List.drop_eq_nil_of_le h]; rfl
theorem tw_go {p : UInt8 → Bool} {s : Str} {i : Nat} (h : i < s.length) (hp : p s[i] = true) : tw p s i = tw p s (i + 1) := by
 unfold tw; rw [List.drop_eq_getElem_cons h, List.takeWhile_cons, if_pos hp, List.length_cons]; omega
theorem tw_no {p : UInt8 → Bool} {s : Str} {i : Nat} (h : i < s.length) (hp : p s[i] = false) : tw p s i = i := by
 unfold tw; rw [List.drop_eq_getElem_cons h, List.takeWhile_cons, if_neg (by rw [hp]; simp)]; rfl
theorem ixn {α : Type} {s : List α} {i : Nat} (h : i < s.length) : ix s (i : Int) = some s[i] := by
 unfold ix; rw [if_pos (by omega)]; exact List.getElem?_eq_getElem h
theorem tokL1 {s : Str} (hs : s.length ≤ 5000) : ∀ (n i : Nat), i ≤ s.length → s.length - i < n → JaD s n (i : Int) = some (tw isA s i)
 | 0, i, h1, h2 => by omega
 | n + 1, i, h1, h2 => by
  rw [JaD]
  by_cases hi : i < s.length
  ·rw [if_pos (by simpa using hi), ixn hi, Option.bind_some, show Ja0 s[i] = some (isL s[i]) from rfl, Option.bind_some]
   have e : (if isL s[i] = true then some true else (some s[i]).bind fun x28 => (JaO x28).bind fun x29 => some x29) = some (isA s[i]) := by
    unfold isA
    cases q : isL s[i] <;> simp [q, JaO, isD]
   rw [e, Option.bind_some]
   cases q : isA s[i] with
   | true =>
    rw [if_pos rfl, chk_bind (by constructor <;> omega), tw_go hi q, show ((i : Int) + 1) = ((i + 1 : Nat) : Int) from by omega]
    exact tokL1 hs n (i + 1) (by omega) (by omega)
   | false => rw [if_neg (by simp), tw_no hi q]
  ·rw [if_neg (by simpa using hi), tw_stop (by omega)]
theorem takL1 {s : Str} (hs : s.length ≤ 5000) : ∀ (n i : Nat), i ≤ s.length → s.length - i < n → JbC s n (i : Int) = some (tw isA s i)
 | 0, i, h1, h2 => by omega
 | n + 1, i, h1, h2 => by
  rw [JbC]
  by_cases hi : i < s.length
  ·rw [if_pos (by simpa using hi), ixn hi, Option.bind_some, show JbU s[i] = some (isL s[i]) from rfl, Option.bind_some]
   have e : (if isL s[i] = true then some true else (some s[i]).bind fun x28 => (JbM x28).bind fun x29 => some x29) = some (isA s[i]) := by
    unfold isA
    cases q : isL s[i] <;> simp [q, JbM, isD]
   rw [e, Option.bind_some]
   cases q : isA s[i] with
   | true =>
    rw [if_pos rfl, chk_bind (by constructor <;> omega), tw_go hi q, show ((i : Int) + 1) = ((i + 1 : Nat) : Int) from by omega]
    exact takL1 hs n (i + 1) (by omega) (by omega)
   | false => rw [if_neg (by simp), tw_no hi q]
  ·rw [if_neg (by simpa using hi), tw_stop (by omega)]
theorem takL3 {s : Str} (hs : s.length ≤ 5000) : ∀ (n i : Nat), i ≤ s.length → s.length - i < n → JbD s n (i : Int) = some (tw isD s i)
 | 0, i, h1, h2 => by omega
 | n + 1, i, h1, h2 => by
  rw [JbD]
  by_cases hi : i < s.length
  ·rw [if_pos (by simpa using hi), ixn hi, Option.bind_some, show JbM s[i] = some (isD s[i]) from rfl, Option.bind_some, Option.bind_some]
   cases q : isD s[i] with
   | true =>
    rw [if_pos rfl, chk_bind (by constructor <;> omega), tw_go hi q, show ((i : Int) + 1) = ((i + 1 : Nat) : Int) from by omega]
    exact takL3 hs n (i + 1) (by omega) (by omega)
   | false => rw [if_neg (by simp), tw_no hi q]
  ·rw [if_neg (by simpa using hi), Option.bind_some, if_neg (by simp), tw_stop (by omega)]
theorem take_tw (p : UInt8 → Bool) : ∀ t : Str, t.take (t.takeWhile p).length = t.takeWhile p
 | [] => rfl
 | c :: t => by
  rw [List.takeWhile_cons]
  cases q : p c with
  | true => rw [if_pos rfl, List.length_cons, List.take_succ_cons, take_tw p t]
  | false => rw [if_neg (by simp)]; rfl
theorem tw_le (p : UInt8 → Bool) : ∀ t : Str, (t.takeWhile p).length ≤ t.length
 | [] => by simp
 | c :: t => by
  rw [List.takeWhile_cons]
  have := tw_le p t
  cases q : p c <;> simp <;> omega
theorem tw_all (p : UInt8 → Bool) : ∀ t : Str, (t.takeWhile p).all p = true
 | [] => rfl
 | c :: t => by
  rw [List.takeWhile_cons]
  cases q : p c with
  | true => rw [if_pos rfl, List.all_cons, q, tw_all p t]; rfl
  | false => rw [if_neg (by simp)]; rfl
theorem tw_self (p : UInt8 → Bool) : ∀ t : Str, t.all p = true → t.takeWhile p = t
 | [], _ => rfl
 | c :: t, h => by
  rw [List.all_cons, Bool.and_eq_true] at h
  rw [List.takeWhile_cons, if_pos h.1, tw_self p t h.2]
theorem tw1 (p : UInt8 → Bool) (c : UInt8) (t : Str) : tw p (c :: t) 1 = ((t.takeWhile p).length : Int) + 1 := by
 unfold tw; rw [List.drop_succ_cons, List.drop_zero]; omega
theorem tw0 {p : UInt8 → Bool} {c : UInt8} (t : Str) (h : p c = true) : tw p (c :: t) 0 = ((t.takeWhile p).length : Int) + 1 := by
 rw [tw_go (by simp) (by simpa using h)]; exact tw1 p c t
theorem sub_tw (p : UInt8 → Bool) (c : UInt8) (t : Str) : subL (c :: t) (0 : Int) (((t.takeWhile p).length : Int) + 1) = c :: t.takeWhile p := by
 unfold subL
 rw [show ((((t.takeWhile p).length : Int) + 1) - 0).toNat = (t.takeWhile p).length + 1 from by omega, show ((0 : Int)).toNat = 0 from rfl, List.drop_zero, List.take_succ_cons, take_tw]
theorem isA_of_L {c : UInt8} (h : isL c = true) : isA c = true := by simp [isA, h]
theorem tok_word {n : Nat} {c : UInt8} {t : Str} (hn : 10000 ≤ n) (hs : (c :: t).length ≤ 5000) (hc : isL c = true) : Jbf n (c :: t) = some (1, ((t.takeWhile isA).length : Int) + 1, c :: t.takeWhile isA) := by
 have := tw_le isA t
 simp only [List.length_cons] at hs
 unfold Jbf
 rw [show ix (c :: t) 0 = some c from rfl, Option.bind_some, show Ja0 c = some (isL c) from rfl, Option.bind_some, hc, if_pos rfl, show (1 : Int) = ((1 : Nat) : Int) from rfl, tokL1 (by simp; omega) n 1 (by simp) (by simp; omega), Option.bind_some, tw1, chk_bind (by simp only [List.length_cons]; omega), sub_tw]
 rfl
theorem tak_word {n : Nat} {c : UInt8} {t : Str} (hn : 10000 ≤ n) (hs : (c :: t).length ≤ 5000) (hc : isL c = true) : Jb4 n (c :: t) = some (1, c :: t.takeWhile isA, ((t.takeWhile isA).length : Int) + 1) := by
 have := tw_le isA t
 simp only [List.length_cons] at hs
 unfold Jb4
 rw [show ix (c :: t) 0 = some c from rfl, Option.bind_some, show JbU c = some (isL c) from rfl, Option.bind_some, hc, if_pos rfl, show JbC (c :: t) n 0 = some (tw isA (c :: t) 0) from takL1 (by simp; omega) n 0 (by simp) (by simp; omega), Option.bind_some, tw0 t (isA_of_L hc), chk_bind (by simp only [List.length_cons]; omega), sub_tw]
theorem tak_num {n : Nat} {c : UInt8} {t : Str} (hn : 10000 ≤ n) (hs : (c :: t).length ≤ 5000) (hL : isL c = false) (hc : isD c = true) :
  Jb4 n (c :: t) = some (if (t.takeWhile isD).length + 1 > 9 then (0, [], 0) else (2, c :: t.takeWhile isD, ((t.takeWhile isD).length : Int) + 1)) := by
 have := tw_le isD t
 simp only [List.length_cons] at hs
 unfold Jb4
 rw [show ix (c :: t) 0 = some c from rfl, Option.bind_some, show JbU c = some (isL c) from rfl, Option.bind_some, hL, if_neg (by simp), Option.bind_some, show JbM c = some (isD c) from rfl, Option.bind_some, hc, if_pos rfl, show JbD (c :: t) n 0 = some (tw isD (c :: t) 0) from takL3 (by simp; omega) n 0 (by simp) (by simp; omega), Option.bind_some, tw0 t hc]
 by_cases q : (t.takeWhile isD).length + 1 > 9
 ·rw [if_pos (by simp; omega), if_pos q]
 ·rw [if_neg (by simp; omega), if_neg q, chk_bind (by simp only [List.length_cons]; omega), sub_tw]
def wdy : Str → Bool
 | [] => false
 | c :: t => isL c && t.all isA
def nmr : Str → Bool
 | [] => false
 | c :: t => isD c && t.all isD && decide (t.length ≤ 8)
theorem L_ne {c : UInt8} (h : isL c = true) : (c.toNat : Int) ≠ 10 ∧ (c.toNat : Int) ≠ 32 ∧ (c.toNat : Int) ≠ 9 ∧ (c.toNat : Int) ≠ 13 ∧ (c.toNat : Int) ≠ 35 := by
 simp only [isL, Bool.or_eq_true, Bool.and_eq_true, decide_eq_true_eq] at h
 omega
theorem D_ne {c : UInt8} (h : isD c = true) : (c.toNat : Int) ≠ 10 ∧ (c.toNat : Int) ≠ 32 ∧ (c.toNat : Int) ≠ 9 ∧ (c.toNat : Int) ≠ 13 ∧ (c.toNat : Int) ≠ 35 ∧ isL c = false := by
 simp only [isD, Bool.and_eq_true, decide_eq_true_eq] at h
 refine ⟨by omega, by omega, by omega, by omega, by omega, ?_⟩
 simp only [isL, Bool.or_eq_false_iff, Bool.and_eq_false_iff, decide_eq_false_iff_not]
 omega
def Tk (k : Int) (w : Str) : Prop := (k = 1 → wdy w = true) ∧ (k = 2 → nmr w = true)
theorem tok_tk {n : Nat} {s : Str} (hn : 10000 ≤ n) (h0 : 0 < s.length) (hs : s.length ≤ 5000) {a b : Int} {w : Str} (h : Jbf n s = some (a, b, w)) : a = 1 → wdy w = true := by
 cases s with
 | nil => simp at h0
 | cons c t =>
  cases hL : isL c with
  | true =>
   rw [tok_word hn hs hL] at h
   cases h
   exact fun _ => by simp only [wdy, hL, tw_all, Bool.and_self]
  | false =>
   intro ha
   subst ha
   unfold Jbf at h
   rw [show ix (c :: t) 0 = some c from rfl, Option.bind_some, show Ja0 c = some (isL c) from rfl, Option.bind_some, hL, if_neg (by simp), show JaO c = some (isD c) from rfl, Option.bind_some] at h
   split at h
   ·obtain ⟨r, hr, h⟩ := bnd h
    split at h
    ·cases h
    ·obtain ⟨_, h⟩ := chkb h; cases h
   ·split at h
    ·obtain ⟨r, hr, h⟩ := bnd h; cases h
    ·obtain ⟨_, h⟩ := chkb h
     obtain ⟨r, hr, h⟩ := bnd h
     have : ∀ (k i : Nat) (z : Int × Int × Str), JaE (c :: t) k i = some (Fl.ret z) → z.1 = 4 := fun k => by
      induction k with
      | zero => intro i z hz; cases hz
      | succ k ih =>
       intro i z hz
       rw [JaE] at hz
       obtain ⟨p, hp, hz⟩ := bnd hz
       obtain ⟨q, hq, hz⟩ := bnd hz
       split at hz
       ·cases hz; rfl
       ·exact ih _ z hz
     cases r with
     | ret z =>
      rw [el_ret] at h
      have := this _ _ z hr
      rw [Option.some.inj h] at this
      simp at this
     | go z => rw [el_go] at h; cases h
theorem splitL0_tk {s : Str} {m : Nat} (hm : 10000 ≤ m) (hs : s.length ≤ 5000) : ∀ (n : Nat) (y : List JA) (a b i : Int) (r : Fl ((List JA) × Err) ((List JA) × Int × Int × Int)), JQ s m n y a b i = some r → (∀ t ∈ y, t.Ab = 1 → wdy t.Ac = true) →
  (∀ z, r = Fl.ret z → z.2 = some 2) ∧ ∀ p, r = Fl.go p → ∀ t ∈ p.1, t.Ab = 1 → wdy t.Ac = true
 | 0, y, a, b, i, r, h, hy => by rw [JQ] at h; cases h
 | n + 1, y, a, b, i, r, h, hy => by
  rw [JQ] at h
  split at h
  ·rename_i hi
   have hi : i < (s.length : Int) := by simpa using hi
   obtain ⟨c, hc, h⟩ := bnd h
   split at h
   ·obtain ⟨_, h⟩ := chkb h
    obtain ⟨_, h⟩ := chkb h
    exact splitL0_tk hm hs n _ _ _ _ r h hy
   ·split at h
    ·obtain ⟨_, h⟩ := chkb h; exact splitL0_tk hm hs n _ _ _ _ r h hy
    ·split at h
     ·obtain ⟨_, h⟩ := chkb h; exact splitL0_tk hm hs n _ _ _ _ r h hy
     ·split at h
      ·obtain ⟨_, h⟩ := chkb h; exact splitL0_tk hm hs n _ _ _ _ r h hy
      ·split at h
       ·obtain ⟨_, _, h⟩ := bnd h; exact splitL0_tk hm hs n _ _ _ _ r h hy
       ·obtain ⟨hb, h⟩ := chkb h
        obtain ⟨x, hx, h⟩ := bnd h
        split at h
        ·cases h
         exact ⟨fun z e => by cases e; rfl, fun p e => by cases e⟩
        ·obtain ⟨_, h⟩ := chkb h
         obtain ⟨_, h⟩ := chkb h
         obtain ⟨_, h⟩ := chkb h
         obtain ⟨_, h⟩ := chkb h
         refine splitL0_tk hm hs n _ _ _ _ r h fun t ht => ?_
         rcases List.mem_append.1 ht with ht | ht
         ·exact hy t ht
         ·rw [List.mem_singleton] at ht
          subst ht
          have hsl : (subL s i (s.length : Int)).length = s.length - i.toNat := by
           unfold subL
           rw [List.length_take, List.length_drop]; omega
          obtain ⟨x1, x2, x3⟩ := x
          exact tok_tk hm (by rw [hsl]; omega) (by rw [hsl]; omega) hx
  ·cases h
   exact ⟨fun z e => (by cases e), fun p e => by cases e; exact hy⟩
theorem split_tk {n : Nat} {s : Str} (hn : 10000 ≤ n) {r : List JA × Err} (h : Jbg n s = some r) (he : r.2 = none) : s.length ≤ 4096 ∧ ∀ t ∈ r.1, t.Ab = 1 → wdy t.Ac = true := by
 unfold Jbg at h
 split at h
 ·cases h; cases he
 ·rename_i hl
  have hl : s.length ≤ 4096 := by simp at hl; omega
  obtain ⟨q, hq, h⟩ := bnd h
  obtain ⟨g1, g2⟩ := splitL0_tk hn (by omega) n _ _ _ _ q hq (by simp)
  cases q with
  | ret z =>
   rw [el_ret] at h
   have := g1 z rfl
   rw [Option.some.inj h, he] at this; cases this
  | go p =>
   rw [el_go] at h
   obtain ⟨_, h⟩ := chkb h
   obtain ⟨_, h⟩ := chkb h
   obtain ⟨_, h⟩ := chkb h
   cases h
   refine ⟨hl, fun t ht hk => ?_⟩
   rcases List.mem_append.1 ht with ht | ht
   ·exact g2 p rfl t ht hk
   ·rw [List.mem_singleton] at ht
    subst ht
    simp at hk
theorem split_word {n : Nat} {s : Str} (hn : 10000 ≤ n) (hs : s.length ≤ 4096) (hw : wdy s = true) : Jbg n s = some ([⟨1, s, 1, 1⟩, ⟨5, [], 1, (s.length : Int) + 1⟩], none) := by
 cases s with
 | nil => cases hw
 | cons c t =>
  simp only [wdy, Bool.and_eq_true] at hw
  obtain ⟨hc, ht⟩ := hw
  obtain ⟨n1, n2, n3, n4, n5⟩ := L_ne hc
  obtain ⟨k, rfl⟩ : ∃ k, n = k + 2 := ⟨n - 2, by omega⟩
  have hlen : ((c :: t).length : Int) = (t.length : Int) + 1 := by simp
  unfold Jbg
  rw [if_neg (by simp only [decide_eq_true_eq]; omega), JQ, if_pos (by simp only [decide_eq_true_eq]; omega), show ix (c :: t) 0 = some c from rfl, Option.bind_some,
   if_neg (by simpa using n1), if_neg (by simpa using n2), if_neg (by simpa using n3), if_neg (by simpa using n4), if_neg (by simpa using n5), chk_bind (by omega)]
  have e : subL (c :: t) (0 : Int) ((c :: t).length : Int) = c :: t := by
   unfold subL
   rw [show ((0 : Int)).toNat = 0 from rfl, List.drop_zero, List.take_of_length_le (by omega)]
  rw [e, tok_word hn (by omega) hc, tw_self isA t ht, Option.bind_some, if_neg (by simp only [decide_eq_true_eq]; omega), chk_bind (by constructor <;> omega), chk_bind (by constructor <;> omega),
   chk_bind (by simp [lim]), chk_bind (by constructor <;> simp only <;> omega), JQ, if_neg (by simp only [decide_eq_true_eq]; omega), Option.bind_some, el_go, chk_bind (by constructor <;> simp only <;> omega), chk_bind (by constructor <;> simp only <;> omega), chk_bind (by simp [lim])]
  simp
def kw (s : Str) : Bool := decide (s ∈ gkw0)
theorem index_eq (v : Str) : ∀ (l : List Str) (i : Nat), ∃ r, JX v l i = some r ∧ (v ∈ l → ∃ k : Nat, r = Fl.ret (k : Int)) ∧ (v ∉ l → r = Fl.go ())
 | [], i => ⟨_, rfl, fun h => (by cases h), fun _ => rfl⟩
 | x :: l, i => by
  rw [JX]
  by_cases q : v = x
  ·exact ⟨_, if_pos (by simpa using q), fun _ => ⟨i, rfl⟩, fun h => (by simp [q] at h)⟩
  ·obtain ⟨r, hr, g1, g2⟩ := index_eq v l (i + 1)
   rw [if_neg (by simpa using q)]
   exact ⟨r, hr, fun h => g1 (by simpa [q] using h), fun h => g2 (by simpa [q] using h)⟩
theorem keyword_eq (s : Str) : Jcd s = some (kw s) := by
 obtain ⟨r, hr, g1, g2⟩ := index_eq s gkw0 0
 unfold Jcd JO Jbp kw
 rw [chk_bind (by decide), hr, Option.bind_some]
 by_cases q : s ∈ gkw0
 ·obtain ⟨k, rfl⟩ := g1 q
  rw [el_ret, Option.bind_some, Option.bind_some]
  simp [q]
 ·rw [g2 q, el_go, Option.bind_some, Option.bind_some]
  simp [q]
theorem keyword2_L0 (s : Str) : ∀ (l : List Str) (i : Nat), Jbb s l i = some (if s ∈ l then Fl.ret true else Fl.go ())
 | [], i => rfl
 | x :: l, i => by
  rw [Jbb]
  by_cases q : x = s
  ·rw [if_pos (by simpa using q), if_pos (by simp [q])]
  ·rw [if_neg (by simpa using q), keyword2_L0 s l (i + 1)]
   have : (s ∈ x :: l) ↔ s ∈ l := by
    simp only [List.mem_cons]
    exact ⟨fun h => h.elim (fun e => absurd e.symm q) id, .inr⟩
   simp only [this]
theorem keyword2_eq (s : Str) : JcL s = some (kw s) := by
 have e : JcV = some gkw0 := rfl
 unfold JcL kw
 rw [e, Option.bind_some, chk_bind (by decide), keyword2_L0, Option.bind_some]
 by_cases q : s ∈ gkw0
 ·rw [if_pos q, el_ret]; simp [q]
 ·rw [if_neg q, el_go]; simp [q]
def nm (s : Str) : Bool := wdy s && decide (s.length ≤ 4096) && !kw s
theorem ix_mem {α : Type} {l : List α} {i : Int} {x : α} (h : ix l i = some x) : x ∈ l := by
 unfold ix at h
 split at h
 ·exact List.mem_of_getElem? h
 ·cases h
theorem named_eq {n : Nat} (hn : 10000 ≤ n) (s : Str) : JbJ n s = some (nm s) := by
 unfold JbJ
 by_cases hw : s.length ≤ 4096 ∧ wdy s = true
 ·rw [split_word hn hw.1 hw.2, Option.bind_some]
  simp [ix, keyword_eq, nm, hw.1, hw.2]
 ·obtain ⟨r, hr⟩ := split_ok (s := s) hn
  have hnm : nm s = false := by
   unfold nm
   cases q : wdy s with
   | false => rfl
   | true => simp; intro h; exact absurd ⟨h, q⟩ hw
  rw [hr, Option.bind_some, hnm]
  cases q : (r.2.isNone && decide ((r.1.length : Int) = 2)) with
  | false => rfl
  | true =>
   rw [if_pos rfl]
   simp only [Bool.and_eq_true, decide_eq_true_eq] at q
   obtain ⟨g1, g2⟩ := split_tk hn hr (by simpa using q.1)
   obtain ⟨t, ht⟩ := ix_ok (s := r.1) (i := 0) (by omega) (by omega)
   rw [ht, Option.bind_some, Option.bind_some]
   cases k1 : decide (t.Ab = 1) with
   | false => rfl
   | true =>
    rw [if_pos rfl, Option.bind_some, Option.bind_some]
    cases k2 : decide (t.Ac = s) with
    | false => rfl
    | true =>
     have e1 := of_decide_eq_true k1
     have e2 := of_decide_eq_true k2
     have := g2 t (ix_mem ht) e1
     rw [e2] at this
     exact absurd ⟨g1, this⟩ hw
theorem digits_L0_eq : ∀ (s : Str) (i : Nat), JaM s i = some (if s.all isD = true then Fl.go () else Fl.ret false)
 | [], i => rfl
 | c :: s, i => by
  have e : (if decide ((c.toNat : Int) < 48) = true then some true else some (decide ((c.toNat : Int) > 57))) = some (!isD c) := by
   by_cases q : (c.toNat : Int) < 48
   ·have : isD c = false := by simp only [isD, Bool.and_eq_false_iff, decide_eq_false_iff_not]; omega
    rw [if_pos (by simpa using q), this]; rfl
   ·rw [if_neg (by simpa using q)]
    by_cases q2 : (c.toNat : Int) > 57
    ·have : isD c = false := by simp only [isD, Bool.and_eq_false_iff, decide_eq_false_iff_not]; omega
     rw [this, decide_eq_true q2]; rfl
    ·have : isD c = true := by simp only [isD, Bool.and_eq_true, decide_eq_true_eq]; omega
     rw [this, decide_eq_false q2]; rfl
  rw [JaM, e, Option.bind_some]
  cases q : isD c with
  | true => rw [if_neg (by simp), digits_L0_eq s (i + 1), List.all_cons, q]; rfl
  | false => rw [if_pos (by simp), List.all_cons, q]; rfl
theorem digits_eq {s : Str} (h : s.length ≤ 3000) : Jcb s = some (nmr s) := by
 unfold Jcb
 rw [chk_bind (by simp only [szMax]; omega), digits_L0_eq, Option.bind_some]
 cases s with
 | nil => rfl
 | cons c t =>
  rw [nmr, List.all_cons]
  cases q : (isD c && t.all isD) with
  | true =>
   rw [if_pos rfl, el_go, Bool.true_and]
   have e1 : decide (((c :: t).length : Int) ≥ 1) = true := by simp only [List.length_cons, decide_eq_true_eq]; omega
   have e2 : decide (((c :: t).length : Int) ≤ 9) = decide (t.length ≤ 8) := by
    simp only [List.length_cons, decide_eq_decide]; omega
   rw [e1, e2, Bool.true_and]
  | false => rw [if_neg (by simp), el_ret, Bool.false_and]
def prt (s : Str) : Bool := s.all fun c => !(decide ((c.toNat : Int) < 32) || decide ((c.toNat : Int) > 126))
theorem prt_cons (c : UInt8) (s : Str) : prt (c :: s) = (!(decide ((c.toNat : Int) < 32) || decide ((c.toNat : Int) > 126)) && prt s) := by simp [prt]
theorem prt_cond (c : UInt8) : (if decide ((c.toNat : Int) < 32) = true then some true else some (decide ((c.toNat : Int) > 126))) = some (decide ((c.toNat : Int) < 32) || decide ((c.toNat : Int) > 126)) := by
 cases decide ((c.toNat : Int) < 32) <;> simp
theorem esc_cond (c : UInt8) : (if decide ((c.toNat : Int) = 34) = true then some true else some (decide ((c.toNat : Int) = 92))) = some (decide ((c.toNat : Int) = 34) || decide ((c.toNat : Int) = 92)) := by
 cases decide ((c.toNat : Int) = 34) <;> simp
theorem quote_L0_eq : ∀ (s : Str) (i : Nat) (y : Str), y.length + 2 * s.length ≤ 1000000 → ∃ r, JaQ s i y = some r ∧ (prt s = true → ∃ z, r = Fl.go z ∧ z.length ≤ 1000000) ∧ (prt s = false → r = Fl.ret ([], some 2))
 | [], i, y, h => ⟨_, rfl, fun _ => ⟨_, rfl, by simpa using h⟩, fun h => (by simp [prt] at h)⟩
 | c :: s, i, y, h => by
  simp only [List.length_cons] at h
  rw [JaQ, prt_cond, Option.bind_some, prt_cons]
  cases q : (decide ((c.toNat : Int) < 32) || decide ((c.toNat : Int) > 126)) with
  | true => exact ⟨_, if_pos rfl, fun h => (by simp at h), fun _ => rfl⟩
  | false =>
   rw [if_neg (by simp), esc_cond, Option.bind_some, Bool.not_false, Bool.true_and]
   cases q2 : (decide ((c.toNat : Int) = 34) || decide ((c.toNat : Int) = 92)) with
   | true =>
    rw [if_pos rfl, chk_bind (by simp only [lim, List.length_cons, List.length_nil]; omega), chk_bind (by simp only [lim, List.length_append, List.length_cons, List.length_nil]; omega)]
    exact quote_L0_eq s (i + 1) _ (by simp only [List.length_append, List.length_cons, List.length_nil]; omega)
   | false =>
    rw [if_neg (by simp), chk_bind (by simp only [lim, List.length_cons, List.length_nil]; omega)]
    exact quote_L0_eq s (i + 1) _ (by simp only [List.length_append, List.length_cons, List.length_nil]; omega)
theorem printable_eq {s : Str} (h : s.length ≤ 3000) : JaN s = some (prt s) := by
 obtain ⟨r, hr, g1, g2⟩ := quote_L0_eq s 0 [34] (by simp <;> omega)
 unfold JaN JcE
 rw [chk_bind (by simp only [szMax]; omega), hr, Option.bind_some]
 cases q : prt s with
 | false => rw [g2 q, el_ret]; rfl
 | true =>
  obtain ⟨z, rfl, hz⟩ := g1 q
  rw [el_go, chk_bind (by simp only [lim, List.length_cons, List.length_nil]; omega)]; rfl
theorem quote2_L0_eq {w : Str} : ∀ (s : Str) (i : Nat) (y : Str), i + s.length = w.length → y.length + 2 * s.length ≤ 1000000 → ∃ r, Jbk w s i y = some r ∧ (prt s = true → ∃ z, r = Fl.go z ∧ z.length ≤ 1000000) ∧ (prt s = false → r = Fl.ret ([], false))
 | [], i, y, hi, h => ⟨_, rfl, fun _ => ⟨_, rfl, by simpa using h⟩, fun h => (by simp [prt] at h)⟩
 | c :: s, i, y, hi, h => by
  simp only [List.length_cons] at h hi
  have hsub : (subL w (i : Int) ((i : Int) + 1)).length ≤ 1 := by
   unfold subL
   rw [List.length_take]; omega
  rw [Jbk, prt_cond, Option.bind_some, prt_cons]
  cases q : (decide ((c.toNat : Int) < 32) || decide ((c.toNat : Int) > 126)) with
  | true => exact ⟨_, if_pos rfl, fun h => (by simp at h), fun _ => rfl⟩
  | false =>
   rw [if_neg (by simp), esc_cond, Option.bind_some, Bool.not_false, Bool.true_and]
   cases q2 : (decide ((c.toNat : Int) = 34) || decide ((c.toNat : Int) = 92)) with
   | true =>
    rw [if_pos rfl, chk_bind (by simp only [lim, List.length_cons, List.length_nil]; omega), chk_bind (by omega), chk_bind (by simp only [lim, List.length_append, List.length_cons, List.length_nil]; omega)]
    exact quote2_L0_eq s (i + 1) _ (by omega) (by simp only [List.length_append, List.length_cons, List.length_nil]; omega)
   | false =>
    rw [if_neg (by simp), chk_bind (by omega), chk_bind (by simp only [lim]; omega)]
    exact quote2_L0_eq s (i + 1) _ (by omega) (by simp only [List.length_append]; omega)
theorem printable2_eq {s : Str} (h : s.length ≤ 3000) : Jbr s = some (prt s) := by
 obtain ⟨r, hr, g1, g2⟩ := quote2_L0_eq (w := s) s 0 [34] (by omega) (by simp <;> omega)
 unfold Jbr JdI
 rw [chk_bind (by simp only [szMax]; omega), hr, Option.bind_some]
 cases q : prt s with
 | false => rw [g2 q, el_ret]; rfl
 | true =>
  obtain ⟨z, rfl, hz⟩ := g1 q
  rw [el_go, chk_bind (by simp only [lim, List.length_cons, List.length_nil]; omega)]; rfl
theorem quoted2_L0 {s : Str} (hs : s.length ≤ 5000) : ∀ (n : Nat) (y : Str) (i : Int), 0 ≤ i → i ≤ (s.length : Int) → (s.length : Int) - i < n → (y.length : Int) + (s.length - i) ≤ 100000 → ∃ r, Ja4 s n y i = some r ∧ ∀ z, r = Fl.ret z → (z.1 = 0 ∧ z.2.2 = 0) ∨ (z.1 = 3 ∧ 0 < z.2.2 ∧ z.2.2 ≤ (s.length : Int))
 | 0, y, i, h0, h3, h1, h2 => by omega
 | n + 1, y, i, h0, h3, h1, h2 => by
  rw [Ja4]
  by_cases hi : i < (s.length : Int)
  ·obtain ⟨c, hc⟩ := ix_ok h0 hi
   rw [if_pos (by simpa using hi), hc, Option.bind_some]
   by_cases q : (c.toNat : Int) = 34
   ·rw [if_pos (by simpa using q), chk_bind (by constructor <;> omega)]
    exact ⟨_, rfl, fun z e => by cases e; right; exact ⟨rfl, by simp only; omega, by simp only; omega⟩⟩
   ·rw [if_neg (by simpa using q)]
    cases hb : (decide ((c.toNat : Int) < 32) || decide ((c.toNat : Int) > 126)) with
    | true => exact ⟨_, if_pos rfl, fun z e => by cases e; left; exact ⟨rfl, rfl⟩⟩
    | false =>
     rw [if_neg (by simp)]
     have hsub : ∀ j : Int, (subL s j (j + 1)).length ≤ 1 := fun j => by
      unfold subL
      rw [List.length_take]; omega
     by_cases q2 : (c.toNat : Int) = 92
     ·rw [if_pos (by simpa using q2), chk_bind (by constructor <;> omega)]
      by_cases q3 : i + 1 = (s.length : Int)
      ·rw [if_pos (by simpa using q3)]; exact ⟨_, rfl, fun z e => by cases e; left; exact ⟨rfl, rfl⟩⟩
      ·obtain ⟨d, hd⟩ := ix_ok (s := s) (i := i + 1) (by omega) (by omega)
       rw [if_neg (by simpa using q3), hd, Option.bind_some]
       have e2 : ∃ b, (if decide ((d.toNat : Int) ≠ 92) = true then (some d).bind fun x40 => some (decide ((x40.toNat : Int) ≠ 34)) else some false) = some b := ite_ex (fun _ => ⟨_, rfl⟩) (fun _ => ⟨_, rfl⟩)
       obtain ⟨b, hb⟩ := e2
       rw [hb, Option.bind_some]
       have := hsub (i + 1)
       cases b with
       | true => exact ⟨_, if_pos rfl, fun z e => by cases e; left; exact ⟨rfl, rfl⟩⟩
       | false =>
        rw [if_neg (by simp), chk_bind (by constructor <;> omega), chk_bind (by omega), chk_bind (by simp only [lim]; omega), chk_bind (by constructor <;> omega)]
        exact quoted2_L0 hs n _ _ (by omega) (by omega) (by omega) (by simp only [List.length_append]; omega)
     ·have := hsub i
      rw [if_neg (by simpa using q2), chk_bind (by constructor <;> omega), chk_bind (by omega), chk_bind (by simp only [lim]; omega), chk_bind (by constructor <;> omega)]
      exact quoted2_L0 hs n _ _ (by omega) (by omega) (by omega) (by simp only [List.length_append]; omega)
  ·rw [if_neg (by simpa using hi)]; exact ⟨_, rfl, fun z e => by cases e⟩
abbrev sgs : List Str := [([61, 61] : Str), ([33, 61] : Str), ([60, 61] : Str), ([60] : Str), ([43] : Str), ([45] : Str), ([42] : Str), ([40] : Str), ([41] : Str), ([123] : Str), ([125] : Str), ([44] : Str), ([59] : Str), ([61] : Str)]
theorem take2_L5 {s : Str} : ∀ (k i : Nat), i + k = 14 → ∃ r, Jb0 s k i = some r ∧ ∀ z, r = Fl.ret z → z.1 = 4 ∧ 0 ≤ z.2.2 ∧ z.2.2 ≤ (s.length : Int)
 | 0, i, h => ⟨_, rfl, fun z e => by cases e⟩
 | k + 1, i, h => by
  rw [Jb0]
  obtain ⟨p, hp⟩ := ix_ok (s := sgs) (i := (i : Int)) (by omega) (by simp; omega)
  rw [hp, Option.bind_some]
  by_cases h1 : (s.length : Int) ≥ (p.length : Int)
  ·rw [if_pos (by simpa using h1), Option.bind_some, chk_bind (by omega), Option.bind_some, Option.bind_some]
   cases q : decide (subL s (0 : Int) (p.length : Int) = p) with
   | true => rw [if_pos rfl, Option.bind_some, Option.bind_some]; exact ⟨_, rfl, fun z e => by cases e; exact ⟨rfl, by simp only; omega, h1⟩⟩
   | false => rw [if_neg (by simp)]; exact take2_L5 k (i + 1) (by omega)
  ·rw [if_neg (by simpa using h1), Option.bind_some, if_neg (by simp)]; exact take2_L5 k (i + 1) (by omega)
theorem take2_ok {n : Nat} {s : Str} (hn : 10000 ≤ n) (h0 : 0 < s.length) (hs : s.length ≤ 5000) : ∃ a w b, Jb4 n s = some (a, w, b) ∧ 0 ≤ b ∧ b ≤ (s.length : Int) ∧ Tk a w := by
 cases s with
 | nil => simp at h0
 | cons c t =>
  have hl : ((c :: t).length : Int) = (t.length : Int) + 1 := by simp
  cases hL : isL c with
  | true =>
   have := tw_le isA t
   exact ⟨_, _, _, tak_word hn hs hL, by omega, by omega, fun _ => by simp only [wdy, hL, tw_all, Bool.and_self], fun h => by omega⟩
  | false =>
   cases hD : isD c with
   | true =>
    have := tw_le isD t
    by_cases q : (t.takeWhile isD).length + 1 > 9
    ·exact ⟨0, [], 0, by rw [tak_num hn hs hL hD, if_pos q], by omega, by omega, fun h => by omega, fun h => by omega⟩
    ·exact ⟨2, c :: t.takeWhile isD, ((t.takeWhile isD).length : Int) + 1, by rw [tak_num hn hs hL hD, if_neg q], by omega, by omega, fun h => by omega, fun _ => by
      have e : decide ((t.takeWhile isD).length ≤ 8) = true := by simp only [decide_eq_true_eq]; omega
      simp only [nmr, hD, tw_all, e, Bool.and_self]⟩
   | false =>
    unfold Jb4
    rw [show ix (c :: t) 0 = some c from rfl, Option.bind_some, show JbU c = some (isL c) from rfl, Option.bind_some, hL, if_neg (by simp), Option.bind_some, show JbM c = some (isD c) from rfl, Option.bind_some, hD, if_neg (by simp), Option.bind_some]
    by_cases q : (c.toNat : Int) = 34
    ·rw [if_pos (by simpa using q)]
     unfold Jdl
     obtain ⟨r, hr, h1⟩ := quoted2_L0 hs n [] 1 (by omega) (by omega) (by omega) (by simp only [List.length_nil]; omega)
     rw [hr, Option.bind_some]
     cases r with
     | ret z =>
      rw [el_ret, Option.bind_some]
      rcases h1 z rfl with ⟨g1, g2⟩ | ⟨g1, g2, g3⟩
      ·exact ⟨_, _, _, rfl, by omega, by omega, fun h => by omega, fun h => by omega⟩
      ·exact ⟨_, _, _, rfl, by omega, by omega, fun h => by omega, fun h => by omega⟩
     | go z => rw [el_go, Option.bind_some]; exact ⟨_, _, _, rfl, by simp, by simp only; omega, fun h => by simp at h, fun h => by simp at h⟩
    ·rw [if_neg (by simpa using q)]
     obtain ⟨r, hr, h1⟩ := take2_L5 (s := c :: t) 14 0 rfl
     rw [chk_bind (by constructor <;> omega), show ((14 : Int)).toNat = 14 from rfl, hr, Option.bind_some]
     cases r with
     | ret z =>
      obtain ⟨g1, g2, g3⟩ := h1 z rfl
      exact ⟨z.1, z.2.1, z.2.2, rfl, g2, g3, fun h => by omega, fun h => by omega⟩
     | go z => exact ⟨_, _, _, rfl, by omega, by omega, fun h => by simp at h, fun h => by simp at h⟩
theorem split2_L3 {s : Str} {i : Int} (h0 : 0 ≤ i) (hs : s.length ≤ 5000) : ∀ (n : Nat) (j : Int), 1 ≤ j → i + j ≤ (s.length : Int) → (s.length : Int) - (i + j) < n → ∃ r, JbN i s n j = some r ∧ 1 ≤ r ∧ i + r ≤ (s.length : Int)
 | 0, j, h1, h2, h3 => by omega
 | n + 1, j, h1, h2, h3 => by
  rw [JbN, chk_bind (by constructor <;> omega)]
  by_cases hi : i + j < (s.length : Int)
  ·obtain ⟨c, hc⟩ := ix_ok (s := s) (i := i + j) (by omega) hi
   rw [if_pos (by simpa using hi), chk_bind (by constructor <;> omega), hc, Option.bind_some, Option.bind_some]
   by_cases q : (c.toNat : Int) = 10
   ·exact ⟨j, if_neg (by simpa using q), h1, h2⟩
   ·rw [if_pos (by simpa using q), chk_bind (by constructor <;> omega)]
    exact split2_L3 h0 hs n (j + 1) (by omega) (by omega) (by omega)
  ·rw [if_neg (by simpa using hi), Option.bind_some]
   exact ⟨j, if_neg (by simp), h1, h2⟩
theorem split2_L0 {s : Str} {m : Nat} (hm : 10000 ≤ m) (hs : s.length ≤ 5000) : ∀ (n : Nat) (y : List JN) (a b i : Int), 0 ≤ i → i ≤ (s.length : Int) → (s.length : Int) - i < n → (y.length : Int) + (s.length - i) ≤ 100000 → 0 ≤ a → a + (s.length - i) ≤ 100000 → 0 ≤ b → b + (s.length - i) ≤ 100000 → (∀ t ∈ y, Tk t.Ab t.Ac) →
  ∃ r, Jat s m n y a b i = some r ∧ (∀ z, r = Fl.ret z → z.2 = 2) ∧ ∀ p, r = Fl.go p → p.1.length ≤ 100000 ∧ ∀ t ∈ p.1, Tk t.Ab t.Ac
 | 0, y, a, b, i, h0, h1, h2, h3, h4, h5, h6, h7, hy => by omega
 | n + 1, y, a, b, i, h0, h1, h2, h3, h4, h5, h6, h7, hy => by
  rw [Jat]
  by_cases hi : i < (s.length : Int)
  ·obtain ⟨c, hc⟩ := ix_ok h0 hi
   rw [if_pos (by simpa using hi), hc, Option.bind_some]
   split
   ·rw [chk_bind (by constructor <;> omega), chk_bind (by constructor <;> omega), chk_bind (by constructor <;> omega)]
    exact split2_L0 hm hs n _ _ _ _ (by omega) (by omega) (by omega) (by omega) (by omega) (by omega) (by omega) (by omega) hy
   ·split
    ·obtain ⟨r, hr, g1, g2⟩ := split2_L3 h0 hs m 1 (by omega) (by omega) (by omega)
     rw [hr, Option.bind_some, chk_bind (by constructor <;> omega), chk_bind (by constructor <;> omega)]
     exact split2_L0 hm hs n _ _ _ _ (by omega) (by omega) (by omega) (by omega) (by omega) (by omega) (by omega) (by omega) hy
    ·split
     ·have hsl : (subL s i (s.length : Int)).length = s.length - i.toNat := by
       unfold subL
       rw [List.length_take, List.length_drop]; omega
      rw [chk_bind (by omega)]
      obtain ⟨u, w, v, hr, g1, g2, g3⟩ := take2_ok (n := m) (s := subL s i (s.length : Int)) hm (by omega) (by omega)
      rw [hr, Option.bind_some]
      split
      ·exact ⟨_, rfl, fun z e => (by cases e; rfl), fun p e => by cases e⟩
      ·rename_i hz
       have hz' : v ≠ 0 := by simpa using hz
       rw [chk_bind (by simp only [lim, List.length_cons, List.length_nil]; omega), chk_bind (by constructor <;> simp only <;> omega), chk_bind (by constructor <;> simp only <;> omega)]
       refine split2_L0 hm hs n _ _ _ _ (by simp only; omega) (by simp only; omega) (by simp only; omega) (by simp only [List.length_append, List.length_cons, List.length_nil]; omega) (by omega) (by simp only; omega) (by simp only; omega) (by simp only; omega) fun t ht => ?_
       rcases List.mem_append.1 ht with ht | ht
       ·exact hy t ht
       ·rw [List.mem_singleton] at ht
        subst ht
        exact g3
     ·rw [chk_bind (by constructor <;> omega), chk_bind (by constructor <;> omega)]
      exact split2_L0 hm hs n _ _ _ _ (by omega) (by omega) (by omega) (by omega) (by omega) (by omega) (by omega) (by omega) hy
  ·rw [if_neg (by simpa using hi)]
   exact ⟨_, rfl, fun z e => (by cases e), fun p e => by cases e; exact ⟨by simp only; omega, hy⟩⟩
theorem split2_ok {n : Nat} {s : Str} (hn : 10000 ≤ n) : ∃ r, Jcf n s = some r ∧ (r.2 = 0 → s.length ≤ 4096 ∧ ∀ t ∈ r.1, Tk t.Ab t.Ac) := by
 unfold Jcf
 by_cases h : (s.length : Int) > 4096
 ·exact ⟨_, if_pos (by simpa using h), fun e => by simp at e⟩
 ·obtain ⟨r, hr, h1, h2⟩ := split2_L0 hn (s := s) (by omega) n [] 1 1 0 (by omega) (by omega) (by omega) (by simp; omega) (by omega) (by omega) (by omega) (by omega) (by simp)
  rw [if_neg (by simpa using h), hr, Option.bind_some]
  cases r with
  | ret z => rw [el_ret]; exact ⟨_, rfl, fun e => by rw [h1 z rfl] at e; omega⟩
  | go p =>
   obtain ⟨g1, g2⟩ := h2 p rfl
   rw [el_go, chk_bind (by simp only [lim, List.length_cons, List.length_nil]; omega)]
   refine ⟨_, rfl, fun _ => ⟨by omega, fun t ht => ?_⟩⟩
   rcases List.mem_append.1 ht with ht | ht
   ·exact g2 t ht
   ·rw [List.mem_singleton] at ht
    subst ht
    exact ⟨fun h => by simp at h, fun h => by simp at h⟩
theorem split2_one {n : Nat} {c : UInt8} {t : Str} {k : Int} (hn : 10000 ≤ n) (hs : (c :: t).length ≤ 4096) (hc : (c.toNat : Int) ≠ 10 ∧ (c.toNat : Int) ≠ 32 ∧ (c.toNat : Int) ≠ 9 ∧ (c.toNat : Int) ≠ 13 ∧ (c.toNat : Int) ≠ 35) (ht : Jb4 n (c :: t) = some (k, c :: t, (t.length : Int) + 1)) :
  Jcf n (c :: t) = some ([⟨k, c :: t, 1, 1⟩, ⟨5, [], 1, ((c :: t).length : Int) + 1⟩], 0) := by
 obtain ⟨n1, n2, n3, n4, n5⟩ := hc
 obtain ⟨k, rfl⟩ : ∃ k, n = k + 2 := ⟨n - 2, by omega⟩
 have hlen : ((c :: t).length : Int) = (t.length : Int) + 1 := by simp
 unfold Jcf
 have e : subL (c :: t) (0 : Int) ((c :: t).length : Int) = c :: t := by
  unfold subL
  rw [show ((0 : Int)).toNat = 0 from rfl, List.drop_zero, List.take_of_length_le (by omega)]
 rw [if_neg (by simp only [decide_eq_true_eq]; omega), Jat, if_pos (by simp only [decide_eq_true_eq]; omega), show ix (c :: t) 0 = some c from rfl, Option.bind_some,
  if_neg (by simpa using n1), if_neg (by simpa using n5), if_pos (by simp only [Bool.and_eq_true, decide_eq_true_eq]; exact ⟨⟨n2, n3⟩, n4⟩), chk_bind (by omega), e, ht, Option.bind_some, if_neg (by simp only [decide_eq_true_eq]; omega),
  chk_bind (by simp [lim]), chk_bind (by constructor <;> simp only <;> omega), chk_bind (by constructor <;> simp only <;> omega), Jat, if_neg (by simp only [decide_eq_true_eq]; omega), Option.bind_some, el_go, chk_bind (by simp [lim])]
 simp
 omega
theorem token1_eq {n : Nat} {s : Str} (hn : 10000 ≤ n) : JbO n s 1 = some (wdy s && decide (s.length ≤ 4096)) ∧ JbO n s 2 = some (nmr s) := by
 have tail : ∀ (k : Int) (b : Bool), (k = 1 → wdy s = true → s.length ≤ 4096 → b = true) → (k = 2 → nmr s = true → s.length ≤ 4096 → b = true) → (k = 1 ∨ k = 2) → b = false → JbO n s k = some b := fun k b h1 h2 hk hb => by
  subst hb
  obtain ⟨r, hr, g⟩ := split2_ok (s := s) hn
  unfold JbO
  rw [hr, Option.bind_some]
  cases q : (decide (r.2 = 0) && decide ((r.1.length : Int) = 2)) with
  | false => rfl
  | true =>
   rw [if_pos rfl]
   simp only [Bool.and_eq_true, decide_eq_true_eq] at q
   obtain ⟨g1, g2⟩ := g q.1
   obtain ⟨t, ht⟩ := ix_ok (s := r.1) (i := 0) (by omega) (by omega)
   rw [ht, Option.bind_some, Option.bind_some]
   cases k1 : decide (t.Ab = k) with
   | false => rfl
   | true =>
    rw [if_pos rfl, Option.bind_some, Option.bind_some]
    cases k2 : decide (t.Ac = s) with
    | false => rfl
    | true =>
     have e1 := of_decide_eq_true k1
     have e2 := of_decide_eq_true k2
     have := g2 t (ix_mem ht)
     rw [e1, e2] at this
     rcases hk with rfl | rfl
     ·exact absurd (h1 rfl (this.1 rfl) g1) (by simp)
     ·exact absurd (h2 rfl (this.2 rfl) g1) (by simp)
 have one : ∀ (k : Int), Jcf n s = some ([⟨k, s, 1, 1⟩, ⟨5, [], 1, (s.length : Int) + 1⟩], 0) → s.length ≤ 4096 → JbO n s k = some true := fun k h hl => by
  unfold JbO
  rw [h, Option.bind_some, if_pos (by simp), show ix ([⟨k, s, 1, 1⟩, ⟨5, [], 1, (s.length : Int) + 1⟩] : List JN) 0 = some ⟨k, s, 1, 1⟩ from rfl, show ix ([⟨k, s, 1, 1⟩, ⟨5, [], 1, (s.length : Int) + 1⟩] : List JN) 1 = some ⟨5, [], 1, (s.length : Int) + 1⟩ from rfl,
   Option.bind_some, Option.bind_some, if_pos (by simp), Option.bind_some, Option.bind_some, if_pos (by simp), Option.bind_some, Option.bind_some, if_pos (by simp), Option.bind_some, chk_bind (by constructor <;> omega), Option.bind_some, if_pos (by simp), Option.bind_some]
  rfl
 constructor
 ·cases q : (wdy s && decide (s.length ≤ 4096)) with
  | false => exact tail 1 false (fun _ a b => by rw [a, decide_eq_true b] at q; cases q) (fun h => by omega) (.inl rfl) rfl
  | true =>
   simp only [Bool.and_eq_true, decide_eq_true_eq] at q
   refine one 1 ?_ q.2
   cases s with
   | nil => cases q.1
   | cons c t =>
    have hw := q.1
    simp only [wdy, Bool.and_eq_true] at hw
    refine split2_one hn q.2 (L_ne hw.1) ?_
    rw [tak_word hn (by omega) hw.1, tw_self isA t hw.2]
 ·cases q : nmr s with
  | false => exact tail 2 false (fun h => by omega) (fun _ a b => by rw [a] at q; cases q) (.inr rfl) rfl
  | true =>
   cases s with
   | nil => cases q
   | cons c t =>
    have hw := q
    simp only [nmr, Bool.and_eq_true, decide_eq_true_eq] at hw
    obtain ⟨⟨w1, w2⟩, w3⟩ := hw
    obtain ⟨n1, n2, n3, n4, n5, n6⟩ := D_ne w1
    refine one 2 ?_ (by simp only [List.length_cons]; omega)
    refine split2_one hn (by simp only [List.length_cons]; omega) ⟨n1, n2, n3, n4, n5⟩ ?_
    rw [tak_num hn (by simp only [List.length_cons]; omega) n6 w1, tw_self isD t w2, if_neg (by omega)]
theorem named2_eq {n : Nat} (hn : 10000 ≤ n) (s : Str) : Jcw n s = some (nm s) := by
 unfold Jcw nm
 rw [(token1_eq hn).1, Option.bind_some, keyword2_eq]
 cases (wdy s && decide (s.length ≤ 4096)) <;> rfl
theorem A2.imp_mem {α β : Type} {P Q : α → β → Prop} {l : List α} {k : List β} (h : A2 P l k) (hf : ∀ a ∈ l, ∀ b, P a b → Q a b) : A2 Q l k := by
 induction h with
 | nil => exact .nil
 | cons hp _ ih => exact .cons (hf _ (by simp) _ hp) (ih fun a ha => hf a (by simp [ha]))
def Sm (f : N → Option Bool) (g : M → Option Bool) (x : N) (y : M) : Prop := ∃ b, f x = some b ∧ g y = some b
def gor (b : Bool) : Fl Bool Unit := if b then Fl.go () else Fl.ret false
theorem gor_el (b c : Bool) : (gor b).el some (fun _ => some c) = some (b && c) := by cases b <;> rfl
theorem exprs_L0_rel {f : N → Option Bool} {g : M → Option Bool} {l : List N} {k : List M} (h : A2 (Sm f g) l k) : ∀ i j : Nat, ∃ b : Bool, JaJ f l i = some (gor b) ∧ JI g k j = some (gor b) ∧ (l = [] → b = true) := by
 induction h with
 | nil => exact fun i j => ⟨true, rfl, rfl, fun _ => rfl⟩
 | cons hp _ ih =>
  intro i j
  obtain ⟨b, h1, h2⟩ := hp
  rw [JaJ, JI, h1, h2, Option.bind_some, Option.bind_some]
  cases b with
  | false => exact ⟨false, rfl, rfl, fun h => by cases h⟩
  | true =>
   obtain ⟨b, g1, g2, _⟩ := ih (i + 1) (j + 1)
   exact ⟨b, g1, g2, fun h => by cases h⟩
theorem all_L0_rel {m n : Nat} {g : M → Option Bool} {l : List N} {k : List M} (h : A2 (Sm (J4 (JbE m) n) g) l k) : ∀ i j : Nat, ∃ b : Bool, JbV (JbE m) n l i = some (gor b) ∧ JU g k j = some (gor b) := by
 induction h with
 | nil => exact fun i j => ⟨true, rfl, rfl⟩
 | cons hp _ ih =>
  intro i j
  obtain ⟨b, h1, h2⟩ := hp
  rw [JbV, JU, h1, h2, Option.bind_some, Option.bind_some]
  cases b with
  | false => exact ⟨false, rfl, rfl⟩
  | true => exact ih (i + 1) (j + 1)
theorem valid_L0_blocked {n : Nat} : ∀ (l : List M) (i j : Nat), Jav n l i = JU (Jr n) l j
 | [], i, j => rfl
 | k :: l, i, j => by
  rw [Jav, JU]
  congr 1; funext b; rw [valid_L0_blocked l (i + 1) (j + 1)]
def cmp (s : Str) : Bool := decide (s = [61, 61]) || (decide (s = [33, 61]) || (decide (s = [60]) || (decide (s = [60, 61]) || (decide (s = [115, 116, 97, 114, 116, 115]) || (decide (s = [101, 110, 100, 115]) || decide (s = [99, 111, 110, 116, 97, 105, 110, 115]))))))
theorem compares2_eq (s : Str) : Jcr s = some (cmp s) := by
 unfold Jcr
 rw [chk_bind (by constructor <;> omega), show ((7 : Int)).toNat = 7 from rfl]
 by_cases h1 : s = [61, 61]; · subst h1; rfl
 by_cases h2 : s = [33, 61]; · subst h2; rfl
 by_cases h3 : s = [60]; · subst h3; rfl
 by_cases h4 : s = [60, 61]; · subst h4; rfl
 by_cases h5 : s = [115, 116, 97, 114, 116, 115]; · subst h5; rfl
 by_cases h6 : s = [101, 110, 100, 115]; · subst h6; rfl
 by_cases h7 : s = [99, 111, 110, 116, 97, 105, 110, 115]; · subst h7; rfl
 simp [Jbm, ix, h1, h2, h3, h4, h5, h6, h7, cmp, Fl.el]
theorem compares_eq (s : Str) : ((JaG 4 s).bind fun x22 => (if x22 = true then some true else (JaG 1 s).bind fun x26 => some x26)) = some (cmp s) := by
 by_cases h1 : s = [61, 61]; · subst h1; rfl
 by_cases h2 : s = [33, 61]; · subst h2; rfl
 by_cases h3 : s = [60]; · subst h3; rfl
 by_cases h4 : s = [60, 61]; · subst h4; rfl
 by_cases h5 : s = [115, 116, 97, 114, 116, 115]; · subst h5; rfl
 by_cases h6 : s = [101, 110, 100, 115]; · subst h6; rfl
 by_cases h7 : s = [99, 111, 110, 116, 97, 105, 110, 115]; · subst h7; rfl
 simp [JaG, h1, h2, h3, h4, h5, h6, h7, cmp]
theorem exprT {n : Nat} {y : M} {k : Int} {b : Bool} (hk : Ju n y = some k) (hl : y.Aa.length ≤ 3000) (hb : JI (Jq n) y.Aa 0 = some (gor b)) :
  Jq (n + 1) y = some (if k = -2 then false else if 0 ≤ k then b && decide ((y.Aa.length : Int) = k) else b) := by
 rw [Jq, hk, Option.bind_some]
 by_cases q : k = -2
 ·rw [if_pos (by simpa using q), if_pos q]
 ·rw [if_neg (by simpa using q), if_neg q]
  by_cases q2 : 0 ≤ k
  ·by_cases q3 : (y.Aa.length : Int) = k
   ·rw [if_neg (by simp [q3]), chk_bind (by simp only [szMax]; omega), hb, Option.bind_some, gor_el, if_pos q2, decide_eq_true q3]
   ·rw [if_pos (by simp [q3]; omega), if_pos q2, decide_eq_false q3, Bool.and_false]
  ·rw [if_neg (by simp; omega), chk_bind (by simp only [szMax]; omega), hb, Option.bind_some, gor_el, if_neg q2, Bool.and_true]
theorem exprs_val {f : N → Option Bool} {n : Nat} {l : List N} {b : Bool} (hl : l.length ≤ 3000) (hb : JaJ f l 0 = some (gor b)) (k : Int) : Jag f n l k = some (b && decide ((l.length : Int) = k)) := by
 unfold Jag
 rw [chk_bind (by simp only [szMax]; omega), hb, Option.bind_some, gor_el]
theorem opt_if {c : Bool} {b : Bool} : (if c = true then (some b).bind fun x => some x else some false) = some (c && b) := by cases c <;> rfl
theorem op_if {c : Bool} {k : Int} : (if (!c) = true then some (-2) else some k) = some (if c = true then k else -2) := by cases c <;> rfl
theorem expression_rel : ∀ (d f n : Nat) (x : N) (y : M), OkN d x → Cvd d x y → d + 10000 ≤ f → d + 10000 ≤ n → Sm (Jt f) (Jq n) x y
 | d + 1, 0, n, x, y, h, hc, hf, hn => by omega
 | d + 1, f + 1, 0, x, y, h, hc, hf, hn => by omega
 | d + 1, f + 1, n + 1, x, y, h, hc, hf, hn => by
  obtain ⟨h1, h2, h3⟩ := h
  obtain ⟨c1, c2, c3, c4⟩ := hc
  have hlen := c4.len
  obtain ⟨b, b1, b2, b3⟩ := exprs_L0_rel (c4.imp_mem fun a ha q hq => expression_rel d f n a q (h3 a ha) hq (by omega) (by omega)) 0 0
  have ex := exprs_val (n := f) (by omega) b1
  have hb0 : decide ((x.Aa.length : Int) = 0) = (b && decide ((x.Aa.length : Int) = 0)) := by
   cases q : decide ((x.Aa.length : Int) = 0) with
   | false => rw [Bool.and_false]
   | true => rw [b3 (List.length_eq_zero_iff.1 (by have := of_decide_eq_true q; omega))]; rfl
  have fin : ∀ (c : Bool) (k : Int), 0 ≤ k → Ju n y = some (if c = true then k else -2) → Jt (f + 1) x = some (c && (b && decide ((x.Aa.length : Int) = k))) → Sm (Jt (f + 1)) (Jq (n + 1)) x y := fun c k hk ho hr => by
   refine ⟨_, hr, ?_⟩
   rw [exprT ho (by omega) b2, hlen]
   cases c with
   | false => rfl
   | true => rw [if_pos rfl, if_neg (by omega), if_pos hk, Bool.true_and]
  have t0 : decide (x.Ac = ([] : Str)) = decide (y.Ac = ([] : Str)) := by rw [c2]
  by_cases k13 : x.Ab = 13
  ·refine fin (decide (x.Ac = [])) 2 (by omega) ?_ ?_
   ·rw [Ju, c1, if_pos (by simpa using k13), c2, op_if]
   ·rw [Jt, if_pos (by simpa using k13), ex, opt_if]; rfl
  by_cases k14 : x.Ab = 14
  ·refine fin (decide (x.Ac = [])) 2 (by omega) ?_ ?_
   ·rw [Ju, c1, if_neg (by simpa using k13), if_pos (by simpa using k14), c2, op_if]
   ·rw [Jt, if_neg (by simpa using k13), if_pos (by simpa using k14), ex, opt_if]; rfl
  by_cases k17 : x.Ab = 17
  ·refine fin (decide (x.Ac = [])) 2 (by omega) ?_ ?_
   ·rw [Ju, c1, if_neg (by simpa using k13), if_neg (by simpa using k14), if_pos (by simpa using k17), c2, op_if]
   ·rw [Jt, if_neg (by simpa using k13), if_neg (by simpa using k14), if_pos (by simpa using k17), ex, opt_if]; rfl
  by_cases k18 : x.Ab = 18
  ·refine fin (decide (x.Ac = [])) 2 (by omega) ?_ ?_
   ·rw [Ju, c1, if_neg (by simpa using k13), if_neg (by simpa using k14), if_neg (by simpa using k17), if_pos (by simpa using k18), c2, op_if]
   ·rw [Jt, if_neg (by simpa using k13), if_neg (by simpa using k14), if_neg (by simpa using k17), if_pos (by simpa using k18), ex, opt_if]; rfl
  by_cases k19 : x.Ab = 19
  ·refine fin (decide (x.Ac = [])) 2 (by omega) ?_ ?_
   ·rw [Ju, c1, if_neg (by simpa using k13), if_neg (by simpa using k14), if_neg (by simpa using k17), if_neg (by simpa using k18), if_pos (by simpa using k19), c2, op_if]
   ·rw [Jt, if_neg (by simpa using k13), if_neg (by simpa using k14), if_neg (by simpa using k17), if_neg (by simpa using k18), if_pos (by simpa using k19), ex, opt_if]; rfl
  by_cases k15 : x.Ab = 15
  ·refine fin (decide (x.Ac = [])) 1 (by omega) ?_ ?_
   ·rw [Ju, c1, if_neg (by simpa using k13), if_neg (by simpa using k14), if_neg (by simpa using k17), if_neg (by simpa using k18), if_neg (by simpa using k19), if_pos (by simpa using k15), c2, op_if]
   ·rw [Jt, if_neg (by simpa using k13), if_neg (by simpa using k14), if_neg (by simpa using k17), if_neg (by simpa using k18), if_neg (by simpa using k19), if_pos (by simpa using k15), ex, opt_if]; rfl
  by_cases k16 : x.Ab = 16
  ·refine fin (cmp x.Ac) 2 (by omega) ?_ ?_
   ·rw [Ju, c1, if_neg (by simpa using k13), if_neg (by simpa using k14), if_neg (by simpa using k17), if_neg (by simpa using k18), if_neg (by simpa using k19), if_neg (by simpa using k15), if_pos (by simpa using k16), c2, ← op_if]
    have e := compares_eq x.Ac
    cases q : JaG 4 x.Ac with
    | none => rw [q] at e; cases e
    | some v =>
     rw [q, Option.bind_some] at e
     rw [Option.bind_some, e, Option.bind_some]
   ·rw [Jt, if_neg (by simpa using k13), if_neg (by simpa using k14), if_neg (by simpa using k17), if_neg (by simpa using k18), if_neg (by simpa using k19), if_neg (by simpa using k15), if_pos (by simpa using k16), compares2_eq, Option.bind_some, ex, opt_if]; rfl
  by_cases k20 : x.Ab = 20
  ·refine fin (nmr x.Ac) 0 (by omega) ?_ ?_
   ·rw [Ju, c1, if_neg (by simpa using k13), if_neg (by simpa using k14), if_neg (by simpa using k17), if_neg (by simpa using k18), if_neg (by simpa using k19), if_neg (by simpa using k15), if_neg (by simpa using k16), if_pos (by simpa using k20), c2, digits_eq h1, Option.bind_some, op_if]
   ·rw [Jt, if_neg (by simpa using k13), if_neg (by simpa using k14), if_neg (by simpa using k17), if_neg (by simpa using k18), if_neg (by simpa using k19), if_neg (by simpa using k15), if_neg (by simpa using k16), if_pos (by simpa using k20), (token1_eq (by omega)).2, Option.bind_some, ← hb0]
  by_cases k21 : x.Ab = 21
  ·refine fin (prt x.Ac) 0 (by omega) ?_ ?_
   ·rw [Ju, c1, if_neg (by simpa using k13), if_neg (by simpa using k14), if_neg (by simpa using k17), if_neg (by simpa using k18), if_neg (by simpa using k19), if_neg (by simpa using k15), if_neg (by simpa using k16), if_neg (by simpa using k20), if_pos (by simpa using k21), c2, printable_eq h1, Option.bind_some, op_if]
   ·rw [Jt, if_neg (by simpa using k13), if_neg (by simpa using k14), if_neg (by simpa using k17), if_neg (by simpa using k18), if_neg (by simpa using k19), if_neg (by simpa using k15), if_neg (by simpa using k16), if_neg (by simpa using k20), if_pos (by simpa using k21), printable2_eq h1, Option.bind_some, ← hb0]
  by_cases k22 : x.Ab = 22
  ·refine fin (decide (x.Ac = ([116, 114, 117, 101] : Str)) || decide (x.Ac = ([102, 97, 108, 115, 101] : Str))) 0 (by omega) ?_ ?_
   ·rw [Ju, c1, if_neg (by simpa using k13), if_neg (by simpa using k14), if_neg (by simpa using k17), if_neg (by simpa using k18), if_neg (by simpa using k19), if_neg (by simpa using k15), if_neg (by simpa using k16), if_neg (by simpa using k20), if_neg (by simpa using k21), if_pos (by simpa using k22), c2, op_if]
   ·rw [Jt, if_neg (by simpa using k13), if_neg (by simpa using k14), if_neg (by simpa using k17), if_neg (by simpa using k18), if_neg (by simpa using k19), if_neg (by simpa using k15), if_neg (by simpa using k16), if_neg (by simpa using k20), if_neg (by simpa using k21), if_pos (by simpa using k22), ← hb0]
  by_cases k23 : x.Ab = 23
  ·refine fin (nm x.Ac) 0 (by omega) ?_ ?_
   ·rw [Ju, c1, if_neg (by simpa using k13), if_neg (by simpa using k14), if_neg (by simpa using k17), if_neg (by simpa using k18), if_neg (by simpa using k19), if_neg (by simpa using k15), if_neg (by simpa using k16), if_neg (by simpa using k20), if_neg (by simpa using k21), if_neg (by simpa using k22), if_pos (by simpa using k23), c2, named_eq (by omega), Option.bind_some, op_if]
   ·rw [Jt, if_neg (by simpa using k13), if_neg (by simpa using k14), if_neg (by simpa using k17), if_neg (by simpa using k18), if_neg (by simpa using k19), if_neg (by simpa using k15), if_neg (by simpa using k16), if_neg (by simpa using k20), if_neg (by simpa using k21), if_neg (by simpa using k22), if_pos (by simpa using k23), named2_eq (by omega), Option.bind_some, ← hb0]
  by_cases k24 : x.Ab = 24
  ·refine ⟨nm x.Ac && b, ?_, ?_⟩
   ·rw [Jt, if_neg (by simpa using k13), if_neg (by simpa using k14), if_neg (by simpa using k17), if_neg (by simpa using k18), if_neg (by simpa using k19), if_neg (by simpa using k15), if_neg (by simpa using k16), if_neg (by simpa using k20), if_neg (by simpa using k21), if_neg (by simpa using k22), if_neg (by simpa using k23), if_pos (by simpa using k24), named2_eq (by omega), Option.bind_some, ex, opt_if, decide_eq_true rfl, Bool.and_true]; rfl
   ·have ho : Ju n y = some (if nm x.Ac = true then -1 else -2) := by
     rw [Ju, c1, if_neg (by simpa using k13), if_neg (by simpa using k14), if_neg (by simpa using k17), if_neg (by simpa using k18), if_neg (by simpa using k19), if_neg (by simpa using k15), if_neg (by simpa using k16), if_neg (by simpa using k20), if_neg (by simpa using k21), if_neg (by simpa using k22), if_neg (by simpa using k23), if_pos (by simpa using k24), c2, named_eq (by omega), Option.bind_some, op_if]
    rw [exprT ho (by omega) b2]
    cases nm x.Ac with
    | false => rfl
    | true => rw [if_pos rfl, if_neg (by omega), if_neg (by omega), Bool.true_and]
  ·refine ⟨false, ?_, ?_⟩
   ·rw [Jt, if_neg (by simpa using k13), if_neg (by simpa using k14), if_neg (by simpa using k17), if_neg (by simpa using k18), if_neg (by simpa using k19), if_neg (by simpa using k15), if_neg (by simpa using k16), if_neg (by simpa using k20), if_neg (by simpa using k21), if_neg (by simpa using k22), if_neg (by simpa using k23), if_neg (by simpa using k24)]
   ·have ho : Ju n y = some (-2) := by
     rw [Ju, c1, if_neg (by simpa using k13), if_neg (by simpa using k14), if_neg (by simpa using k17), if_neg (by simpa using k18), if_neg (by simpa using k19), if_neg (by simpa using k15), if_neg (by simpa using k16), if_neg (by simpa using k20), if_neg (by simpa using k21), if_neg (by simpa using k22), if_neg (by simpa using k23), if_neg (by simpa using k24)]
    rw [exprT ho (by omega) b2]; rfl
theorem Sm.ix {f : N → Option Bool} {g : M → Option Bool} {l : List N} {k : List M} (h : A2 (Sm f g) l k) {i : Int} (h0 : 0 ≤ i) (h1 : i < (l.length : Int)) : ∃ a b r, ix l i = some a ∧ ix k i = some b ∧ f a = some r ∧ g b = some r := by
 induction h generalizing i with
 | nil => simp at h1; omega
 | cons hp _ ih =>
  rename_i a b l k _
  simp only [List.length_cons] at h1
  by_cases q : i = 0
  ·subst q
   obtain ⟨r, h2, h3⟩ := hp
   exact ⟨a, b, r, rfl, rfl, h2, h3⟩
  ·obtain ⟨a', b', r, e1, e2, e3, e4⟩ := ih (i := i - 1) (by omega) (by omega)
   have st : ∀ {α : Type} (x : α) (t : List α), Go.SL.ix (x :: t) i = Go.SL.ix t (i - 1) := fun x t => by
    unfold Go.SL.ix
    rw [if_pos h0, if_pos (by omega), show i.toNat = (i - 1).toNat + 1 from by omega, List.getElem?_cons_succ]
   exact ⟨a', b', r, by rw [st, e1], by rw [st, e2], e3, e4⟩
theorem A2.ix {α β : Type} {P : α → β → Prop} {l : List α} {k : List β} (h : A2 P l k) {i : Int} (h0 : 0 ≤ i) (h1 : i < (l.length : Int)) : ∃ a b, ix l i = some a ∧ ix k i = some b ∧ P a b ∧ a ∈ l := by
 induction h generalizing i with
 | nil => simp at h1; omega
 | cons hp _ ih =>
  rename_i a b l k _
  simp only [List.length_cons] at h1
  by_cases q : i = 0
  ·subst q
   exact ⟨a, b, rfl, rfl, hp, by simp⟩
  ·obtain ⟨a', b', e1, e2, e3, e4⟩ := ih (i := i - 1) (by omega) (by omega)
   have st : ∀ {α : Type} (x : α) (t : List α), Go.SL.ix (x :: t) i = Go.SL.ix t (i - 1) := fun x t => by
    unfold Go.SL.ix
    rw [if_pos h0, if_pos (by omega), show i.toNat = (i - 1).toNat + 1 from by omega, List.getElem?_cons_succ]
   exact ⟨a', b', by rw [st, e1], by rw [st, e2], e3, by simp [e4]⟩
theorem all_val {m n : Nat} {l : List N} {b : Bool} (hl : l.length ≤ 3000) (hb : JbV (JbE m) m l 0 = some (gor b)) : JbE (m + 1) l = some b := by
 rw [JbE, chk_bind (by simp only [szMax]; omega), hb, Option.bind_some, gor_el, Bool.and_true]
theorem blocked_val {g : M → Option Bool} {n : Nat} {y : M} {b : Bool} (hl : y.Aa.length ≤ 3000) (hb : JU g y.Aa 0 = some (gor b)) : JaF g n y = some ((decide (y.Ab = 12) && decide (y.Ac = [])) && b) := by
 unfold JaF
 by_cases q : y.Ab = 12
 ·by_cases q2 : y.Ac = []
  ·rw [if_neg (by simp [q, q2]), chk_bind (by simp only [szMax]; omega), hb, Option.bind_some, gor_el, decide_eq_true q, decide_eq_true q2]; cases b <;> rfl
  ·rw [if_pos (by simp [q2]), decide_eq_false q2, Bool.and_false, Bool.false_and]
 ·rw [if_pos (by simp [q]), decide_eq_false q, Bool.false_and, Bool.false_and]
theorem neg_if {c : Bool} {A : Option Bool} : (if (!c) = true then some false else A) = if c = true then A else some false := by cases c <;> rfl
theorem stated_rel : ∀ (d m f n : Nat) (x : N) (y : M), OkN d x → Cvd d x y → d + 10000 ≤ m → d + 10000 ≤ f → d + 10000 ≤ n → Sm (J4 (JbE m) f) (Jr n) x y
 | d + 1, m, 0, n, x, y, h, hc, hm, hf, hn => by omega
 | d + 1, m, f + 1, 0, x, y, h, hc, hm, hf, hn => by omega
 | d + 1, 0, f + 1, n + 1, x, y, h, hc, hm, hf, hn => by omega
 | d + 1, m + 1, f + 1, n + 1, x, y, h, hc, hm, hf, hn => by
  obtain ⟨h1, h2, h3⟩ := h
  obtain ⟨c1, c2, c3, c4⟩ := hc
  have hlen := c4.len
  have ex : ∀ {i : Int}, 0 ≤ i → i < (x.Aa.length : Int) → ∃ a b r, ix x.Aa i = some a ∧ ix y.Aa i = some b ∧ Jt f a = some r ∧ Jq n b = some r := fun h0 hi =>
   Sm.ix (c4.imp_mem fun a ha q hq => expression_rel d f n a q (h3 a ha) hq (by omega) (by omega)) h0 hi
  have bl : ∀ {i : Int}, 0 ≤ i → i < (x.Aa.length : Int) → ∃ a b r, ix x.Aa i = some a ∧ ix y.Aa i = some b ∧ Jcz (JbE (m + 1)) f a = some r ∧ JaF (Jr n) n b = some r := fun {i} h0 hi => by
   obtain ⟨a, b, e1, e2, hp, ha⟩ := c4.ix h0 hi
   refine ⟨a, b, ?_⟩
   have ho := h3 a ha
   cases d with
   | zero => exact ho.elim
   | succ d =>
    obtain ⟨g1, g2, g3⟩ := ho
    obtain ⟨q1, q2, q3, q4⟩ := hp
    obtain ⟨v, v1, v2⟩ := all_L0_rel (g := Jr n) (m := m) (n := m) (q4.imp_mem fun a ha q hq => stated_rel d m m n a q (g3 a ha) hq (by omega) (by omega) (by omega)) 0 0
    refine ⟨(decide (a.Ab = 12) && decide (a.Ac = [])) && v, e1, e2, ?_, ?_⟩
    ·unfold Jcz
     rw [all_val (n := n) (by omega) v1, opt_if]; rfl
    ·rw [blocked_val (by rw [q4.len]; omega) v2, q1, q2]
  have st : ∀ {i : Int}, 0 ≤ i → i < (x.Aa.length : Int) → ∃ a b r, ix x.Aa i = some a ∧ ix y.Aa i = some b ∧ b.Ab = a.Ab ∧ J4 (JbE (m + 1)) f a = some r ∧ Jr n b = some r := fun {i} h0 hi => by
   obtain ⟨a, b, e1, e2, hp, ha⟩ := c4.ix h0 hi
   obtain ⟨r, r1, r2⟩ := stated_rel d (m + 1) f n a b (h3 a ha) hp (by omega) (by omega) (by omega)
   cases d with
   | zero => exact (h3 a ha).elim
   | succ d => exact ⟨a, b, r, e1, e2, hp.1, r1, r2⟩
  have one : ∃ b : Bool, (∀ c : Bool, (if c = true then (Jag (Jt f) f x.Aa 1).bind fun x85 => some x85 else some false) = some (c && b)) ∧
    ((if decide ((y.Aa.length : Int) = 1) then (ix y.Aa 0).bind fun x121 => (Jq n x121).bind fun x123 => some x123 else some false).bind fun x124 => some x124) = some b := by
   by_cases q : (x.Aa.length : Int) = 1
   ·obtain ⟨a, b, r, e1, e2, e3, e4⟩ := ex (i := 0) (by omega) (by omega)
    refine ⟨r, fun c => ?_, ?_⟩
    ·have hx : x.Aa = [a] := by
      match hk : x.Aa, q, e1 with
      | [z], _, e1 => cases e1; rfl
     have hb : JaJ (Jt f) x.Aa 0 = some (gor r) := by
      rw [hx, JaJ, e3, Option.bind_some]; cases r <;> rfl
     rw [exprs_val (by omega) hb, decide_eq_true q, Bool.and_true, opt_if]
    ·rw [hlen, if_pos (by simpa using q), e2, Option.bind_some, e4]; rfl
   ·obtain ⟨b, b1, b2, b3⟩ := exprs_L0_rel (c4.imp_mem fun a ha q hq => expression_rel d f n a q (h3 a ha) hq (by omega) (by omega)) 0 0
    refine ⟨false, fun c => ?_, ?_⟩
    ·rw [exprs_val (by omega) b1, decide_eq_false q, Bool.and_false, opt_if]
    ·rw [hlen, if_neg (by simpa using q)]; rfl
  obtain ⟨B, B1, B2⟩ := one
  by_cases k2 : x.Ab = 2
  ·unfold Sm
   have d2 : decide (x.Ab = 2) = true := decide_eq_true k2
   rw [J4, Jr, c1, c2, hlen, if_pos d2, if_pos d2]
   cases q : ((decide (x.Ac ≠ ([] : Str)) || decide ((x.Aa.length : Int) < 2)) || decide ((x.Aa.length : Int) > 3)) with
   | true => exact ⟨false, rfl, rfl⟩
   | false =>
    simp only [Bool.or_eq_false_iff, decide_eq_false_iff_not] at q
    obtain ⟨a0, b0, r0, e1, e2, e3, e4⟩ := ex (i := 0) (by omega) (by omega)
    simp only [Bool.false_eq_true, if_false]
    rw [e1, e2]
    simp only [Option.bind_some]
    rw [e3, e4]
    simp only [Option.bind_some]
    cases r0 with
    | false => exact ⟨false, rfl, rfl⟩
    | true =>
     obtain ⟨a1, b1, r1, f1, f2, f3, f4⟩ := bl (i := 1) (by omega) (by omega)
     simp only [Option.bind_some, Bool.not_true, Bool.false_eq_true, if_false]
     rw [f1, f2]
     simp only [Option.bind_some]
     rw [f3, f4]
     simp only [Option.bind_some]
     cases r1 with
     | false => exact ⟨false, rfl, rfl⟩
     | true =>
      simp only [Option.bind_some, Bool.not_true, Bool.false_eq_true, if_false]
      by_cases k3 : (x.Aa.length : Int) = 2
      ·rw [decide_eq_true k3]; exact ⟨true, rfl, rfl⟩
      ·obtain ⟨a2, b2, r2, g1, g2, g3, g4⟩ := bl (i := 2) (by omega) (by omega)
       obtain ⟨a3, b3, r3, g5, g6, g7, g8, g9⟩ := st (i := 2) (by omega) (by omega)
       rw [g1] at g5
       rw [g2] at g6
       cases g5
       cases g6
       rw [decide_eq_false k3]
       simp only [Bool.false_eq_true, if_false]
       rw [g1, g2]
       simp only [Option.bind_some]
       rw [g3, g4]
       simp only [Option.bind_some]
       cases r2 with
       | true => exact ⟨true, rfl, rfl⟩
       | false =>
        simp only [Bool.false_eq_true, if_false]
        rw [g7]
        cases q3 : decide (a2.Ab = 2) with
        | false => exact ⟨false, rfl, rfl⟩
        | true =>
         simp only [if_true]
         rw [g8, g9]
         exact ⟨r3, rfl, rfl⟩
  by_cases k3 : x.Ab = 3
  ·refine ⟨nm x.Ac && B, ?_, ?_⟩
   ·rw [J4, if_neg (by simpa using k2), if_pos (by simpa using k3), named2_eq (by omega), Option.bind_some, B1]; rfl
   ·rw [Jr, c1, c2, if_neg (by simpa using k2), if_neg (by simp [k3]), if_neg (by simp [k3]), if_neg (by simp [k3]), if_pos (by simpa using k3), named_eq (by omega), Option.bind_some, neg_if, B2]
    cases nm x.Ac <;> rfl
  by_cases k4 : x.Ab = 4
  ·refine ⟨(decide (x.Ac = ([112, 97, 116, 104] : Str)) || decide (x.Ac = ([113, 117, 101, 114, 121] : Str))) && B, ?_, ?_⟩
   ·rw [J4, if_neg (by simpa using k2), if_neg (by simpa using k3), if_pos (by simpa using k4), B1]; rfl
   ·rw [Jr, c1, c2, if_neg (by simpa using k2), if_neg (by simp [k4]), if_neg (by simp [k4]), if_neg (by simp [k4]), if_neg (by simpa using k3), if_pos (by simpa using k4), B2]
    by_cases t1 : x.Ac = ([112, 97, 116, 104] : Str)
    ·rw [if_neg (by simp [t1]), decide_eq_true t1]; rfl
    ·by_cases t2 : x.Ac = ([113, 117, 101, 114, 121] : Str)
     ·rw [if_neg (by simp [t2]), decide_eq_true t2, Bool.or_true]; rfl
     ·rw [if_pos (by simp [t1, t2]), decide_eq_false t1, decide_eq_false t2]; rfl
  by_cases k5 : x.Ab = 5
  ·refine ⟨prt x.Ac && B, ?_, ?_⟩
   ·rw [J4, if_neg (by simpa using k2), if_neg (by simpa using k3), if_neg (by simpa using k4), if_pos (by simpa using k5), printable2_eq h1, Option.bind_some, B1]; rfl
   ·rw [Jr, c1, c2, if_neg (by simpa using k2), if_neg (by simp [k5]), if_neg (by simp [k5]), if_neg (by simp [k5]), if_neg (by simpa using k3), if_neg (by simpa using k4), if_pos (by simpa using k5), printable_eq h1, Option.bind_some, neg_if, B2]
    cases prt x.Ac <;> rfl
  by_cases k6 : x.Ab = 6
  ·refine ⟨prt x.Ac && decide ((x.Aa.length : Int) = 0), ?_, ?_⟩
   ·rw [J4, if_neg (by simpa using k2), if_neg (by simpa using k3), if_neg (by simpa using k4), if_neg (by simpa using k5), if_pos (by simpa using k6), printable2_eq h1, Option.bind_some]
   ·rw [Jr, c1, c2, hlen, if_neg (by simpa using k2), if_pos (by simpa using k6), printable_eq h1, Option.bind_some]
  have txt : ∀ {C : Option Bool}, (if decide (x.Ac ≠ ([] : Str)) = true then some false else C) = if decide (x.Ac = ([] : Str)) = true then C else some false := fun {C} => by
   by_cases q : x.Ac = []
   ·rw [if_neg (by simp [q]), if_pos (by simpa using q)]
   ·rw [if_pos (by simpa using q), if_neg (by simpa using q)]
  by_cases k7 : x.Ab = 7
  ·refine ⟨decide (x.Ac = []) && B, ?_, ?_⟩
   ·rw [J4, if_neg (by simpa using k2), if_neg (by simpa using k3), if_neg (by simpa using k4), if_neg (by simpa using k5), if_neg (by simpa using k6), if_pos (by simpa using k7), B1]; rfl
   ·rw [Jr, c1, c2, if_neg (by simpa using k2), if_neg (by simpa using k6), if_neg (by simp [k7]), if_neg (by simp [k7]), if_neg (by simpa using k3), if_neg (by simpa using k4), if_neg (by simpa using k5), if_pos (by simpa using k7), txt, B2]
    cases decide (x.Ac = []) <;> rfl
  by_cases k8 : x.Ab = 8
  ·refine ⟨decide (x.Ac = []) && B, ?_, ?_⟩
   ·rw [J4, if_neg (by simpa using k2), if_neg (by simpa using k3), if_neg (by simpa using k4), if_neg (by simpa using k5), if_neg (by simpa using k6), if_neg (by simpa using k7), if_pos (by simpa using k8), B1]; rfl
   ·rw [Jr, c1, c2, if_neg (by simpa using k2), if_neg (by simpa using k6), if_neg (by simp [k8]), if_neg (by simp [k8]), if_neg (by simpa using k3), if_neg (by simpa using k4), if_neg (by simpa using k5), if_neg (by simpa using k7), if_pos (by simpa using k8), txt, B2]
    cases decide (x.Ac = []) <;> rfl
  by_cases k9 : x.Ab = 9
  ·refine ⟨decide (x.Ac = []) && B, ?_, ?_⟩
   ·rw [J4, if_neg (by simpa using k2), if_neg (by simpa using k3), if_neg (by simpa using k4), if_neg (by simpa using k5), if_neg (by simpa using k6), if_neg (by simpa using k7), if_neg (by simpa using k8), if_pos (by simpa using k9), B1]; rfl
   ·rw [Jr, c1, c2, if_neg (by simpa using k2), if_neg (by simpa using k6), if_neg (by simp [k9]), if_neg (by simp [k9]), if_neg (by simpa using k3), if_neg (by simpa using k4), if_neg (by simpa using k5), if_neg (by simpa using k7), if_neg (by simpa using k8), if_pos (by simpa using k9), txt, B2]
    cases decide (x.Ac = []) <;> rfl
  by_cases k10 : x.Ab = 10
  ·refine ⟨decide (x.Ac = []) && decide ((x.Aa.length : Int) = 0), ?_, ?_⟩
   ·rw [J4, if_neg (by simpa using k2), if_neg (by simpa using k3), if_neg (by simpa using k4), if_neg (by simpa using k5), if_neg (by simpa using k6), if_neg (by simpa using k7), if_neg (by simpa using k8), if_neg (by simpa using k9), if_pos (by simpa using k10)]
   ·rw [Jr, c1, c2, hlen, if_neg (by simpa using k2), if_neg (by simpa using k6), if_pos (by simpa using k10)]
  by_cases k11 : x.Ab = 11
  ·refine ⟨decide (x.Ac = []) && decide ((x.Aa.length : Int) = 0), ?_, ?_⟩
   ·rw [J4, if_neg (by simpa using k2), if_neg (by simpa using k3), if_neg (by simpa using k4), if_neg (by simpa using k5), if_neg (by simpa using k6), if_neg (by simpa using k7), if_neg (by simpa using k8), if_neg (by simpa using k9), if_neg (by simpa using k10), if_pos (by simpa using k11)]
   ·rw [Jr, c1, c2, hlen, if_neg (by simpa using k2), if_neg (by simpa using k6), if_neg (by simpa using k10), if_pos (by simpa using k11)]
  ·refine ⟨false, ?_, ?_⟩
   ·rw [J4, if_neg (by simpa using k2), if_neg (by simpa using k3), if_neg (by simpa using k4), if_neg (by simpa using k5), if_neg (by simpa using k6), if_neg (by simpa using k7), if_neg (by simpa using k8), if_neg (by simpa using k9), if_neg (by simpa using k10), if_neg (by simpa using k11)]
   ·rw [Jr, c1, if_neg (by simpa using k2), if_neg (by simpa using k6), if_neg (by simpa using k10), if_neg (by simpa using k11), if_neg (by simpa using k3), if_neg (by simpa using k4), if_neg (by simpa using k5), if_neg (by simpa using k7), if_neg (by simpa using k8), if_neg (by simpa using k9)]
theorem size_L0 {f : N → Option Int} {d : Nat} : ∀ (l : List N) (i : Nat) (y : Int), (∀ k ∈ l, f k = some (cntN d k : Int)) → 0 ≤ y → y + cntNL d l ≤ 1000000 → JbB f l i y = some (y + cntNL d l)
 | [], i, y, _, _, _ => by simp [JbB, cntNL]
 | k :: l, i, y, h, h0, hy => by
  rw [cntNL_cons] at hy
  rw [JbB, h k (by simp), Option.bind_some, chk_bind (by constructor <;> omega), size_L0 l (i + 1) _ (fun q hq => h q (by simp [hq])) (by omega) (by omega), cntNL_cons]
  congr 1; omega
theorem cntNL_mem {d : Nat} : ∀ {l : List N} {k : N}, k ∈ l → cntN d k ≤ cntNL d l
 | a :: l, k, h => by
  rw [cntNL_cons]
  rcases List.mem_cons.1 h with rfl | h
  ·omega
  ·have := cntNL_mem (d := d) h; omega
theorem size_val : ∀ (d n : Nat) (x : N), OkN d x → d ≤ n → cntN d x ≤ 10000 → Jcy n x = some (cntN d x : Int)
 | d + 1, 0, x, h, hn, hc => by omega
 | d + 1, n + 1, x, h, hn, hc => by
  obtain ⟨h1, h2, h3⟩ := h
  rw [cntN_eq] at hc
  rw [Jcy, chk_bind (by simp only [szMax]; omega), size_L0 x.Aa 0 1 (fun k hk => size_val d n k (h3 k hk) (by omega) (by have := cntNL_mem (d := d) hk; omega)) (by omega) (by omega), Option.bind_some, cntN_eq]
  congr 1
def depN : Nat → N → Nat
 | 0, _ => 0
 | d + 1, x => 1 + x.Aa.foldl (fun a k => max a (depN d k)) 0
def depNL (d : Nat) (l : List N) (a : Nat) : Nat := l.foldl (fun a k => max a (depN d k)) a
theorem depNL_le (d : Nat) : ∀ (l : List N) (a e : Nat), depNL d l a ≤ e ↔ a ≤ e ∧ ∀ k ∈ l, depN d k ≤ e
 | [], a, e => by simp [depNL]
 | k :: l, a, e => by
  show depNL d l (max a (depN d k)) ≤ e ↔ _
  rw [depNL_le d l]
  simp only [List.mem_cons, Nat.max_le]
  constructor
  ·exact fun ⟨⟨h1, h2⟩, h3⟩ => ⟨h1, fun q hq => hq.elim (fun e => e ▸ h2) (h3 q)⟩
  ·exact fun ⟨h1, h2⟩ => ⟨⟨h1, h2 k (.inl rfl)⟩, fun q hq => h2 q (.inr hq)⟩
theorem depN_le : ∀ (d : Nat) (x : N), depN d x ≤ d
 | 0, x => Nat.le_refl _
 | d + 1, x => by
  have : depNL d x.Aa 0 ≤ d := (depNL_le d x.Aa 0 d).2 ⟨by omega, fun k _ => depN_le d k⟩
  show 1 + depNL d x.Aa 0 ≤ d + 1
  omega
theorem depth_L0 {f : N → Option Int} {d : Nat} : ∀ (l : List N) (i a : Nat), (∀ k ∈ l, f k = some (depN d k : Int)) → JbL f l i (a : Int) = some (depNL d l a : Int)
 | [], i, a, _ => rfl
 | k :: l, i, a, h => by
  rw [JbL, h k (by simp), Option.bind_some, show max (a : Int) (depN d k : Int) = ((max a (depN d k) : Nat) : Int) from by omega]
  exact depth_L0 l (i + 1) _ fun q hq => h q (by simp [hq])
theorem depth_val : ∀ (d n : Nat) (x : N), OkN d x → d ≤ n → d ≤ 1000 → Jce n x = some (depN d x : Int)
 | d + 1, 0, x, h, hn, hd => by omega
 | d + 1, n + 1, x, h, hn, hd => by
  obtain ⟨h1, h2, h3⟩ := h
  have := depN_le (d + 1) x
  have e : depN (d + 1) x = 1 + depNL d x.Aa 0 := rfl
  rw [Jce, chk_bind (by simp only [szMax]; omega), show (0 : Int) = ((0 : Nat) : Int) from rfl, depth_L0 x.Aa 0 0 fun k hk => depth_val d n k (h3 k hk) (by omega) (by omega), Option.bind_some, chk_bind (by constructor <;> omega), e]
  congr 1; omega
theorem small_L0_val {d : Nat} {e : Int} {f : M → Int → Int → Option (Bool × Int)} (he : 0 < e ∧ e ≤ 1000) {l : List N} {k : List M} (h : A2 (fun x y => ∀ z : Int, 0 ≤ z → z ≤ 1000 → ∃ m, f y z (e - 1) = some (decide ((cntN d x : Int) ≤ z ∧ (depN d x : Int) ≤ e - 1), m) ∧ ((cntN d x : Int) ≤ z ∧ (depN d x : Int) ≤ e - 1 → m = z - cntN d x)) l k) :
  ∀ (i : Nat) (z : Int), 0 ≤ z → z ≤ 1000 → ∃ r, Jau e f k i z = some r ∧ ((cntNL d l : Int) ≤ z ∧ (∀ q ∈ l, (depN d q : Int) ≤ e - 1) → r = Fl.go (z - cntNL d l)) ∧ (¬ ((cntNL d l : Int) ≤ z ∧ ∀ q ∈ l, (depN d q : Int) ≤ e - 1) → ∃ m, r = Fl.ret (false, m)) := by
 induction h with
 | nil => exact fun i z h0 h1 => ⟨_, rfl, fun _ => by simp [cntNL], fun h => (h ⟨by simpa [cntNL] using h0, by simp⟩).elim⟩
 | cons hp _ ih =>
  rename_i x y l k _
  intro i z h0 h1
  obtain ⟨m, e1, e2⟩ := hp z h0 h1
  rw [Jau, chk_bind (by constructor <;> omega), e1, Option.bind_some, cntNL_cons]
  by_cases q : (cntN d x : Int) ≤ z ∧ (depN d x : Int) ≤ e - 1
  ·obtain rfl := e2 q
   obtain ⟨r, r1, r2, r3⟩ := ih (i + 1) (z - cntN d x) (by omega) (by omega)
   rw [if_neg (by simp [q])]
   refine ⟨r, r1, fun g => ?_, fun g => ?_⟩
   ·rw [r2 ⟨by omega, fun q hq => g.2 q (by simp [hq])⟩]; congr 1; omega
   ·exact r3 fun g' => g ⟨by omega, fun p hp => by
     rcases List.mem_cons.1 hp with rfl | hp
     ·exact q.2
     ·exact g'.2 p hp⟩
  ·rw [if_pos (by simp only [decide_eq_false q]; rfl)]
   exact ⟨_, rfl, fun g => (q ⟨by omega, g.2 x (by simp)⟩).elim, fun _ => ⟨m, rfl⟩⟩
theorem small_val : ∀ (d n : Nat) (x : N) (y : M) (z e : Int), OkN d x → Cvd d x y → d ≤ n → 0 ≤ z → z ≤ 1000 → 0 ≤ e → e ≤ 1000 → ∃ m, Jas n y z e = some (decide ((cntN d x : Int) ≤ z ∧ (depN d x : Int) ≤ e), m) ∧ ((cntN d x : Int) ≤ z ∧ (depN d x : Int) ≤ e → m = z - cntN d x)
 | d + 1, 0, x, y, z, e, h, hc, hn, h0, h1, e0, e1 => by omega
 | d + 1, n + 1, x, y, z, e, h, hc, hn, h0, h1, e0, e1 => by
  obtain ⟨g1, g2, g3⟩ := h
  obtain ⟨c1, c2, c3, c4⟩ := hc
  have ed : depN (d + 1) x = 1 + depNL d x.Aa 0 := rfl
  rw [Jas, chk_bind (by constructor <;> omega), cntN_eq]
  cases q : (decide (z - 1 < 0) || decide (e < 1)) with
  | true =>
   rw [if_pos rfl]
   have : ¬ (((1 + cntNL d x.Aa : Nat) : Int) ≤ z ∧ ((depN (d + 1) x : Nat) : Int) ≤ e) := by
    simp only [Bool.or_eq_true, decide_eq_true_eq] at q
    omega
   exact ⟨z - 1, by rw [decide_eq_false this], fun h => absurd h this⟩
  | false =>
   simp only [Bool.or_eq_false_iff, decide_eq_false_iff_not] at q
   obtain ⟨r, r1, r2, r3⟩ := small_L0_val (d := d) (e := e) (f := Jas n) (by omega) (c4.imp_mem fun a ha b hb z y0 y1 => small_val d n a b z (e - 1) (g3 a ha) hb (by omega) y0 y1 (by omega) (by omega)) 0 (z - 1) (by omega) (by omega)
   rw [if_neg (by simp), chk_bind (by simp only [szMax]; rw [c4.len]; omega), r1, Option.bind_some]
   have key : (((1 + cntNL d x.Aa : Nat) : Int) ≤ z ∧ ((depN (d + 1) x : Nat) : Int) ≤ e) ↔ ((cntNL d x.Aa : Int) ≤ z - 1 ∧ ∀ q ∈ x.Aa, (depN d q : Int) ≤ e - 1) := by
    have hd := depNL_le d x.Aa 0 (e - 1).toNat
    constructor
    ·intro ⟨a1, a2⟩
     refine ⟨by omega, fun k hk => ?_⟩
     have := (hd.1 (by omega)).2 k hk
     omega
    ·intro ⟨a1, a2⟩
     refine ⟨by omega, ?_⟩
     have := hd.2 ⟨by omega, fun k hk => by have := a2 k hk; omega⟩
     omega
   by_cases q3 : (cntNL d x.Aa : Int) ≤ z - 1 ∧ ∀ q ∈ x.Aa, (depN d q : Int) ≤ e - 1
   ·rw [r2 q3, el_go]
    exact ⟨_, by rw [decide_eq_true (key.2 q3)], fun _ => by omega⟩
   ·obtain ⟨m, rfl⟩ := r3 q3
    have nk : ¬ (((1 + cntNL d x.Aa : Nat) : Int) ≤ z ∧ ((depN (d + 1) x : Nat) : Int) ≤ e) := fun h => q3 (key.1 h)
    rw [el_ret]
    exact ⟨m, by rw [decide_eq_false nk], fun h => absurd h nk⟩
theorem Valid_rel {d n : Nat} {x : N} {y : M} (h : OkN (d + 1) x) (hc : Cvd (d + 1) x y) (hd : d + 1 ≤ 1000) (hn : d + 10002 ≤ n) (hs : cntN (d + 1) x ≤ 10000) : Sm (JcR n) (Jab n) x y := by
 obtain ⟨m, hm1, hm2⟩ := small_val (d + 1) n x y 512 32 h hc (by omega) (by omega) (by omega) (by omega) (by omega)
 have hz := size_val (d + 1) n x h (by omega) hs
 have hp := depth_val (d + 1) n x h (by omega) (by omega)
 obtain ⟨k, rfl⟩ : ∃ k, n = k + 1 := ⟨n - 1, by omega⟩
 obtain ⟨g1, g2, g3⟩ := h
 obtain ⟨c1, c2, c3, c4⟩ := hc
 obtain ⟨v, v1, v2⟩ := all_L0_rel (g := Jr (k + 1)) (m := k) (n := k) (c4.imp_mem fun a ha q hq => stated_rel d k k (k + 1) a q (g3 a ha) hq (by omega) (by omega) (by omega)) 0 0
 unfold Sm JcR Jab
 rw [c1, c2]
 by_cases q1 : x.Ab = 1
 ·by_cases q2 : x.Ac = []
  ·rw [if_pos (by simp [q1, q2]), if_neg (by simp [q1, q2]), hz, hm1, Option.bind_some, Option.bind_some, Option.bind_some]
   by_cases q3 : (cntN (d + 1) x : Int) ≤ 512
   ·rw [if_pos (by simpa using q3), hp, Option.bind_some, Option.bind_some]
    by_cases q4 : (depN (d + 1) x : Int) ≤ 32
    ·rw [if_pos (by simpa using q4), if_neg (by simp [q3, q4]), chk_bind (by simp only [szMax]; rw [c4.len]; omega), all_val (n := k) (by omega) v1, valid_L0_blocked y.Aa 0 0, v2, Option.bind_some, Option.bind_some]
     refine ⟨v, rfl, ?_⟩
     rw [Option.bind_some, gor_el, Bool.and_true]
    ·rw [if_neg (by simpa using q4), if_pos (by simp; omega)]; exact ⟨false, rfl, rfl⟩
   ·rw [if_neg (by simpa using q3), if_pos (by simp; omega)]; exact ⟨false, rfl, rfl⟩
  ·rw [if_neg (by simp [q2]), if_pos (by simp [q2])]; exact ⟨false, rfl, rfl⟩
 ·rw [if_neg (by simp [q1]), if_pos (by simp [q1])]; exact ⟨false, rfl, rfl⟩
theorem fail_some {a e : Int} {x : M} {f : Err} : JH ⟨a, some e⟩ x f = some ⟨a, some e⟩ := rfl
theorem fail_new {a : Int} {x : M} {f : Err} : JH ⟨a, none⟩ x f = some ⟨x.Ad, f⟩ := rfl
theorem cexpr_L0_same {f : Ck → M → List Bd → Option (Int × Ck)} {env : List Bd} {a e : Int} (hf : ∀ k r, f ⟨a, some e⟩ k env = some r → r.2 = ⟨a, some e⟩) : ∀ (l : List M) (i : Nat) (y : List Int) (r : Fl (Int × Ck) (List Int × Int × Err)), JM f env l i y a (some e) = some r →
  (∀ z, r = Fl.ret z → z.2 = ⟨a, some e⟩) ∧ ∀ z, r = Fl.go z → z.2.1 = a ∧ z.2.2 = some e
 | [], i, y, r, h => by
  cases h
  exact ⟨fun z q => (by cases q), fun z q => by cases q; exact ⟨rfl, rfl⟩⟩
 | k :: l, i, y, r, h => by
  rw [JM] at h
  obtain ⟨x, hx, h1⟩ := bnd h
  obtain ⟨_, h2⟩ := chkb h1
  have hs := hf _ _ hx
  rw [hs, if_pos (by simp)] at h2
  cases h2
  exact ⟨fun z q2 => (by cases q2; rfl), fun z q => by cases q⟩
theorem call_same {a e : Int} {x : M} {l : List Int} {r : Int × Ck} (h : JV ⟨a, some e⟩ x l = some r) : r.2 = ⟨a, some e⟩ := by
 unfold JV at h
 obtain ⟨f, hf, h1⟩ := bnd h
 split at h1
 ·rw [fail_some] at h1; cases h1; rfl
 ·obtain ⟨b, hb, h2⟩ := bnd h1
  split at h2
  ·rw [fail_some] at h2; cases h2; rfl
  ·cases h2; rfl
theorem cexpr_same {env : List Bd} {a e : Int} : ∀ (n : Nat) (x : M) (r : Int × Ck), JD n ⟨a, some e⟩ x env = some r → r.2 = ⟨a, some e⟩
 | 0, x, r, h => by rw [JD] at h; cases h
 | n + 1, x, r, h => by
  rw [JD] at h
  obtain ⟨_, h1⟩ := chkb h
  obtain ⟨s, hs, h2⟩ := bnd h1
  obtain ⟨g1, g2⟩ := cexpr_L0_same (a := a) (e := e) (fun k r => cexpr_same n k r) x.Aa 0 [] s hs
  cases s with
  | ret z => rw [el_ret] at h2; cases h2; exact g1 _ rfl
  | go z =>
   obtain ⟨z1, z2, z3⟩ := z
   obtain ⟨k1, k2⟩ := g2 _ rfl
   simp only at k1 k2
   subst k1
   subst k2
   rw [el_go] at h2
   by_cases q20 : x.Ab = 20
   ·rw [if_pos (by simpa using q20)] at h2; cases h2; rfl
   rw [if_neg (by simpa using q20)] at h2
   by_cases q21 : x.Ab = 21
   ·rw [if_pos (by simpa using q21)] at h2; cases h2; rfl
   rw [if_neg (by simpa using q21)] at h2
   by_cases q22 : x.Ab = 22
   ·rw [if_pos (by simpa using q22)] at h2; cases h2; rfl
   rw [if_neg (by simpa using q22)] at h2
   by_cases q23 : x.Ab = 23
   ·rw [if_pos (by simpa using q23)] at h2
    obtain ⟨u, hu, h3⟩ := bnd h2
    split at h3
    ·rw [fail_some] at h3; cases h3; rfl
    ·cases h3; rfl
   rw [if_neg (by simpa using q23)] at h2
   by_cases q24 : x.Ab = 24
   ·rw [if_pos (by simpa using q24)] at h2
    obtain ⟨u, hu, h3⟩ := bnd h2
    cases h3; exact call_same hu
   rw [if_neg (by simpa using q24)] at h2
   obtain ⟨u, hu, h3⟩ := bnd h2
   split at h3
   ·rw [fail_some] at h3; cases h3; rfl
   ·cases h3; rfl
theorem block_L0_same {n : Nat} {f : Ck → List M → List Bd → Option Ck} {a e : Int} : ∀ (l : List M) (i : Nat) (env : List Bd) (r : Fl Ck (List Bd × Int × Err)), Jp n f l i env a (some e) = some r →
  (∀ z, r = Fl.ret z → z = ⟨a, some e⟩) ∧ ∀ z, r = Fl.go z → z.2.1 = a ∧ z.2.2 = some e
 | [], i, env, r, h => by
  cases h
  exact ⟨fun z q => (by cases q), fun z q => by cases q; exact ⟨rfl, rfl⟩⟩
 | x :: l, i, env, r, h => by
  rw [Jp] at h
  cases q : decide ((x.Aa.length : Int) = 0) with
  | true => rw [q, if_pos rfl] at h; exact block_L0_same l (i + 1) env r h
  | false =>
   rw [q, if_neg (by simp)] at h
   obtain ⟨k, hk, h1⟩ := bnd h
   obtain ⟨t, ht, h2⟩ := bnd h1
   obtain ⟨nd, _, h3⟩ := bnd h2
   have hs := cexpr_same n _ _ ht
   rw [hs, if_neg (by simp), if_pos (by simp)] at h3
   cases h3
   exact ⟨fun z q3 => (by cases q3; rfl), fun z q => by cases q⟩
theorem block_same : ∀ (n : Nat) (a e : Int) (l : List M) (env : List Bd) (r : Ck), Jx n ⟨a, some e⟩ l env = some r → r = ⟨a, some e⟩
 | 0, a, e, l, env, r, h => by rw [Jx] at h; cases h
 | n + 1, a, e, l, env, r, h => by
  rw [Jx] at h
  obtain ⟨_, h1⟩ := chkb h
  obtain ⟨s, hs, h2⟩ := bnd h1
  obtain ⟨g1, g2⟩ := block_L0_same l 0 env s hs
  cases s with
  | ret z => rw [el_ret] at h2; cases h2; exact g1 _ rfl
  | go z =>
   rw [el_go] at h2; cases h2
   obtain ⟨k1, k2⟩ := g2 z rfl
   rw [k1, k2]
abbrev Env := Str → Int
abbrev Fault := Int × Int
def base : Env := fun s => if pre s then 1 else 0
def ext (ρ : Env) (s : Str) (t : Int) : Env := fun q => if s = q then t else ρ q
def lkf (env : List Bd) : Env := fun s => lk s env
theorem lkf_nil : lkf [] = base := rfl
theorem lkf_snoc (env : List Bd) (s : Str) (t : Int) : lkf (env ++ [⟨s, t⟩]) = ext (lkf env) s t := by
 funext q; exact lk_snoc q env ⟨s, t⟩
def kidsE (f : M → Except Fault Int) : List M → Except Fault (List Int)
 | [] => .ok []
 | k :: l => match f k with
  | .error e => .error e
  | .ok t => match kidsE f l with
   | .error e => .error e
   | .ok ts => .ok (t :: ts)
noncomputable def fnc (s : Str) : Int × Int := (J2 s).getD (0, 0)
noncomputable def opr (x : M) (ts : List Int) : Int := (JL x ts).getD 0
noncomputable def tyN (ρ : Env) (x : M) (ts : List Int) : Except Fault Int :=
 if x.Ab = 20 then .ok 2
 else if x.Ab = 21 then .ok 1
 else if x.Ab = 22 then .ok 3
 else if x.Ab = 23 then (if ρ x.Ac = 0 then .error (x.Ad, 8) else .ok (ρ x.Ac))
 else if x.Ab = 24 then (if (fnc x.Ac).2 = 0 then .error (x.Ad, 8) else if ts = [(fnc x.Ac).1] then .ok (fnc x.Ac).2 else .error (x.Ad, 9))
 else if opr x ts = 0 then .error (x.Ad, 9) else .ok (opr x ts)
noncomputable def tyE : Nat → Env → M → Except Fault Int
 | 0, _, _ => .error (0, 9)
 | d + 1, ρ, x => match kidsE (tyE d ρ) x.Aa with
  | .error e => .error e
  | .ok ts => tyN ρ x ts
theorem kidsE_len {f : M → Except Fault Int} : ∀ {l : List M} {ts : List Int}, kidsE f l = .ok ts → ts.length = l.length
 | [], ts, h => by cases h; rfl
 | k :: l, ts, h => by
  rw [kidsE] at h
  cases q : f k with
  | error e => rw [q] at h; cases h
  | ok t =>
   rw [q] at h
   simp only at h
   cases q2 : kidsE f l with
   | error e => rw [q2] at h; cases h
   | ok us => rw [q2] at h; cases h; simp [kidsE_len q2]
def Res (a : Int) (r : Except Fault Int) (t : Int) (c : Ck) : Prop := match r with
 | .ok v => t = v ∧ c = ⟨a, none⟩
 | .error e => c = ⟨e.1, some e.2⟩
theorem cexpr_L0_pure {f : Ck → M → List Bd → Option (Int × Ck)} {g : M → Except Fault Int} {env : List Bd} {a : Int} : ∀ (l : List M) (i : Nat) (y : List Int), (∀ k ∈ l, ∃ t c, f ⟨a, none⟩ k env = some (t, c) ∧ Res a (g k) t c) → y.length + l.length ≤ 1000 →
  ∃ r, JM f env l i y a none = some r ∧ match kidsE g l with
   | .ok ts => r = Fl.go (y ++ ts, a, none)
   | .error e => r = Fl.ret (0, ⟨e.1, some e.2⟩)
 | [], i, y, _, _ => ⟨_, rfl, by simp [kidsE]⟩
 | k :: l, i, y, h, hy => by
  simp only [List.length_cons] at hy
  obtain ⟨t, c, hr, hq⟩ := h k (by simp)
  rw [JM, hr, Option.bind_some, chk_bind (by simp only [lim, List.length_cons, List.length_nil]; omega), kidsE]
  unfold Res at hq
  cases q : g k with
  | error e =>
   rw [q] at hq
   simp only at hq
   subst hq
   exact ⟨_, if_pos rfl, rfl⟩
  | ok v =>
   rw [q] at hq
   simp only at hq
   obtain ⟨rfl, rfl⟩ := hq
   simp only [Option.isSome_none, Bool.false_eq_true, if_false]
   obtain ⟨r, hr, h2⟩ := cexpr_L0_pure (f := f) (g := g) (env := env) (a := a) l (i + 1) (y ++ [t]) (fun k hk => h k (by simp [hk])) (by simp only [List.length_append, List.length_cons, List.length_nil]; omega)
   refine ⟨r, hr, ?_⟩
   cases q2 : kidsE g l with
   | error e => rw [q2] at h2; exact h2
   | ok ts => rw [q2] at h2; rw [h2]; simp
theorem fnc_eq (s : Str) : J2 s = some (fnc s) := by
 obtain ⟨r, hr⟩ := function_ok s
 unfold fnc; rw [hr]; rfl
theorem opr_eq {x : M} {l : List Int} (h : l.length ≤ 1000) (h16 : x.Ab = 16 → l.length = 2) : JL x l = some (opr x l) := by
 obtain ⟨r, hr⟩ := operator_ok h h16
 unfold opr; rw [hr]; rfl
theorem call_pure {a : Int} {x : M} {l : List Int} : JV ⟨a, none⟩ x l = some ((fnc x.Ac).2, if (fnc x.Ac).2 = 0 then ⟨x.Ad, some 8⟩ else if l = [(fnc x.Ac).1] then ⟨a, none⟩ else ⟨x.Ad, some 9⟩) := by
 unfold JV
 rw [fnc_eq, Option.bind_some]
 by_cases q : (fnc x.Ac).2 = 0
 ·rw [if_pos (by simpa using q), fail_new, if_pos q]; rfl
 ·rw [if_neg (by simpa using q), if_neg q]
  match l with
  | [] => rw [if_pos (by simp), Option.bind_some, if_pos rfl, fail_new, if_neg (by simp)]; rfl
  | [t] =>
   rw [if_neg (by simp), show ix [t] 0 = some t from rfl, Option.bind_some, Option.bind_some]
   by_cases q2 : t = (fnc x.Ac).1
   ·rw [if_neg (by simpa using q2), if_pos (by rw [q2])]
   ·rw [if_pos (by simpa using q2), fail_new, if_neg (by simpa using q2)]; rfl
  | t :: u :: l => rw [if_pos (by simp; omega), Option.bind_some, if_pos rfl, fail_new, if_neg (by simp)]; rfl
theorem cexpr_pure {env : List Bd} (he : env.length ≤ 100000) {a : Int} : ∀ (d n m : Nat) (x : M), Ok d x → Jq m x = some true → d + 200000 ≤ n → ∃ t c, JD n ⟨a, none⟩ x env = some (t, c) ∧ Res a (tyE d (lkf env) x) t c
 | d + 1, 0, m, x, _, _, hn => by omega
 | d + 1, n + 1, m, x, h, hv, hn => by
  obtain ⟨h1, h2, h3⟩ := h
  obtain ⟨m', k, rfl, hk, k2, k3, k4⟩ := expression_inv hv
  obtain ⟨r, hr, hl⟩ := cexpr_L0_pure (f := JD n) (g := tyE d (lkf env)) (env := env) (a := a) x.Aa 0 [] (fun q hq => cexpr_pure he d n m' q (h3 q hq) (k4 q hq) (by omega)) (by simp <;> omega)
  rw [JD, chk_bind (by simp only [szMax]; omega), hr, Option.bind_some, tyE]
  cases q : kidsE (tyE d (lkf env)) x.Aa with
  | error e =>
   rw [q] at hl
   simp only at hl
   subst hl
   exact ⟨_, _, rfl, rfl⟩
  | ok ts =>
   rw [q] at hl
   simp only [List.nil_append] at hl
   subst hl
   have hlen := kidsE_len q
   simp only [el_go, tyN]
   by_cases q20 : x.Ab = 20
   ·rw [if_pos (by simpa using q20), if_pos q20]; exact ⟨_, _, rfl, rfl, rfl⟩
   rw [if_neg (by simpa using q20), if_neg q20]
   by_cases q21 : x.Ab = 21
   ·rw [if_pos (by simpa using q21), if_pos q21]; exact ⟨_, _, rfl, rfl, rfl⟩
   rw [if_neg (by simpa using q21), if_neg q21]
   by_cases q22 : x.Ab = 22
   ·rw [if_pos (by simpa using q22), if_pos q22]; exact ⟨_, _, rfl, rfl, rfl⟩
   rw [if_neg (by simpa using q22), if_neg q22]
   by_cases q23 : x.Ab = 23
   ·rw [if_pos (by simpa using q23), if_pos q23, lookup_eq he (by omega), Option.bind_some]
    by_cases q0 : lk x.Ac env = 0
    ·rw [if_pos (by simpa using q0), fail_new, Option.bind_some, if_pos (show lkf env x.Ac = 0 from q0)]; exact ⟨_, _, rfl, rfl⟩
    ·rw [if_neg (by simpa using q0), if_neg (show ¬ lkf env x.Ac = 0 from q0)]; exact ⟨_, _, rfl, rfl, rfl⟩
   rw [if_neg (by simpa using q23), if_neg q23]
   by_cases q24 : x.Ab = 24
   ·rw [if_pos (by simpa using q24), if_pos q24, call_pure, Option.bind_some]
    refine ⟨_, _, rfl, ?_⟩
    by_cases q0 : (fnc x.Ac).2 = 0
    ·rw [if_pos q0, if_pos q0]; rfl
    ·rw [if_neg q0, if_neg q0]
     by_cases q1 : ts = [(fnc x.Ac).1]
     ·rw [if_pos q1, if_pos q1]; exact ⟨rfl, rfl⟩
     ·rw [if_neg q1, if_neg q1]; rfl
   rw [if_neg (by simpa using q24), if_neg q24, opr_eq (by omega) fun h16 => by
    rcases operands_16 h16 hk with rfl | rfl
    ·have := k3 (by omega); omega
    ·exact absurd rfl k2]
   rw [Option.bind_some]
   by_cases q0 : opr x ts = 0
   ·rw [if_pos (by simpa using q0), fail_new, Option.bind_some, if_pos q0]; exact ⟨_, _, rfl, rfl⟩
   ·rw [if_neg (by simpa using q0), if_neg q0]; exact ⟨_, _, rfl, rfl, rfl⟩
def nds (k : Int) : Int := if k = 2 then 3 else if k = 4 then 1 else if k = 5 then 1 else if k = 7 then 1 else if k = 8 then 2 else if k = 9 then 2 else 0
theorem nds_eq (x : M) : JbK x = some (nds x.Ab) := by
 unfold JbK nds
 by_cases h1 : x.Ab = 2; · rw [if_pos (by simpa using h1), if_pos h1]
 rw [if_neg (by simpa using h1), if_neg h1]
 by_cases h2 : x.Ab = 4; · rw [if_pos (by simpa using h2), if_pos h2]
 rw [if_neg (by simpa using h2), if_neg h2]
 by_cases h3 : x.Ab = 5; · rw [if_pos (by simpa using h3), if_pos h3]
 rw [if_neg (by simpa using h3), if_neg h3]
 by_cases h4 : x.Ab = 7; · rw [if_pos (by simpa using h4), if_pos h4]
 rw [if_neg (by simpa using h4), if_neg h4]
 by_cases h5 : x.Ab = 8; · rw [if_pos (by simpa using h5), if_pos h5]
 rw [if_neg (by simpa using h5), if_neg h5]
 by_cases h6 : x.Ab = 9; · rw [if_pos (by simpa using h6), if_pos h6]
 rw [if_neg (by simpa using h6), if_neg h6]
def brn (k : M) : List M := if k.Ab = 12 then k.Aa else [k]
theorem brn_eq (k : M) : JaB k = some (brn k) := by
 unfold JaB brn
 by_cases h : k.Ab = 12
 ·rw [if_pos (by simpa using h), if_pos h]
 ·rw [if_neg (by simpa using h), if_neg h]
def foldS (g : Env → M → Except Fault Env) : Env → List M → Except Fault Env
 | ρ, [] => .ok ρ
 | ρ, x :: l => match g ρ x with
  | .error e => .error e
  | .ok ρ' => foldS g ρ' l
def brs (g : M → Except Fault Env) : List M → Option Fault
 | [] => none
 | k :: l => match g k with
  | .error e => some e
  | .ok _ => brs g l
noncomputable def stm : Nat → Env → M → Except Fault Env
 | 0, _, _ => .error (0, 9)
 | d + 1, ρ, x => match x.Aa with
  | [] => .ok ρ
  | k0 :: ks => match tyE d ρ k0 with
   | .error e => .error e
   | .ok t =>
    if nds x.Ab ≠ 0 ∧ t ≠ nds x.Ab then .error (x.Ad, 9)
    else if x.Ab = 3 then (if ρ x.Ac = 0 then .ok (ext ρ x.Ac t) else .error (x.Ad, 4))
    else if x.Ab = 2 then (match brs (fun k => foldS (stm d) ρ (brn k)) ks with
     | some e => .error e
     | none => .ok ρ)
    else .ok ρ
def fin (a : Int) (r : Except Fault Env) : Ck := match r with
 | .ok _ => ⟨a, none⟩
 | .error e => ⟨e.1, some e.2⟩
theorem L3_same {f : Ck → List M → List Bd → Option Ck} {env : List Bd} {a e : Int} (hs : ∀ l r, f ⟨a, some e⟩ l env = some r → r = ⟨a, some e⟩) : ∀ (l : List M) (i : Nat), (∀ k ∈ l, ∃ r, f ⟨a, some e⟩ (brn k) env = some r) → Jy f env l i a (some e) = some (a, some e)
 | [], i, _ => rfl
 | k :: l, i, h => by
  obtain ⟨r, hr⟩ := h k (by simp)
  have := hs _ _ hr
  rw [Jy, brn_eq, Option.bind_some, hr, Option.bind_some, this]
  exact L3_same hs l (i + 1) fun q hq => h q (by simp [hq])
theorem L3_pure {f : Ck → List M → List Bd → Option Ck} {g : M → Except Fault Env} {env : List Bd} {a : Int} (hs : ∀ a e l r, f ⟨a, some e⟩ l env = some r → r = ⟨a, some e⟩) : ∀ (l : List M) (i : Nat), (∀ k ∈ l, f ⟨a, none⟩ (brn k) env = some (fin a (g k))) → (∀ k ∈ l, ∀ c, ∃ r, f c (brn k) env = some r) →
  Jy f env l i a none = some (match brs g l with
   | none => (a, none)
   | some e => (e.1, some e.2))
 | [], i, _, _ => rfl
 | k :: l, i, h, h' => by
  rw [Jy, brn_eq, Option.bind_some, h k (by simp), Option.bind_some, brs]
  cases q : g k with
  | error e => exact L3_same (fun l r => hs _ _ l r) l (i + 1) fun q hq => h' q (by simp [hq]) _
  | ok ρ => exact L3_pure hs l (i + 1) (fun q hq => h q (by simp [hq])) fun q hq => h' q (by simp [hq])
theorem drop1 {α : Type} {x : α} {l : List α} : subL (x :: l) (1 : Int) (((x :: l).length : Nat) : Int) = l := by
 unfold subL
 rw [show ((1 : Int)).toNat = 1 from rfl, List.drop_succ_cons, List.drop_zero, List.take_of_length_le (by simp only [List.length_cons]; omega)]
set_option maxRecDepth 100000 in
theorem block_L0_pure {n d : Nat} {f : Ck → List M → List Bd → Option Ck} {a : Int} (hn : d + 200000 ≤ n)
  (hs : ∀ env a e l r, f ⟨a, some e⟩ l env = some r → r = ⟨a, some e⟩)
  (hf : ∀ (l : List M) (env : List Bd), (∀ x ∈ l, Gd d x) → l.length ≤ 700 → env.length + 701 * (d + 1) ≤ 90000 → f ⟨a, none⟩ l env = some (fin a (foldS (stm d) (lkf env) l)))
  (hx : ∀ (l : List M) (env : List Bd) (c : Ck), (∀ x ∈ l, Gd d x) → l.length ≤ 700 → env.length + 701 * (d + 1) ≤ 90000 → ∃ r, f c l env = some r) :
  ∀ (l : List M) (i : Nat) (env : List Bd), (∀ x ∈ l, Gd (d + 1) x) → env.length + l.length + 701 * (d + 1) ≤ 90000 →
   ∃ r, Jp n f l i env a none = some r ∧ match foldS (stm (d + 1)) (lkf env) l with
    | .ok ρ => ∃ env', r = Fl.go (env', a, none) ∧ lkf env' = ρ ∧ env'.length ≤ env.length + l.length
    | .error e => r = Fl.ret ⟨e.1, some e.2⟩
 | [], i, env, _, _ => ⟨_, rfl, env, rfl, rfl, by simp⟩
 | x :: l, i, env, hg, he => by
  simp only [List.length_cons] at he
  have hgl : ∀ x ∈ l, Gd (d + 1) x := fun q hq => hg q (by simp [hq])
  have rec_ : ∀ env', env'.length ≤ env.length + 1 → ∃ r, Jp n f l (i + 1) env' a none = some r ∧ match foldS (stm (d + 1)) (lkf env') l with
    | .ok ρ => ∃ env2, r = Fl.go (env2, a, none) ∧ lkf env2 = ρ ∧ env2.length ≤ env.length + (l.length + 1)
    | .error e => r = Fl.ret ⟨e.1, some e.2⟩ := fun env' h1 => by
   obtain ⟨r, hr, h2⟩ := block_L0_pure hn hs hf hx l (i + 1) env' hgl (by omega)
   refine ⟨r, hr, ?_⟩
   cases q : foldS (stm (d + 1)) (lkf env') l with
   | error e => rw [q] at h2; exact h2
   | ok ρ => rw [q] at h2; obtain ⟨e2, a1, a2, a3⟩ := h2; exact ⟨e2, a1, a2, by omega⟩
  obtain ⟨hok, m, hm⟩ := hg x (by simp)
  obtain ⟨m, rfl, hv0, hv2⟩ := stated_inv hm
  obtain ⟨o1, o2, o3⟩ := hok
  rw [Jp, foldS]
  simp only [List.length_cons]
  cases hk : x.Aa with
  | nil =>
   rw [if_pos (by simp), stm, hk]
   exact rec_ env (by omega)
  | cons k0 ks =>
   have hk0 : k0 ∈ x.Aa := by rw [hk]; simp
   obtain ⟨t, c, ht, hR⟩ := cexpr_pure (env := env) (by omega) (a := a) d n m k0 (o3 k0 hk0) (hv0 k0 (by rw [hk]; rfl)) (by omega)
   rw [if_neg (by simp; omega), show ix (k0 :: ks) 0 = some k0 from rfl, Option.bind_some, ht, Option.bind_some, nds_eq, Option.bind_some, stm, hk]
   simp only
   unfold Res at hR
   cases q : tyE d (lkf env) k0 with
   | error e =>
    rw [q] at hR
    simp only at hR
    subst hR
    rw [if_neg (by simp), if_pos (by simp)]
    exact ⟨_, rfl, rfl⟩
   | ok v =>
    rw [q] at hR
    simp only at hR
    obtain ⟨rfl, rfl⟩ := hR
    simp only
    by_cases qn : nds x.Ab ≠ 0 ∧ t ≠ nds x.Ab
    ·rw [if_pos (by simpa using qn), fail_new, Option.bind_some, if_pos (by simp), if_pos qn]
     exact ⟨_, rfl, rfl⟩
    ·rw [if_neg (by simpa using qn), if_neg qn, if_neg (by simp)]
     by_cases q3 : x.Ab = 3
     ·rw [if_pos (by simpa using q3), if_pos q3]
      unfold JaI
      rw [lookup_eq (by omega) (by omega), Option.bind_some, Option.bind_some, extended_eq (by omega)]
      by_cases q0 : lk x.Ac env = 0
      ·rw [if_neg (by simpa using q0), Option.bind_some, if_neg (by simp), if_pos (show lkf env x.Ac = 0 from q0)]
       simp only
       rw [← lkf_snoc]
       exact rec_ _ (by simp)
      ·rw [if_pos (by simpa using q0), fail_new, Option.bind_some, Option.bind_some, if_pos (by simp), if_neg (show ¬ lkf env x.Ac = 0 from q0)]
       exact ⟨_, rfl, rfl⟩
     ·rw [if_neg (by simpa using q3), if_neg q3]
      by_cases q2 : x.Ab = 2
      ·obtain ⟨l2, hb⟩ := hv2 q2
       rw [hk] at l2 hb
       have hbr : ∀ k ∈ ks, (∀ q ∈ brn k, Gd d q) ∧ (brn k).length ≤ 700 := fun k hk1 => by
        have hk2 : k ∈ x.Aa := by rw [hk]; simp [hk1]
        obtain ⟨l', e1, e2, e3⟩ := branch_ok (o3 k hk2) ((hb k (by simpa using hk1)).imp (fun h => ⟨h.1, fun q hq => ⟨m, h.2 q hq⟩⟩) fun h => ⟨h.1, m, h.2⟩)
        rw [brn_eq] at e1
        cases e1
        exact ⟨e3, e2⟩
       have hkl : (k0 :: ks).length ≤ 700 := by rw [← hk]; exact o2
       rw [if_pos (by simpa using q2), if_pos q2, chk_bind (by simp only [List.length_cons] at l2 ⊢; omega), drop1, chk_bind (by simp only [szMax]; simp only [List.length_cons] at hkl; omega),
        L3_pure (g := fun k => foldS (stm d) (lkf env) (brn k)) (hs env) ks 0 (fun k hk1 => hf _ _ (hbr k hk1).1 (hbr k hk1).2 (by omega)) (fun k hk1 c => hx _ _ c (hbr k hk1).1 (hbr k hk1).2 (by omega)), Option.bind_some]
       cases brs (fun k => foldS (stm d) (lkf env) (brn k)) ks with
       | some e => rw [if_pos (by simp)]; exact ⟨_, rfl, rfl⟩
       | none => rw [if_neg (by simp)]; exact rec_ env (by omega)
      ·rw [if_neg (by simpa using q2), if_neg q2, if_neg (by simp)]
       exact rec_ env (by omega)
set_option maxRecDepth 100000 in
theorem block_pure {a : Int} : ∀ (d n : Nat) (l : List M) (env : List Bd), (∀ x ∈ l, Gd d x) → l.length ≤ 700 → env.length + 701 * (d + 1) ≤ 90000 → d + 300000 ≤ n → Jx n ⟨a, none⟩ l env = some (fin a (foldS (stm d) (lkf env) l))
 | d, 0, l, env, _, _, _, hn => by omega
 | 0, n + 1, l, env, hg, hl, he, hn => by
  have : l = [] := by
   cases l with
   | nil => rfl
   | cons x l => exact (hg x (by simp)).1.elim
  subst this
  rw [Jx, chk_bind (by simp only [szMax]; simp)]; rfl
 | d + 1, n + 1, l, env, hg, hl, he, hn => by
  obtain ⟨r, hr, h2⟩ := block_L0_pure (n := n) (d := d) (a := a) (f := Jx n) (by omega) (fun env a e l r => block_same n a e l env r) (fun l' env' h1 h2 h3 => block_pure d n l' env' h1 h2 h3 (by omega)) (fun l' env' c' h1 h2 h3 => block_ok d n l' env' c' h1 h2 h3 (by omega)) l 0 env hg (by omega)
  rw [Jx, chk_bind (by simp only [szMax]; omega)]
  simp only
  rw [hr, Option.bind_some]
  cases q : foldS (stm (d + 1)) (lkf env) l with
  | error e => rw [q] at h2; simp only at h2; subst h2; rfl
  | ok ρ => rw [q] at h2; obtain ⟨e2, a1, a2, a3⟩ := h2; subst a1; rfl
noncomputable def chkR (d : Nat) (ys : List M) : Int × Err := match foldS (stm d) base ys with
 | .ok _ => (0, none)
 | .error e => (e.1, some e.2)
set_option maxRecDepth 100000 in
theorem Check_pure {n d : Nat} {y : M} {b : Bool} (h : Ok (d + 1) y) (hd : d ≤ 100) (hn : 400000 ≤ n) (hb : Jab n y = some b) : Jbj n y = some (if b = true then chkR d y.Aa else (0, some 2)) := by
 unfold Jbj
 rw [hb, Option.bind_some]
 cases b with
 | false => rfl
 | true =>
  have hv := Valid_inv hb
  have := h.2.1
  rw [if_neg (by simp), block_pure d n y.Aa [] (fun k hk => ⟨h.2.2 k hk, n, hv k hk⟩) this (by simp only [List.length_nil]; omega) (by omega), Option.bind_some]
  unfold chkR
  rw [lkf_nil]
  cases foldS (stm d) base y.Aa <;> rfl
theorem kidsE_err {f : M → Except Fault Int} {e : Fault} : ∀ {l : List M}, (∀ k ∈ l, ∀ e, f k = .error e → e.2 ≠ 0) → kidsE f l = .error e → e.2 ≠ 0
 | [], _, h => by cases h
 | k :: l, hf, h => by
  rw [kidsE] at h
  cases q : f k with
  | error e' => rw [q] at h; cases h; exact hf k (by simp) _ q
  | ok t =>
   rw [q] at h
   simp only at h
   cases q2 : kidsE f l with
   | error e' => rw [q2] at h; cases h; exact kidsE_err (fun k hk => hf k (by simp [hk])) q2
   | ok us => rw [q2] at h; cases h
theorem tyN_err {ρ : Env} {x : M} {ts : List Int} {e : Fault} (h : tyN ρ x ts = .error e) : e.2 ≠ 0 := by
 unfold tyN at h
 split at h; · cases h
 split at h; · cases h
 split at h; · cases h
 split at h
 ·split at h
  ·cases h; simp
  ·cases h
 split at h
 ·split at h
  ·cases h; simp
  ·split at h
   ·cases h
   ·cases h; simp
 split at h
 ·cases h; simp
 ·cases h
theorem tyE_err : ∀ {d : Nat} {ρ : Env} {x : M} {e : Fault}, tyE d ρ x = .error e → e.2 ≠ 0
 | 0, ρ, x, e, h => by rw [tyE] at h; cases h; simp
 | d + 1, ρ, x, e, h => by
  rw [tyE] at h
  cases q : kidsE (tyE d ρ) x.Aa with
  | error e' => rw [q] at h; cases h; exact kidsE_err (fun k _ e he => tyE_err he) q
  | ok ts => rw [q] at h; exact tyN_err h
theorem foldS_err {g : Env → M → Except Fault Env} {e : Fault} : ∀ {l : List M} {ρ : Env}, (∀ ρ k e, g ρ k = .error e → e.2 ≠ 0) → foldS g ρ l = .error e → e.2 ≠ 0
 | [], ρ, _, h => by cases h
 | k :: l, ρ, hg, h => by
  rw [foldS] at h
  cases q : g ρ k with
  | error e' => rw [q] at h; cases h; exact hg _ _ _ q
  | ok ρ' => rw [q] at h; exact foldS_err hg h
theorem brs_err {g : M → Except Fault Env} {e : Fault} : ∀ {l : List M}, (∀ k e, g k = .error e → e.2 ≠ 0) → brs g l = some e → e.2 ≠ 0
 | [], _, h => by cases h
 | k :: l, hg, h => by
  rw [brs] at h
  cases q : g k with
  | error e' => rw [q] at h; cases h; exact hg _ _ q
  | ok ρ' => rw [q] at h; exact brs_err hg h
theorem stm_err : ∀ {d : Nat} {ρ : Env} {x : M} {e : Fault}, stm d ρ x = .error e → e.2 ≠ 0
 | 0, ρ, x, e, h => by rw [stm] at h; cases h; simp
 | d + 1, ρ, x, e, h => by
  rw [stm] at h
  split at h
  ·cases h
  ·split at h
   ·cases h; rename_i q; exact tyE_err q
   ·split at h
    ·cases h; simp
    ·split at h
     ·split at h
      ·cases h
      ·cases h; simp
     ·split at h
      ·split at h
       ·cases h; rename_i q
        exact brs_err (fun k e he => foldS_err (fun ρ k e he => stm_err he) he) q
       ·cases h
      ·cases h
theorem fold_err {d : Nat} {ρ : Env} {l : List M} {e : Fault} (h : foldS (stm d) ρ l = .error e) : e.2 ≠ 0 := foldS_err (fun _ _ _ he => stm_err he) h
theorem Valid_fwd {d n : Nat} {x : N} {y : M} (h : OkN (d + 1) x) (hc : Cvd (d + 1) x y) (hn : d + 10002 ≤ n) (hv : Jab n y = some true) : x.Ab = 1 ∧ x.Ac = [] ∧ cntN (d + 1) x ≤ 512 ∧ depN (d + 1) x ≤ 32 ∧ ∀ k ∈ y.Aa, Jr n k = some true := by
 have hi := Valid_inv hv
 obtain ⟨m, hm1, hm2⟩ := small_val (d + 1) n x y 512 32 h hc (by omega) (by omega) (by omega) (by omega) (by omega)
 obtain ⟨c1, c2, c3, c4⟩ := hc
 unfold Jab at hv
 rw [hm1, c1, c2] at hv
 split at hv
 ·cases hv
 ·rename_i q
  rw [Option.bind_some] at hv
  split at hv
  ·cases hv
  ·rename_i q2
   simp at q q2
   exact ⟨q.1, q.2, by omega, by omega, hi⟩
theorem cntNL_append (d : Nat) (l k : List N) : cntNL d (l ++ k) = cntNL d l + cntNL d k := by simp [cntNL]
abbrev Bd2 := JB
def lk2 (s : Str) (env : List Bd2) : Int := match env.reverse.find? (fun b => decide (b.Name = s)) with
 | some b => b.As
 | none => if pre s then 1 else 0
theorem lk2_snoc (s : Str) (env : List Bd2) (b : Bd2) : lk2 s (env ++ [b]) = if b.Name = s then b.As else lk2 s env := by
 unfold lk2
 rw [List.reverse_append]
 simp only [List.reverse_cons, List.reverse_nil, List.nil_append, List.cons_append, List.find?_cons]
 by_cases h : b.Name = s <;> simp [h]
theorem lookup2_L0_eq {env : List Bd2} {s : Str} (hl : env.length ≤ 100000) : ∀ (j n : Nat), j ≤ env.length → j + 1 ≤ n →
  Ja5 env s n ((j : Int) - 1) = some (match (env.take j).reverse.find? (fun b => decide (b.Name = s)) with | some b => Fl.ret b.As | none => Fl.go (-1))
 | 0, n + 1, _, _ => by
  rw [Ja5, if_neg (by simp)]; simp
 | j + 1, n + 1, h, hn => by
  have hj : j < env.length := by omega
  have e : ((j + 1 : Nat) : Int) - 1 = (j : Int) := by omega
  have hix : ix env (j : Int) = some env[j] := by unfold ix; rw [if_pos (by omega)]; simp [hj]
  have ht : (env.take (j + 1)).reverse = env[j] :: (env.take j).reverse := by
   rw [List.take_succ_eq_append_getElem hj, List.reverse_append]; rfl
  rw [e, Ja5, if_pos (by simp), hix, Option.bind_some, Option.bind_some, ht, List.find?_cons]
  by_cases q : env[j].Name = s
  ·rw [if_pos (by simpa using q)]; simp [q]
  ·rw [if_neg (by simpa using q), chk_bind (by constructor <;> omega), lookup2_L0_eq hl j n (by omega) (by omega)]
   simp [q]
 | 0, 0, _, h => by omega
 | j + 1, 0, _, h => by omega
theorem lookup2_eq {env : List Bd2} {s : Str} {n : Nat} (hl : env.length ≤ 100000) (hn : env.length + 1 ≤ n) : JcA n s env = some (lk2 s env) := by
 unfold JcA
 rw [chk_bind (by constructor <;> omega), lookup2_L0_eq hl env.length n (by omega) hn, Option.bind_some, List.take_length]
 unfold lk2
 cases env.reverse.find? (fun b => decide (b.Name = s)) with
 | some b => rfl
 | none =>
  rw [el_go]
  show (if pre s = true then some (1 : Int) else some 0) = some (if pre s = true then 1 else 0)
  split <;> rfl
def lkf2 (env : List Bd2) : Env := fun s => lk2 s env
theorem lkf2_nil : lkf2 [] = base := rfl
theorem lkf2_snoc (env : List Bd2) (s : Str) (t : Int) : lkf2 (env ++ [⟨s, t⟩]) = ext (lkf2 env) s t := by
 funext q; exact lk2_snoc q env ⟨s, t⟩
def Ty (t : Int) : Prop := t = 1 ∨ t = 2 ∨ t = 3
def Rg (ρ : Env) : Prop := ∀ s, ρ s = 0 ∨ Ty (ρ s)
theorem rg_base : Rg base := fun s => by
 unfold base
 split
 ·right; left; rfl
 ·left; rfl
theorem Rg.ext {ρ : Env} (h : Rg ρ) (s : Str) {t : Int} (ht : Ty t) : Rg (ext ρ s t) := fun q => by
 unfold Rt.ext
 split
 ·exact .inr ht
 ·exact h q
def QQ (o : Option Int) : Prop := ∀ t, o = some t → t = 0 ∨ Ty t
theorem QQ.ite {c : Bool} {a b : Option Int} (h1 : QQ a) (h2 : QQ b) : QQ (if c = true then a else b) := by cases c <;> assumption
theorem QQ.bind {α : Type} {o : Option α} {f : α → Option Int} (h : ∀ a, QQ (f a)) : QQ (o.bind f) := fun t ht => by
 cases o with
 | none => cases ht
 | some a => exact h a t ht
theorem QQ.z : QQ (some 0) := fun t h => by cases h; exact .inl rfl
theorem QQ.t1 : QQ (some 1) := fun t h => by cases h; exact .inr (.inl rfl)
theorem QQ.t2 : QQ (some 2) := fun t h => by cases h; exact .inr (.inr (.inl rfl))
theorem QQ.t3 : QQ (some 3) := fun t h => by cases h; exact .inr (.inr (.inr rfl))
theorem opr_rg (x : M) (l : List Int) : opr x l = 0 ∨ Ty (opr x l) := by
 have : QQ (JL x l) := by
  unfold JL
  refine .ite (.bind fun _ => .ite .t1 (.bind fun _ => .ite .t2 .z)) ?_
  refine .ite (.bind fun _ => .ite .t2 .z) ?_
  refine .ite (.bind fun _ => .ite .t2 .z) ?_
  refine .ite (.bind fun _ => .ite .t3 .z) ?_
  refine .ite (.bind fun _ => .ite .t3 .z) ?_
  refine .ite (.bind fun _ => .ite .t3 .z) ?_
  refine .ite ?_ .z
  refine .ite (.bind fun _ => .bind fun _ => .ite .t3 .z) ?_
  refine .ite (.bind fun _ => .bind fun _ => .ite .t3 .z) ?_
  refine .ite (.bind fun _ => .ite .t3 .z) ?_
  refine .ite (.bind fun _ => .ite .t3 .z) ?_
  exact .bind fun _ => .ite .t3 .z
 unfold opr
 cases q : JL x l with
 | none => exact .inl rfl
 | some t => exact this t q
theorem fnc_cases (s : Str) : Jbl s = some ((fnc s).1, (fnc s).2, decide ((fnc s).2 ≠ 0)) ∧ ((fnc s).2 = 0 ∨ Ty (fnc s).2) := by
 have key : ∀ p, J2 s = some p → Jbl s = some (p.1, p.2, decide (p.2 ≠ 0)) ∧ (p.2 = 0 ∨ Ty p.2) := fun p h => by
  unfold J2 at h
  unfold Jbl
  have st : ∀ {c : Bool} {a b : Int} {A : Option (Int × Int)} {B : Option (Int × Int × Bool)}, Ty b → (if c = true then some (a, b) else A) = some p → (A = some p → B = some (p.1, p.2, decide (p.2 ≠ 0)) ∧ (p.2 = 0 ∨ Ty p.2)) → (if c = true then some (a, b, true) else B) = some (p.1, p.2, decide (p.2 ≠ 0)) ∧ (p.2 = 0 ∨ Ty p.2) := fun {c a b A B} ht h hA => by
   cases c with
   | false => exact hA h
   | true =>
    cases h
    refine ⟨?_, .inr ht⟩
    have : b ≠ 0 := by rcases ht with rfl | rfl | rfl <;> decide
    simp [this]
  refine st (.inl rfl) h fun h => ?_
  refine st (.inl rfl) h fun h => ?_
  refine st (.inl rfl) h fun h => ?_
  refine st (.inr (.inr rfl)) h fun h => ?_
  refine st (.inr (.inl rfl)) h fun h => ?_
  refine st (.inr (.inl rfl)) h fun h => ?_
  refine st (.inl rfl) h fun h => ?_
  refine st (.inl rfl) h fun h => ?_
  cases h
  exact ⟨rfl, .inl rfl⟩
 exact key _ (fnc_eq s)
theorem fnc_ty (s : Str) : (fnc s).2 = 0 ∨ Ty (fnc s).2 := by
 have key : ∀ p, J2 s = some p → p.2 = 0 ∨ Ty p.2 := fun p h => by
  unfold J2 at h
  have st : ∀ {c : Bool} {a b : Int} {A : Option (Int × Int)}, Ty b → (if c = true then some (a, b) else A) = some p → (A = some p → p.2 = 0 ∨ Ty p.2) → p.2 = 0 ∨ Ty p.2 := fun {c a b A} ht h hA => by
   cases c with
   | false => exact hA h
   | true => cases h; exact .inr ht
  refine st (.inl rfl) h fun h => ?_
  refine st (.inl rfl) h fun h => ?_
  refine st (.inl rfl) h fun h => ?_
  refine st (.inr (.inr rfl)) h fun h => ?_
  refine st (.inr (.inl rfl)) h fun h => ?_
  refine st (.inr (.inl rfl)) h fun h => ?_
  refine st (.inl rfl) h fun h => ?_
  refine st (.inl rfl) h fun h => ?_
  cases h
  exact .inl rfl
 exact key _ (fnc_eq s)
theorem tyN_rg {ρ : Env} {x : M} {ts : List Int} {t : Int} (h : Rg ρ) (ht : tyN ρ x ts = .ok t) : Ty t := by
 unfold tyN at ht
 split at ht; · cases ht; right; left; rfl
 split at ht; · cases ht; left; rfl
 split at ht; · cases ht; right; right; rfl
 split at ht
 ·split at ht
  ·cases ht
  ·cases ht; rename_i q; exact (h x.Ac).resolve_left q
 split at ht
 ·split at ht
  ·cases ht
  ·rename_i q
   split at ht
   ·cases ht; exact (fnc_ty x.Ac).resolve_left q
   ·cases ht
 split at ht
 ·cases ht
 ·rename_i q
  cases ht; exact (opr_rg x ts).resolve_left q
theorem tyE_rg {d : Nat} {ρ : Env} {x : M} {t : Int} (h : Rg ρ) (ht : tyE d ρ x = .ok t) : Ty t := by
 cases d with
 | zero => rw [tyE] at ht; cases ht
 | succ d =>
  rw [tyE] at ht
  split at ht
  ·cases ht
  ·exact tyN_rg h ht
theorem kidsE_rg {f : M → Except Fault Int} (hf : ∀ k t, f k = .ok t → Ty t) : ∀ {l : List M} {ts : List Int}, kidsE f l = .ok ts → ∀ t ∈ ts, Ty t
 | [], ts, h => by cases h; simp
 | k :: l, ts, h => by
  rw [kidsE] at h
  cases q : f k with
  | error e => rw [q] at h; cases h
  | ok t =>
   rw [q] at h
   simp only at h
   cases q2 : kidsE f l with
   | error e => rw [q2] at h; cases h
   | ok us =>
    rw [q2] at h; cases h
    intro t' ht'
    rcases List.mem_cons.1 ht' with rfl | ht'
    ·exact hf k _ q
    ·exact kidsE_rg hf q2 _ ht'
theorem op1_eq (t : Int) {l : List Int} (h : l.length ≤ 1000) : Jv t l = some (l.all fun a => decide (a = t)) := by
 have : ∀ (l : List Int) (i : Nat), JJ t l i = some (if (l.all fun a => decide (a = t)) = true then Fl.go () else Fl.ret false) := fun l => by
  induction l with
  | nil => exact fun i => rfl
  | cons a l ih =>
   intro i
   rw [JJ, List.all_cons]
   by_cases q : a = t
   ·rw [if_neg (by simpa using q), ih, decide_eq_true q, Bool.true_and]
   ·rw [if_pos (by simpa using q), decide_eq_false q, Bool.false_and]; rfl
 unfold Jv
 rw [chk_bind (by simp only [szMax]; omega), this, Option.bind_some]
 cases (l.all fun a => decide (a = t)) <;> rfl
theorem operands_len {m : Nat} {y : M} {k : Int} (h : Ju m y = some k) (hk : k ≠ -2) :
  ((y.Ab = 13 ∨ y.Ab = 14 ∨ y.Ab = 17 ∨ y.Ab = 18 ∨ y.Ab = 19) ∧ k = 2) ∨ (y.Ab = 15 ∧ k = 1) ∨ (y.Ab = 16 ∧ k = 2 ∧ cmp y.Ac = true) ∨ ((y.Ab = 20 ∨ y.Ab = 21 ∨ y.Ab = 22 ∨ y.Ab = 23) ∧ k = 0) ∨ (y.Ab = 24 ∧ k = -1) := by
 unfold Ju at h
 have s2 : ∀ {c : Bool} {v : Int}, (if (!c) = true then some (-2) else some v) = some k → k = v ∧ c = true := fun {c v} h => by
  cases c with
  | false => rw [if_pos (by simp)] at h; cases h; exact absurd rfl hk
  | true => rw [if_neg (by simp)] at h; cases h; exact ⟨rfl, rfl⟩
 by_cases q : y.Ab = 13
 ·rw [if_pos (by simpa using q)] at h
  exact .inl ⟨.inl q, (s2 h).1⟩
 rw [if_neg (by simpa using q)] at h
 clear q
 by_cases q : y.Ab = 14
 ·rw [if_pos (by simpa using q)] at h
  exact .inl ⟨.inr (.inl q), (s2 h).1⟩
 rw [if_neg (by simpa using q)] at h
 clear q
 by_cases q : y.Ab = 17
 ·rw [if_pos (by simpa using q)] at h
  exact .inl ⟨.inr (.inr (.inl q)), (s2 h).1⟩
 rw [if_neg (by simpa using q)] at h
 clear q
 by_cases q : y.Ab = 18
 ·rw [if_pos (by simpa using q)] at h
  exact .inl ⟨.inr (.inr (.inr (.inl q))), (s2 h).1⟩
 rw [if_neg (by simpa using q)] at h
 clear q
 by_cases q : y.Ab = 19
 ·rw [if_pos (by simpa using q)] at h
  exact .inl ⟨.inr (.inr (.inr (.inr q))), (s2 h).1⟩
 rw [if_neg (by simpa using q)] at h
 clear q
 by_cases q : y.Ab = 15
 ·rw [if_pos (by simpa using q)] at h
  exact .inr (.inl ⟨q, (s2 h).1⟩)
 rw [if_neg (by simpa using q)] at h
 clear q
 by_cases q : y.Ab = 16
 ·rw [if_pos (by simpa using q)] at h
  have e := compares_eq y.Ac
  obtain ⟨a, ha, h⟩ := bnd h
  rw [ha, Option.bind_some] at e
  rw [e, Option.bind_some] at h
  exact .inr (.inr (.inl ⟨q, s2 h⟩))
 rw [if_neg (by simpa using q)] at h
 clear q
 by_cases q : y.Ab = 20
 ·rw [if_pos (by simpa using q)] at h
  obtain ⟨a, ha, h⟩ := bnd h
  exact .inr (.inr (.inr (.inl ⟨.inl q, (s2 h).1⟩)))
 rw [if_neg (by simpa using q)] at h
 clear q
 by_cases q : y.Ab = 21
 ·rw [if_pos (by simpa using q)] at h
  obtain ⟨a, ha, h⟩ := bnd h
  exact .inr (.inr (.inr (.inl ⟨.inr (.inl q), (s2 h).1⟩)))
 rw [if_neg (by simpa using q)] at h
 clear q
 by_cases q : y.Ab = 22
 ·rw [if_pos (by simpa using q)] at h
  exact .inr (.inr (.inr (.inl ⟨.inr (.inr (.inl q)), (s2 h).1⟩)))
 rw [if_neg (by simpa using q)] at h
 clear q
 by_cases q : y.Ab = 23
 ·rw [if_pos (by simpa using q)] at h
  obtain ⟨a, ha, h⟩ := bnd h
  exact .inr (.inr (.inr (.inl ⟨.inr (.inr (.inr q)), (s2 h).1⟩)))
 rw [if_neg (by simpa using q)] at h
 clear q
 by_cases q : y.Ab = 24
 ·rw [if_pos (by simpa using q)] at h
  obtain ⟨a, ha, h⟩ := bnd h
  exact .inr (.inr (.inr (.inr ⟨q, (s2 h).1⟩)))
 rw [if_neg (by simpa using q)] at h
 clear q
 cases h
 exact absurd rfl hk
theorem single_op {x : N} {y : M} {m : Nat} {k : Int} {ts : List Int} (c1 : y.Ab = x.Ab) (c2 : y.Ac = x.Ac) (ho : Ju m y = some k) (hk : k ≠ -2) (hl : 0 ≤ k → (ts.length : Int) = k) (ht : ∀ t ∈ ts, Ty t)
  (h20 : x.Ab ≠ 20) (h21 : x.Ab ≠ 21) (h22 : x.Ab ≠ 22) (h23 : x.Ab ≠ 23) (h24 : x.Ab ≠ 24) : Jar x ts = some (opr y ts) := by
 have two : ∀ {ts : List Int}, (ts.length : Int) = 2 → ∃ a b, ts = [a, b] := fun {ts} h => by
  match ts, h with
  | [a, b], _ => exact ⟨a, b, rfl⟩
  | [], h => simp at h
  | [a], h => simp at h
  | a :: b :: c :: l, h => simp at h; omega
 have d : ∀ {a : Int}, Ty a → (a = 1 ∨ a = 2 ∨ a = 3) := fun h => h
 unfold opr
 rcases operands_len ho hk with ⟨hkk, e⟩ | ⟨hkk, e⟩ | ⟨hkk, e, hcmp⟩ | ⟨hkk, e⟩ | ⟨hkk, e⟩
 ·subst e
  obtain ⟨a, b, rfl⟩ := two (hl (by omega))
  have ha := d (ht a (by simp))
  have hb := d (ht b (by simp))
  rw [c1] at hkk
  rcases hkk with q | q | q | q | q <;> rcases ha with rfl | rfl | rfl <;> rcases hb with rfl | rfl | rfl <;> simp [Jar, JL, c1, q, op1_eq, ix]
 ·subst e
  obtain ⟨a, rfl⟩ : ∃ a, ts = [a] := by
   have h1 := hl (by omega)
   match ts, h1 with
   | [a], _ => exact ⟨a, rfl⟩
   | [], h => simp at h
   | a :: b :: l, h => simp at h; omega
  have ha := d (ht a (by simp))
  rw [c1] at hkk
  rcases ha with rfl | rfl | rfl <;> simp [Jar, JL, c1, hkk, op1_eq, ix]
 ·subst e
  obtain ⟨a, b, rfl⟩ := two (hl (by omega))
  have ha := d (ht a (by simp))
  have hb := d (ht b (by simp))
  rw [c1] at hkk
  rw [c2] at hcmp
  simp only [cmp, Bool.or_eq_true, decide_eq_true_eq] at hcmp
  rcases hcmp with q | q | q | q | q | q | q <;> rcases ha with rfl | rfl | rfl <;> rcases hb with rfl | rfl | rfl <;> simp [Jar, JL, c1, c2, hkk, q, op1_eq, ix]
 ·rw [c1] at hkk; omega
 ·rw [c1] at hkk; omega
abbrev F2 := JG
def res2 (r : Except Fault Int) : Int × F2 := match r with
 | .ok t => (t, ⟨0, 0⟩)
 | .error e => (0, ⟨e.1, e.2⟩)
theorem expr2_L0 {f : N → List Bd2 → Option (Int × F2)} {g : M → Except Fault Int} {env : List Bd2} (hg : ∀ k e, g k = .error e → e.2 ≠ 0) {l : List N} {k : List M} (h : A2 (fun x y => f x env = some (res2 (g y))) l k) : ∀ (i : Nat) (y : List Int), y.length + l.length ≤ 1000 →
  JbF f env l i y = some (match kidsE g k with
   | .ok ts => Fl.go (y ++ ts)
   | .error e => Fl.ret (0, ⟨e.1, e.2⟩)) := by
 induction h with
 | nil => intro i y _; simp [JbF, kidsE]
 | cons hp _ ih =>
  rename_i a b l k _
  intro i y hy
  simp only [List.length_cons] at hy
  rw [JbF, kidsE]
  cases q : g b with
  | error e =>
   have := hg _ _ q
   have hp2 : f a env = some (0, ⟨e.1, e.2⟩) := by rw [hp, q]; rfl
   rw [hp2, Option.bind_some, if_pos (by simpa using this)]
  | ok t =>
   have hp2 : f a env = some (t, ⟨0, 0⟩) := by rw [hp, q]; rfl
   rw [hp2, Option.bind_some, if_neg (by simp), chk_bind (by simp only [lim, List.length_cons, List.length_nil]; omega), ih (i + 1) _ (by simp only [List.length_append, List.length_cons, List.length_nil]; omega)]
   cases kidsE g k with
   | error e => rfl
   | ok ts => simp
theorem tyN_op {ρ : Env} {y : M} {ts : List Int} (h20 : y.Ab ≠ 20) (h21 : y.Ab ≠ 21) (h22 : y.Ab ≠ 22) (h23 : y.Ab ≠ 23) (h24 : y.Ab ≠ 24) : tyN ρ y ts = if opr y ts = 0 then .error (y.Ad, 9) else .ok (opr y ts) := by
 unfold tyN
 rw [if_neg h20, if_neg h21, if_neg h22, if_neg h23, if_neg h24]
theorem expr2_pure {env : List Bd2} (he : env.length ≤ 100000) (hrg : Rg (lkf2 env)) : ∀ (d n m : Nat) (x : N) (y : M), OkN d x → Cvd d x y → Jq m y = some true → d + 200000 ≤ n → Jby n x env = some (res2 (tyE d (lkf2 env) y))
 | d + 1, 0, m, x, y, _, _, _, hn => by omega
 | d + 1, n + 1, m, x, y, h, hc, hv, hn => by
  obtain ⟨h1, h2, h3⟩ := h
  obtain ⟨c1, c2, c3, c4⟩ := hc
  obtain ⟨m', k, rfl, hk, k2, k3, k4⟩ := expression_inv hv
  have hkid : A2 (fun x y => Jby n x env = some (res2 (tyE d (lkf2 env) y))) x.Aa y.Aa := by
   have : ∀ {l : List N} {k : List M}, A2 (Cvd d) l k → (∀ a ∈ l, OkN d a) → (∀ b ∈ k, Jq m' b = some true) → A2 (fun x y => Jby n x env = some (res2 (tyE d (lkf2 env) y))) l k := fun h => by
    induction h with
    | nil => exact fun _ _ => .nil
    | cons hp _ ih => exact fun ha hb => .cons (expr2_pure he hrg d n m' _ _ (ha _ (by simp)) hp (hb _ (by simp)) (by omega)) (ih (fun a h => ha a (by simp [h])) fun b h => hb b (by simp [h]))
   exact this c4 h3 k4
  rw [Jby, chk_bind (by simp only [szMax]; omega), expr2_L0 (fun _ _ he => tyE_err he) hkid 0 [] (by simp <;> omega), Option.bind_some, tyE]
  cases q : kidsE (tyE d (lkf2 env)) y.Aa with
  | error e => rfl
  | ok ts =>
   have hlen := kidsE_len q
   have hty := kidsE_rg (fun k t h => tyE_rg hrg h) q
   simp only [el_go, List.nil_append]
   have hkl : 0 ≤ k → (ts.length : Int) = k := fun h0 => by rw [hlen]; exact k3 h0
   by_cases q23 : x.Ab = 23
   ·rw [if_pos (by simpa using q23), lookup2_eq he (by omega), Option.bind_some]
    unfold tyN
    rw [c1, if_neg (show ¬ x.Ab = 20 by omega), if_neg (show ¬ x.Ab = 21 by omega), if_neg (show ¬ x.Ab = 22 by omega), if_pos q23, c2, c3]
    by_cases q0 : lk2 x.Ac env = 0
    ·rw [if_neg (by simpa using q0), if_pos (show lkf2 env x.Ac = 0 from q0)]; rfl
    ·rw [if_pos (by simpa using q0), if_neg (show ¬ lkf2 env x.Ac = 0 from q0)]; rfl
   rw [if_neg (by simpa using q23)]
   by_cases q24 : x.Ab = 24
   ·obtain ⟨f1, f2⟩ := fnc_cases x.Ac
    rw [if_pos (by simpa using q24), f1, Option.bind_some]
    unfold tyN
    rw [c1, if_neg (show ¬ x.Ab = 20 by omega), if_neg (show ¬ x.Ab = 21 by omega), if_neg (show ¬ x.Ab = 22 by omega), if_neg q23, if_pos q24, c2, c3]
    by_cases q0 : (fnc x.Ac).2 = 0
    ·rw [if_pos (by simpa using q0), if_pos q0]; rfl
    ·rw [if_neg (by simpa using q0), if_neg q0]
     have hs : Jar x ts = some (if ts = [(fnc x.Ac).1] then (fnc x.Ac).2 else 0) := by
      unfold Jar
      have e : ∃ b, (if decide ((ts.length : Int) = 2) = true then (ix ts 0).bind fun x16 => (ix ts 1).bind fun x19 => some (decide (x16 = x19)) else some false) = some b := ite_ex (fun h => by
       have h := of_decide_eq_true h
       exact bind_ex (ix_ok (by omega) (by omega)) fun _ _ => bind_ex (ix_ok (by omega) (by omega)) fun _ _ => ⟨_, rfl⟩) fun _ => ⟨_, rfl⟩
      obtain ⟨b, hb⟩ := e
      rw [hb, Option.bind_some, if_neg (by simp [q24]), if_neg (by simp [q24]), if_neg (by simp [q24]), if_neg (by simp [q24]), if_neg (by simp [q24]), if_neg (by simp [q24]), if_neg (by simp [q24]), if_neg (by simp [q24]), if_neg (by simp [q24]), if_neg (by simp [q24]), if_pos (by simp [q24]), f1, Option.bind_some]
      match ts with
      | [] => rw [if_neg (by simp), Option.bind_some, if_neg (by simp), if_neg (by simp)]
      | [t] =>
       rw [if_pos (by simp), show ix [t] 0 = some t from rfl, Option.bind_some, Option.bind_some]
       by_cases q2 : t = (fnc x.Ac).1
       ·rw [if_pos (by simpa using q2), if_pos (by rw [q2])]
       ·rw [if_neg (by simpa using q2), if_neg (by simpa using q2)]
      | t :: u :: l => rw [if_neg (by simp; omega), Option.bind_some, if_neg (by simp), if_neg (by simp)]
     rw [hs, Option.bind_some]
     by_cases q2 : ts = [(fnc x.Ac).1]
     ·rw [if_pos q2, if_pos q2, if_neg (by simpa using q0)]; rfl
     ·rw [if_neg q2, if_neg q2, if_pos (by simp)]; rfl
   rw [if_neg (by simpa using q24)]
   have lit : ∀ (v : Int), Ty v → Jar x ts = some v → tyN (lkf2 env) y ts = .ok v → ((Jar x ts).bind fun x69 => if decide (x69 = 0) = true then some ((0 : Int), (⟨x.Ad, 9⟩ : F2)) else some (x69, ⟨0, 0⟩)) = some (res2 (tyN (lkf2 env) y ts)) := fun v hv e1 e2 => by
    have : v ≠ 0 := by rcases hv with rfl | rfl | rfl <;> decide
    rw [e1, e2, Option.bind_some, if_neg (by simpa using this)]; rfl
   have nil : (x.Ab = 20 ∨ x.Ab = 21 ∨ x.Ab = 22) → ts = [] := fun h => by
    have : (ts.length : Int) = 0 := by
     rcases operands_len hk k2 with ⟨a, b⟩ | ⟨a, b⟩ | ⟨a, b, _⟩ | ⟨a, b⟩ | ⟨a, b⟩
     ·rw [c1] at a; omega
     ·rw [c1] at a; omega
     ·rw [c1] at a; omega
     ·rw [hkl (by omega), b]
     ·rw [c1] at a; omega
    exact List.length_eq_zero_iff.1 (by omega)
   by_cases q20 : x.Ab = 20
   ·refine lit 2 (.inr (.inl rfl)) ?_ ?_
    ·rw [nil (by simp [q20])]; simp [Jar, q20]
    ·unfold tyN; rw [if_pos (show y.Ab = 20 by omega)]
   by_cases q21 : x.Ab = 21
   ·refine lit 1 (.inl rfl) ?_ ?_
    ·rw [nil (by simp [q21])]; simp [Jar, q21]
    ·unfold tyN; rw [if_neg (show ¬ y.Ab = 20 by omega), if_pos (show y.Ab = 21 by omega)]
   by_cases q22 : x.Ab = 22
   ·refine lit 3 (.inr (.inr rfl)) ?_ ?_
    ·rw [nil (by simp [q22])]; simp [Jar, q22]
    ·unfold tyN; rw [if_neg (show ¬ y.Ab = 20 by omega), if_neg (show ¬ y.Ab = 21 by omega), if_pos (show y.Ab = 22 by omega)]
   rw [single_op c1 c2 hk k2 hkl hty q20 q21 q22 q23 q24, Option.bind_some, tyN_op (by omega) (by omega) (by omega) (by omega) (by omega)]
   by_cases q0 : opr y ts = 0
   ·rw [if_pos (by simpa using q0), if_pos q0, c3]; rfl
   ·rw [if_neg (by simpa using q0), if_neg q0]; rfl
theorem nds2_eq (k : Int) : Jdc k = some (nds k) := by
 unfold Jdc nds
 by_cases h1 : k = 2; · simp [h1]
 by_cases h2 : k = 4; · simp [h2]
 by_cases h3 : k = 5; · simp [h3]
 by_cases h4 : k = 7; · simp [h4]
 by_cases h5 : k = 8; · simp [h5]
 by_cases h6 : k = 9; · simp [h6]
 simp [h1, h2, h3, h4, h5, h6]
theorem stated_if {m : Nat} {x : M} (hk : x.Ab = 2) (h : Jr (m + 1) x = some true) : ∀ c ∈ x.Aa.drop 1, c.Ab ≠ 12 → c.Ab = 2 := by
 rw [Jr, if_pos (by simpa using hk)] at h
 obtain ⟨a, ha, g⟩ := bnd h
 obtain ⟨b, hb, gg⟩ := bnd g
 cases b with
 | true => rw [if_pos rfl] at gg; cases gg
 | false =>
  rw [if_neg (by simp)] at gg
  cases a with
  | true => rw [if_pos rfl] at hb; cases hb
  | false =>
   cases q : ((decide (x.Ac ≠ ([] : Str)) || decide ((x.Aa.length : Int) < 2)) || decide ((x.Aa.length : Int) > 3)) with
   | true => rw [q, if_pos rfl] at ha; cases ha
   | false =>
    simp only [Bool.or_eq_false_iff, decide_eq_false_iff_not] at q
    rw [if_neg (by simp)] at hb
    obtain ⟨c1, hc1, hb⟩ := bnd hb
    obtain ⟨e1, he1, hb⟩ := bnd hb
    have hb : e1 = true := by simpa using hb
    subst hb
    have g1 : x.Aa[1]? = some c1 := by unfold ix at hc1; rw [if_pos (by omega)] at hc1; exact hc1
    obtain ⟨i1, i2⟩ := blocked_inv he1
    intro c hc hne
    obtain ⟨i, hi⟩ := List.getElem?_of_mem hc
    rw [List.getElem?_drop] at hi
    have hil : 1 + i < x.Aa.length := (List.getElem?_eq_some_iff.1 hi).1
    by_cases z : i = 0
    ·subst z
     rw [g1] at hi; cases hi
     exact absurd i1 hne
    ·have : i = 1 := by omega
     subst this
     have hx2 : ix x.Aa 2 = some c := by unfold ix; rw [if_pos (by omega)]; exact hi
     rw [if_neg (by simp <;> omega), hx2, Option.bind_some] at gg
     obtain ⟨e, he, g3⟩ := bnd gg
     obtain ⟨e', he', he2⟩ := bnd he
     cases he2
     cases e with
     | true => exact absurd (blocked_inv he').1 hne
     | false =>
      rw [if_neg (by simp), Option.bind_some] at g3
      obtain ⟨e2, he2, g4⟩ := bnd g3
      cases g4
      split at he2
      ·rename_i hk; exact of_decide_eq_true hk
      ·cases he2
def fl2 (r : Except Fault Env) : F2 := match r with
 | .ok _ => ⟨0, 0⟩
 | .error e => ⟨e.1, e.2⟩
theorem L3_2 {f : List N → List Bd2 → Option F2} {g : M → Except Fault Env} {env : List Bd2} (hg : ∀ k e, g k = .error e → e.2 ≠ 0) {l : List N} {k : List M} (h : A2 (fun x y => (if decide (x.Ab = 2) = true then f [x] env else f x.Aa env) = some (fl2 (g y))) l k) : ∀ i : Nat,
  J6 f env l i = some (match brs g k with
   | none => Fl.go ()
   | some e => Fl.ret ⟨e.1, e.2⟩) := by
 induction h with
 | nil => exact fun i => rfl
 | cons hp _ ih =>
  rename_i a b l k _
  intro i
  have e : J6 f env (a :: l) i = (if decide (a.Ab = 2) = true then f [a] env else f a.Aa env).bind fun x90 => if decide (x90.Code ≠ 0) = true then some (Fl.ret x90) else J6 f env l (i + 1) := by
   rw [J6]
   cases decide (a.Ab = 2) <;> rfl
  rw [e, brs]
  cases q : g b with
  | error e =>
   have := hg _ _ q
   have hp2 : (if decide (a.Ab = 2) = true then f [a] env else f a.Aa env) = some ⟨e.1, e.2⟩ := by rw [hp, q]; rfl
   rw [hp2, Option.bind_some, if_pos (by simpa using this)]
  | ok ρ =>
   have hp2 : (if decide (a.Ab = 2) = true then f [a] env else f a.Aa env) = some ⟨0, 0⟩ := by rw [hp, q]; rfl
   rw [hp2, Option.bind_some, if_neg (by simp)]
   exact ih (i + 1)
set_option maxRecDepth 100000 in
theorem st2_L0 {n d : Nat} {f : List N → List Bd2 → Option F2} (hn : d + 200000 ≤ n)
  (hf : ∀ (l : List N) (k : List M) (env : List Bd2), (∀ x ∈ l, OkN d x) → A2 (Cvd d) l k → (∀ y ∈ k, Gd d y) → l.length ≤ 700 → env.length + 701 * (d + 1) ≤ 90000 → Rg (lkf2 env) → f l env = some (fl2 (foldS (stm d) (lkf2 env) k)))
  {l : List N} {k : List M} (h : A2 (Cvd (d + 1)) l k) :
  ∀ (i : Nat) (env : List Bd2), (∀ x ∈ l, OkN (d + 1) x) → (∀ y ∈ k, Gd (d + 1) y) → env.length + l.length + 701 * (d + 1) ≤ 90000 → Rg (lkf2 env) →
   ∃ r, JW n f l i env = some r ∧ match foldS (stm (d + 1)) (lkf2 env) k with
    | .ok ρ => ∃ env', r = Fl.go env'
    | .error e => r = Fl.ret ⟨e.1, e.2⟩ := by
 induction h with
 | nil => exact fun i env _ _ _ _ => ⟨_, rfl, env, rfl⟩
 | cons hp _ ih =>
  rename_i x y l k _
  intro i env ho hg he hrg
  simp only [List.length_cons] at he
  have rec_ : ∀ env', env'.length ≤ env.length + 1 → Rg (lkf2 env') → ∃ r, JW n f l (i + 1) env' = some r ∧ match foldS (stm (d + 1)) (lkf2 env') k with
    | .ok ρ => ∃ env2, r = Fl.go env2
    | .error e => r = Fl.ret ⟨e.1, e.2⟩ := fun env' h1 h2 => ih (i + 1) env' (fun q hq => ho q (by simp [hq])) (fun q hq => hg q (by simp [hq])) (by omega) h2
  obtain ⟨hok, m, hm⟩ := hg y (by simp)
  have hm' := hm
  obtain ⟨m, rfl, hv0, hv2⟩ := stated_inv hm
  obtain ⟨o1, o2, o3⟩ := ho x (by simp)
  obtain ⟨p1, p2, p3⟩ := hok
  obtain ⟨c1, c2, c3, c4⟩ := hp
  rw [JW, foldS, stm]
  match hkx : x.Aa, hky : y.Aa, c4 with
  | [], [], .nil =>
   rw [if_pos (by simp)]
   exact rec_ env (by omega) hrg
  | k0 :: ks, j0 :: js, .cons hq hqs =>
   have hk0 : k0 ∈ x.Aa := by rw [hkx]; simp
   have ht := expr2_pure (env := env) (by omega) hrg d n m k0 j0 (o3 k0 hk0) hq (hv0 j0 (by rw [hky]; rfl)) (by omega)
   rw [if_neg (by simp; omega), show ix (k0 :: ks) 0 = some k0 from rfl, Option.bind_some]
   cases q : tyE d (lkf2 env) j0 with
   | error e =>
    have := tyE_err q
    have ht2 : Jby n k0 env = some (0, ⟨e.1, e.2⟩) := by rw [ht, q]; rfl
    rw [ht2, Option.bind_some, if_pos (by simpa using this)]
    simp only [q]
    exact ⟨_, rfl, rfl⟩
   | ok t =>
    have tyt := tyE_rg hrg q
    have ht2 : Jby n k0 env = some (t, ⟨0, 0⟩) := by rw [ht, q]; rfl
    rw [ht2, Option.bind_some, if_neg (by simp), nds2_eq, Option.bind_some]
    simp only [q]
    rw [c1, c2, c3]
    by_cases qn : nds x.Ab ≠ 0 ∧ t ≠ nds x.Ab
    ·rw [if_pos (by simp only [Bool.and_eq_true, decide_eq_true_eq]; exact ⟨qn.1, fun h => qn.2 h.symm⟩), if_pos qn]
     exact ⟨_, rfl, rfl⟩
    ·rw [if_neg (by simp only [Bool.and_eq_true, decide_eq_true_eq]; exact fun h => qn ⟨h.1, fun h' => h.2 h'.symm⟩), if_neg qn]
     by_cases q3 : x.Ab = 3
     ·rw [if_pos (by simpa using q3), if_pos q3, lookup2_eq (by omega) (by omega), Option.bind_some]
      by_cases q0 : lk2 x.Ac env = 0
      ·rw [if_neg (by simpa using q0), chk_bind (by simp only [lim]; omega), chk_bind (by simp only [lim, List.length_cons, List.length_nil]; omega), if_pos (show lkf2 env x.Ac = 0 from q0)]
       simp only
       rw [← lkf2_snoc]
       exact rec_ _ (by simp) (by rw [lkf2_snoc]; exact hrg.ext _ tyt)
      ·rw [if_pos (by simpa using q0), if_neg (show ¬ lkf2 env x.Ac = 0 from q0)]
       exact ⟨_, rfl, rfl⟩
     ·rw [if_neg (by simpa using q3), if_neg q3]
      by_cases q2 : x.Ab = 2
      ·obtain ⟨l2, hb⟩ := hv2 (by omega)
       have hif := stated_if (by omega) hm'
       rw [hky] at l2 hb hif
       have hkl : (k0 :: ks).length ≤ 700 := by rw [← hkx]; exact o2
       have hlen : js.length = ks.length := hqs.len
       simp only [List.length_cons] at l2 hkl
       have hrel : A2 (fun x y => (if decide (x.Ab = 2) = true then f [x] env else f x.Aa env) = some (fl2 (foldS (stm d) (lkf2 env) (brn y)))) ks js := by
        have sub1 : ∀ a ∈ ks, OkN d a := fun a ha => o3 a (by rw [hkx]; simp [ha])
        have sub2 : ∀ b ∈ js, b ∈ y.Aa := fun b hb => by rw [hky]; simp [hb]
        have sub3 : ∀ b ∈ js, b ∈ (j0 :: js).drop 1 := fun b hb => by simpa using hb
        have : ∀ {l : List N} {k : List M}, A2 (Cvd d) l k → (∀ a ∈ l, OkN d a) → (∀ b ∈ k, b ∈ js) → A2 (fun x y => (if decide (x.Ab = 2) = true then f [x] env else f x.Aa env) = some (fl2 (foldS (stm d) (lkf2 env) (brn y)))) l k := fun h => by
         induction h with
         | nil => exact fun _ _ => .nil
         | cons hp _ ih =>
          rename_i a b _ _ _
          intro h1 h2
          refine .cons ?_ (ih (fun a h => h1 a (by simp [h])) fun b h => h2 b (by simp [h]))
          have hbj := h2 b (by simp)
          have hoa := h1 a (by simp)
          obtain ⟨l', e1, e2, e3⟩ := branch_ok (p3 b (sub2 b hbj)) ((hb b (sub3 b hbj)).imp (fun h => ⟨h.1, fun q hq => ⟨m, h.2 q hq⟩⟩) fun h => ⟨h.1, m, h.2⟩)
          rw [brn_eq] at e1
          cases e1
          cases d with
          | zero => exact hoa.elim
          | succ d =>
           have hp' := hp
           obtain ⟨r1, r2, r3, r4⟩ := hp
           by_cases qk : a.Ab = 2
           ·have eb : brn b = [b] := by unfold brn; rw [if_neg (by omega)]
            rw [if_pos (by simpa using qk), eb]
            rw [eb] at e3
            exact hf [a] [b] env (fun q hq => by rw [List.mem_singleton] at hq; subst hq; exact hoa) (.cons hp' .nil) e3 (by simp) (by omega) hrg
           ·have hb12 : b.Ab = 12 := by
             by_cases q12 : b.Ab = 12
             ·exact q12
             ·have := hif b (sub3 b hbj) q12; omega
            have eb : brn b = b.Aa := by unfold brn; rw [if_pos hb12]
            rw [if_neg (by simpa using qk), eb]
            rw [eb] at e3 e2
            have lift : ∀ {l : List N} {k : List M}, A2 (Cvd d) l k → A2 (Cvd (d + 1)) l k := fun h => by
             have up : ∀ (d : Nat) (x : N) (y : M), Cvd d x y → Cvd (d + 1) x y := fun d => by
              induction d with
              | zero => exact fun x y h => h.elim
              | succ d ih => exact fun x y h => ⟨h.1, h.2.1, h.2.2.1, h.2.2.2.imp_mem fun a _ b hb => ih a b hb⟩
             exact h.imp_mem fun a _ b hb => up d a b hb
            have liftO : ∀ (d : Nat) (x : N), OkN d x → OkN (d + 1) x := fun d => by
             induction d with
             | zero => exact fun x h => h.elim
             | succ d ih => exact fun x h => ⟨h.1, h.2.1, fun k hk => ih k (h.2.2 k hk)⟩
            exact hf a.Aa b.Aa env (fun q hq => liftO d q (hoa.2.2 q hq)) (lift r4) e3 hoa.2.1 (by omega) hrg
        exact this hqs sub1 fun b hb => hb
       rw [if_pos (by simpa using q2), if_pos q2, chk_bind (by simp only [List.length_cons]; omega), drop1, chk_bind (by simp only [szMax]; omega),
        L3_2 (g := fun k => foldS (stm d) (lkf2 env) (brn k)) (fun _ _ he => fold_err he) hrel 0, Option.bind_some]
       cases brs (fun k => foldS (stm d) (lkf2 env) (brn k)) js with
       | some e => exact ⟨_, rfl, rfl⟩
       | none => exact rec_ env (by omega) hrg
      ·rw [if_neg (by simpa using q2), if_neg q2]
       exact rec_ env (by omega) hrg
set_option maxRecDepth 100000 in
theorem st2_pure : ∀ (d n : Nat) (l : List N) (k : List M) (env : List Bd2), (∀ x ∈ l, OkN d x) → A2 (Cvd d) l k → (∀ y ∈ k, Gd d y) → l.length ≤ 700 → env.length + 701 * (d + 1) ≤ 90000 → Rg (lkf2 env) → d + 300000 ≤ n → Jah n l env = some (fl2 (foldS (stm d) (lkf2 env) k))
 | d, 0, l, k, env, _, _, _, _, _, _, hn => by omega
 | 0, n + 1, l, k, env, ho, hc, hg, hl, he, hrg, hn => by
  have : l = [] := by
   cases l with
   | nil => rfl
   | cons x l => exact (ho x (by simp)).elim
  subst this
  cases hc
  rw [Jah, chk_bind (by simp only [szMax]; simp)]; rfl
 | d + 1, n + 1, l, k, env, ho, hc, hg, hl, he, hrg, hn => by
  obtain ⟨r, hr, h2⟩ := st2_L0 (n := n) (d := d) (f := Jah n) (by omega) (fun l' k' env' h1 h2 h3 h4 h5 h6 => st2_pure d n l' k' env' h1 h2 h3 h4 h5 h6 (by omega)) hc 0 env ho hg (by omega) hrg
  rw [Jah, chk_bind (by simp only [szMax]; omega), hr, Option.bind_some]
  cases q : foldS (stm (d + 1)) (lkf2 env) k with
  | error e => rw [q] at h2; simp only at h2; subst h2; rfl
  | ok ρ => rw [q] at h2; obtain ⟨e2, a1⟩ := h2; subst a1; rfl
set_option maxRecDepth 100000 in
theorem Check2_pure {n d : Nat} {x : N} {y : M} {b : Bool} (ho : OkN (d + 1) x) (hc : Cvd (d + 1) x y) (hd : d ≤ 100) (hn : 400000 ≤ n) (hb : JcR n x = some b) (hb2 : Jab n y = some b) : JbP n x = some (if b = true then fl2 (foldS (stm d) base y.Aa) else ⟨0, 2⟩) := by
 unfold JbP
 rw [hb, Option.bind_some]
 cases b with
 | false => rfl
 | true =>
  have hv := Valid_inv hb2
  have hok := hc.ok ho
  obtain ⟨c1, c2, c3, c4⟩ := hc
  obtain ⟨o1, o2, o3⟩ := ho
  rw [if_neg (by simp), st2_pure d n x.Aa y.Aa [] o3 c4 (fun k hk => ⟨hok.2.2 k hk, n, hv k hk⟩) o2 (by simp only [List.length_nil]; omega) rg_base (by omega), Option.bind_some, lkf2_nil]
  rfl
noncomputable def tyv (d : Nat) (ρ : Env) (y : M) : Int := match tyE d ρ y with
 | .ok t => t
 | .error _ => 0
def hd0 : List Int → Int
 | [] => 0
 | s :: _ => s
def stN (k t : Int) (ss : List Int) : Int :=
 if k = 20 then 1 else if k = 21 then 1 else if k = 22 then 3 else if k = 23 then 1
 else if k = 24 then (if t = 1 then ss.sum + 32 else ss.sum) + 1
 else if k = 14 then hd0 ss + 1 + max 3 (ss.sum - hd0 ss + 1)
 else if k = 13 then hd0 ss + 1 + max 4 (ss.sum - hd0 ss)
 else (if t = 1 then ss.sum + 32 else ss.sum) + 1
noncomputable def stE : Nat → Env → M → Int
 | 0, _, _ => 0
 | d + 1, ρ, y => stN y.Ab (tyv (d + 1) ρ y) (y.Aa.map (stE d ρ))
theorem tyN_inv {ρ : Env} {y : M} {ts : List Int} {t : Int} (h : tyN ρ y ts = .ok t) : (y.Ab = 20 → t = 2) ∧ (y.Ab = 21 → t = 1) ∧ (y.Ab = 22 → t = 3) ∧ (y.Ab = 23 → t = ρ y.Ac) ∧ (y.Ab = 24 → t = (fnc y.Ac).2) ∧ (y.Ab ≠ 20 → y.Ab ≠ 21 → y.Ab ≠ 22 → y.Ab ≠ 23 → y.Ab ≠ 24 → t = opr y ts ∧ opr y ts ≠ 0) := by
 unfold tyN at h
 by_cases q20 : y.Ab = 20
 ·rw [if_pos q20] at h; cases h; exact ⟨fun _ => rfl, fun _ => by omega, fun _ => by omega, fun _ => by omega, fun _ => by omega, fun a => absurd q20 a⟩
 rw [if_neg q20] at h
 by_cases q21 : y.Ab = 21
 ·rw [if_pos q21] at h; cases h; exact ⟨fun _ => by omega, fun _ => rfl, fun _ => by omega, fun _ => by omega, fun _ => by omega, fun _ a => absurd q21 a⟩
 rw [if_neg q21] at h
 by_cases q22 : y.Ab = 22
 ·rw [if_pos q22] at h; cases h; exact ⟨fun _ => by omega, fun _ => by omega, fun _ => rfl, fun _ => by omega, fun _ => by omega, fun _ _ a => absurd q22 a⟩
 rw [if_neg q22] at h
 by_cases q23 : y.Ab = 23
 ·rw [if_pos q23] at h
  split at h
  ·cases h
  ·cases h; exact ⟨fun _ => by omega, fun _ => by omega, fun _ => by omega, fun _ => rfl, fun _ => by omega, fun _ _ _ a => absurd q23 a⟩
 rw [if_neg q23] at h
 by_cases q24 : y.Ab = 24
 ·rw [if_pos q24] at h
  split at h
  ·cases h
  ·split at h
   ·cases h; exact ⟨fun _ => by omega, fun _ => by omega, fun _ => by omega, fun _ => by omega, fun _ => rfl, fun _ _ _ _ a => absurd q24 a⟩
   ·cases h
 rw [if_neg q24] at h
 split at h
 ·cases h
 ·rename_i q
  cases h; exact ⟨fun a => absurd a q20, fun a => absurd a q21, fun a => absurd a q22, fun a => absurd a q23, fun a => absurd a q24, fun _ _ _ _ _ => ⟨rfl, q⟩⟩
theorem tyE_inv {d : Nat} {ρ : Env} {y : M} {t : Int} (h : tyE (d + 1) ρ y = .ok t) : ∃ ts, kidsE (tyE d ρ) y.Aa = .ok ts ∧ tyN ρ y ts = .ok t := by
 rw [tyE] at h
 cases q : kidsE (tyE d ρ) y.Aa with
 | error e => rw [q] at h; cases h
 | ok ts => rw [q] at h; exact ⟨ts, rfl, h⟩
def foldW (w : Env → M → Int) (g : Env → M → Except Fault Env) : Env → List M → Int
 | _, [] => 0
 | ρ, x :: l => w ρ x + (match g ρ x with
  | .ok ρ' => foldW w g ρ' l
  | .error _ => 0)
noncomputable def wS : Nat → Env → M → Int
 | 0, _, _ => 0
 | d + 1, ρ, x => match x.Aa with
  | [] => 1
  | k0 :: ks => 1 + stE d ρ k0 + (if x.Ab = 2 then (match ks with
   | [] => 0
   | [b] => foldW (wS d) (stm d) ρ (brn b)
   | b :: c :: _ => max (foldW (wS d) (stm d) ρ (brn b) + 1) (foldW (wS d) (stm d) ρ (brn c))) else 0)
theorem brn_ok {d : Nat} {k : M} (h : Ok d k) : (∀ q ∈ brn k, Ok d q) ∧ cntL d (brn k) ≤ cnt d k := by
 cases d with
 | zero => exact h.elim
 | succ d =>
  unfold brn
  split
  ·refine ⟨fun q hq => (h.2.2 q hq).succ, ?_⟩
   rw [cnt_eq]
   have : ∀ l : List M, (∀ q ∈ l, Ok d q) → cntL (d + 1) l = cntL d l := fun l => by
    induction l with
    | nil => intro _; rfl
    | cons q l ih => intro hq; rw [cntL_cons, cntL_cons, cnt_succ (hq q (by simp)), ih fun p hp => hq p (by simp [hp])]
   rw [this k.Aa h.2.2]; omega
  ·exact ⟨fun q hq => by rw [List.mem_singleton] at hq; subst hq; exact h, by simp [cntL]⟩
theorem stm_inv {d : Nat} {ρ ρ' : Env} {x k0 : M} {ks : List M} (hk : x.Aa = k0 :: ks) (h : stm (d + 1) ρ x = .ok ρ') : ∃ t, tyE d ρ k0 = .ok t ∧
  ((x.Ab = 3 ∧ ρ' = ext ρ x.Ac t) ∨ (x.Ab = 2 ∧ ρ' = ρ ∧ brs (fun k => foldS (stm d) ρ (brn k)) ks = none) ∨ (x.Ab ≠ 3 ∧ x.Ab ≠ 2 ∧ ρ' = ρ)) := by
 rw [stm, hk] at h
 simp only at h
 cases q : tyE d ρ k0 with
 | error e => rw [q] at h; cases h
 | ok t =>
  rw [q] at h
  simp only at h
  refine ⟨t, rfl, ?_⟩
  split at h
  ·cases h
  ·split at h
   ·rename_i q3
    split at h
    ·cases h; exact .inl ⟨q3, rfl⟩
    ·cases h
   ·rename_i q3
    split at h
    ·rename_i q2
     split at h
     ·cases h
     ·rename_i qb
      cases h; exact .inr (.inl ⟨q2, rfl, qb⟩)
    ·rename_i q2
     cases h; exact .inr (.inr ⟨q3, q2, rfl⟩)
theorem brs_none {g : M → Except Fault Env} : ∀ {l : List M}, brs g l = none → ∀ k ∈ l, ∃ ρ, g k = .ok ρ
 | [], _, k, hk => by cases hk
 | a :: l, h, k, hk => by
  rw [brs] at h
  cases q : g a with
  | error e => rw [q] at h; cases h
  | ok ρ =>
   rw [q] at h
   rcases List.mem_cons.1 hk with rfl | hk
   ·exact ⟨ρ, q⟩
   ·exact brs_none h k hk
theorem stated_if2 {m : Nat} {x : M} (hk : x.Ab = 2) (h : Jr (m + 1) x = some true) : x.Aa.length ≤ 3 ∧ ∀ c, x.Aa[1]? = some c → c.Ab = 12 := by
 rw [Jr, if_pos (by simpa using hk)] at h
 obtain ⟨a, ha, g⟩ := bnd h
 obtain ⟨b, hb, gg⟩ := bnd g
 cases b with
 | true => rw [if_pos rfl] at gg; cases gg
 | false =>
  cases a with
  | true => rw [if_pos rfl] at hb; cases hb
  | false =>
   cases q : ((decide (x.Ac ≠ ([] : Str)) || decide ((x.Aa.length : Int) < 2)) || decide ((x.Aa.length : Int) > 3)) with
   | true => rw [q, if_pos rfl] at ha; cases ha
   | false =>
    simp only [Bool.or_eq_false_iff, decide_eq_false_iff_not] at q
    rw [if_neg (by simp)] at hb
    obtain ⟨c1, hc1, hb⟩ := bnd hb
    obtain ⟨e1, he1, hb⟩ := bnd hb
    have hb : e1 = true := by simpa using hb
    subst hb
    have g1 : x.Aa[1]? = some c1 := by unfold ix at hc1; rw [if_pos (by omega)] at hc1; exact hc1
    refine ⟨by omega, fun c hc => ?_⟩
    rw [g1] at hc; cases hc
    exact (blocked_inv he1).1
end Rt
