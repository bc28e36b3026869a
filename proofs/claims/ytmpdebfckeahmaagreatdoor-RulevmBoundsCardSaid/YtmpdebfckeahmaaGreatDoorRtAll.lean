import Derived.Test.YtmpdebfckeahmaaGreatDoorR
import Derived.Test.YtmpdebfckeahmaaGreatDoorPlain
import Derived.Test.YtmpdebfckeahmaaGreatDoorG2
import Derived.Test.YtmpdebfckeahmaaGreatDoorLS
set_option linter.unusedVariables false
set_option linter.unusedSimpArgs false
open Go Go.SL Go.Proofs Pl
namespace Rt
theorem el_go {ρ σ γ : Type} {y : σ} {f : ρ → Option γ} {g : σ → Option γ} : (Fl.go y : Fl ρ σ).el f g = g y := rfl
theorem el_ret {ρ σ γ : Type} {y : ρ} {f : ρ → Option γ} {g : σ → Option γ} : (Fl.ret y : Fl ρ σ).el f g = f y := rfl
theorem qcq {α : Type} {s : List α} {i : Int} (h0 : 0 ≤ i) (h1 : i < (s.length : Int)) : ∃ x, ix s i = some x := by
 unfold ix
 rw [qA1 h0]
 exact ⟨s[i.toNat]'(by omega), List.getElem?_eq_getElem (by omega)⟩
theorem qar {α : Type} {b : Bool} {x y : Option α} (h1 : b = true → ∃ r, x = some r) (h2 : b = false → ∃ r, y = some r) : ∃ r, (if b = true then x else y) = some r := by
 cases b with
 | true => exact h1 rfl
 | false => exact h2 rfl
theorem qiq : ∀ (s : Str) (i : Nat) (y : Str), y.length + 2 * s.length ≤ 1000000 → ∃ r, JaA s i y = some r ∧ ∀ z, r = Fl.go z → z.length ≤ 1000000
 | [], i, y, h => ⟨_, rfl, fun z e => by cases e; simpa using h⟩
 | c :: s, i, y, h => by
  simp only [List.length_cons] at h
  rw [JaA]
  have e1 : ∃ b, (if decide ((c.toNat : Int) < 32) = true then some true else some (decide ((c.toNat : Int) > 126))) = some b := qar (fun _ => ⟨_, rfl⟩) (fun _ => ⟨_, rfl⟩)
  obtain ⟨b, hb⟩ := e1
  rw [hb, qAz]
  cases b with
  | true => exact ⟨_, qA1 rfl, fun z e => by cases e⟩
  | false =>
   rw [qA0 (by simp)]
   have e2 : ∃ b, (if decide ((c.toNat : Int) = 34) = true then some true else some (decide ((c.toNat : Int) = 92))) = some b := qar (fun _ => ⟨_, rfl⟩) (fun _ => ⟨_, rfl⟩)
   obtain ⟨d, hd⟩ := e2
   rw [hd, qAz]
   cases d with
   | true =>
    rw [qA1 rfl, qaa (by simp only [lim, List.length_cons, List.length_nil]; omega), qaa (by simp only [lim, List.length_append, List.length_cons, List.length_nil]; omega)]
    exact qiq s (i + 1) _ (by simp only [List.length_append, List.length_cons, List.length_nil]; omega)
   | false =>
    rw [qA0 (by simp), qaa (by simp only [lim, List.length_cons, List.length_nil]; omega)]
    exact qiq s (i + 1) _ (by simp only [List.length_append, List.length_cons, List.length_nil]; omega)
theorem qdt {s : Str} (h : s.length ≤ 3000) : ∃ b, Jau s = some b := by
 obtain ⟨r, hr, hl⟩ := qiq s 0 [34] (by simp <;> omega)
 unfold Jau JbM
 rw [qaa (by simp only [qau]; omega), hr, qAz]
 cases r with
 | ret z => rw [el_ret]; exact ⟨_, rfl⟩
 | go z =>
  have := hl z rfl
  rw [el_go, qaa (by simp only [lim, List.length_cons, List.length_nil]; omega)]; exact ⟨_, rfl⟩
theorem qgy {s : Str} (hs : s.length ≤ 5000) : ∀ (n : Nat) (y : Str) (i : Int), 0 ≤ i → i ≤ (s.length : Int) → (s.length : Int) - i < n → (y.length : Int) + (s.length - i) ≤ 100000 → ∃ r, JaQ s n y i = some r ∧ ∀ a b, r = Fl.ret (a, b) → a = 0 ∨ (0 < a ∧ a ≤ (s.length : Int))
 | 0, y, i, h0, h3, h1, h2 => by omega
 | n + 1, y, i, h0, h3, h1, h2 => by
  rw [JaQ]
  by_cases hi : i < (s.length : Int)
  ·obtain ⟨c, hc⟩ := qcq h0 hi
   rw [qA1 (by simpa using hi), hc, qAz]
   by_cases q : (c.toNat : Int) = 34
   ·rw [qA1 (by simpa using q), qaa (by constructor <;> omega)]
    exact ⟨_, rfl, fun a b e => by cases e; right; omega⟩
   ·rw [qA0 (by simpa using q)]
    by_cases q2 : (c.toNat : Int) = 92
    ·rw [qA1 (by simpa using q2), qaa (by constructor <;> omega)]
     by_cases q3 : i + 1 = (s.length : Int)
     ·rw [qA1 (by simpa using q3)]; exact ⟨_, rfl, fun a b e => by cases e; left; rfl⟩
     ·obtain ⟨d, hd⟩ := qcq (s := s) (i := i + 1) (by omega) (by omega)
      rw [qA0 (by simpa using q3), hd, qAz]
      have e2 : ∃ b, (if decide ((d.toNat : Int) ≠ 34) = true then (some d).bind fun x40 => some (decide ((x40.toNat : Int) ≠ 92)) else some false) = some b := qar (fun _ => ⟨_, rfl⟩) (fun _ => ⟨_, rfl⟩)
      obtain ⟨b, hb⟩ := e2
      rw [hb, qAz]
      cases b with
      | true => exact ⟨_, qA1 rfl, fun a b e => by cases e; left; rfl⟩
      | false =>
       rw [qA0 (by simp), qAz, qaa (by simp only [lim, List.length_cons, List.length_nil]; omega), qaa (by constructor <;> omega)]
       exact qgy hs n _ _ (by omega) (by omega) (by omega) (by simp only [List.length_append, List.length_cons, List.length_nil]; omega)
    ·rw [qA0 (by simpa using q2)]
     refine (fun (h : ∀ b : Bool, b = (decide ((c.toNat : Int) < 32) || decide ((c.toNat : Int) > 126)) → _) => h _ rfl) fun b hb => ?_
     rw [← hb]
     cases b with
     | true => exact ⟨_, qA1 rfl, fun a b e => by cases e; left; rfl⟩
     | false =>
      rw [qA0 (by simp), qaa (by simp only [lim, List.length_cons, List.length_nil]; omega), qaa (by constructor <;> omega)]
      exact qgy hs n _ _ (by omega) (by omega) (by omega) (by simp only [List.length_append, List.length_cons, List.length_nil]; omega)
  ·rw [qA0 (by simpa using hi)]; exact ⟨_, rfl, fun a b e => by cases e⟩
theorem ql4 {s : Str} (hs : s.length ≤ 5000) : ∀ (n : Nat) (i : Int), 0 < i → i ≤ (s.length : Int) → (s.length : Int) - i < n → ∃ r, Jbi s n i = some r ∧ 0 < r ∧ r ≤ (s.length : Int)
 | 0, i, h0, h1, h2 => by omega
 | n + 1, i, h0, h1, h2 => by
  rw [Jbi]
  by_cases hi : i < (s.length : Int)
  ·obtain ⟨c, hc⟩ := qcq (by omega) hi
   rw [qA1 (by simpa using hi), hc, qAz]
   unfold JbS JbA
   rw [qAz]
   have e : ∀ b : Bool, ∃ d, (if b = true then some true else (some c).bind fun x28 => (some (decide ((x28.toNat : Int) ≥ 48) && decide ((x28.toNat : Int) ≤ 57))).bind fun x29 => some x29) = some d := fun b => qar (fun _ => ⟨_, rfl⟩) (fun _ => ⟨_, rfl⟩)
   obtain ⟨d, hd⟩ := e _
   rw [hd, qAz]
   cases d with
   | true => rw [qA1 rfl, qaa (by constructor <;> omega)]; exact ql4 hs n (i + 1) (by omega) (by omega) (by omega)
   | false => exact ⟨i, qA0 (by simp), h0, h1⟩
  ·exact ⟨i, qA0 (by simpa using hi), h0, h1⟩
theorem ql5 {s : Str} (hs : s.length ≤ 5000) : ∀ (n : Nat) (i : Int), 0 < i → i ≤ (s.length : Int) → (s.length : Int) - i < n → ∃ r, Jbj s n i = some r ∧ 0 < r ∧ r ≤ (s.length : Int)
 | 0, i, h0, h1, h2 => by omega
 | n + 1, i, h0, h1, h2 => by
  rw [Jbj]
  by_cases hi : i < (s.length : Int)
  ·obtain ⟨c, hc⟩ := qcq (by omega) hi
   rw [qA1 (by simpa using hi), hc, qAz]
   unfold JbA
   rw [qAz, qAz]
   refine (fun (h : ∀ b : Bool, b = (decide ((c.toNat : Int) ≥ 48) && decide ((c.toNat : Int) ≤ 57)) → _) => h _ rfl) fun b hb => ?_
   rw [← hb]
   cases b with
   | true => rw [qA1 rfl, qaa (by constructor <;> omega)]; exact ql5 hs n (i + 1) (by omega) (by omega) (by omega)
   | false => exact ⟨i, qA0 (by simp), h0, h1⟩
  ·rw [qA0 (by simpa using hi), qAz]
   exact ⟨i, qA0 (by simp), h0, h1⟩
theorem qew (s p : Str) : JS s p = some (decide ((s.length : Int) ≥ (p.length : Int)) && decide (subL s (0 : Int) (p.length : Int) = p)) := by
 unfold JS J6
 by_cases h : (s.length : Int) ≥ (p.length : Int)
 ·rw [qA1 (by simpa using h), qaa (by omega)]; simp [h]
 ·rw [qA0 (by simpa using h)]
  have : ¬ p.length ≤ s.length := by omega
  simp [this]
theorem ql6 {s : Str} : ∀ (k i : Nat), i + k = 14 → ∃ r, Jbk s k i = some r ∧ ∀ a b c, r = Fl.ret (a, b, c) → 0 ≤ b ∧ b ≤ (s.length : Int)
 | 0, i, h => ⟨_, rfl, fun a b c e => by cases e⟩
 | k + 1, i, h => by
  rw [Jbk]
  obtain ⟨p, hp⟩ := qcq (s := ([([61, 61] : Str), ([33, 61] : Str), ([60, 61] : Str), ([60] : Str), ([43] : Str), ([45] : Str), ([42] : Str), ([40] : Str), ([41] : Str), ([123] : Str), ([125] : Str), ([44] : Str), ([59] : Str), ([61] : Str)])) (i := (i : Int)) (by omega) (by simp; omega)
  rw [hp, qAz, qew, qAz]
  by_cases q : (decide ((s.length : Int) ≥ (p.length : Int)) && decide (subL s (0 : Int) (p.length : Int) = p)) = true
  ·rw [qA1 q]
   simp only [Bool.and_eq_true, decide_eq_true_eq] at q
   exact ⟨_, rfl, fun a b c e => by cases e; omega⟩
  ·rw [qA0 q]; exact ql6 k (i + 1) (by omega)
theorem qrz {n : Nat} {s : Str} (hn : 10000 ≤ n) (h0 : 0 < s.length) (hs : s.length ≤ 5000) : ∃ a b c, Jcp n s = some (a, b, c) ∧ 0 ≤ b ∧ b ≤ (s.length : Int) := by
 unfold Jcp
 obtain ⟨c, hc⟩ := qcq (s := s) (i := 0) (by omega) (by omega)
 rw [hc, qAz]
 unfold JbS
 rw [qAz]
 split
 ·obtain ⟨r, hr, h1, h2⟩ := ql4 hs n 1 (by omega) (by omega) (by omega)
  rw [hr, qAz, qaa (by omega)]
  exact ⟨_, _, _, rfl, by omega, h2⟩
 ·unfold JbA
  rw [qAz]
  split
  ·obtain ⟨r, hr, h1, h2⟩ := ql5 hs n 1 (by omega) (by omega) (by omega)
   rw [hr, qAz]
   split
   ·exact ⟨_, _, _, rfl, by omega, by omega⟩
   ·rw [qaa (by omega)]; exact ⟨_, _, _, rfl, by omega, h2⟩
  ·split
   ·unfold Jcy
    obtain ⟨r, hr, h1⟩ := qgy hs n [] 1 (by omega) (by omega) (by omega) (by simp; omega)
    rw [hr, qAz]
    cases r with
    | ret z =>
     obtain ⟨a, b⟩ := z
     rw [el_ret, qAz]
     have := h1 a b rfl
     exact ⟨_, _, _, rfl, by omega, by omega⟩
    | go z => rw [el_go, qAz]; exact ⟨_, _, _, rfl, by omega, by omega⟩
   ·obtain ⟨r, hr, h1⟩ := ql6 (s := s) 14 0 rfl
    rw [qaa (by constructor <;> omega), show ((14 : Int)).toNat = 14 from rfl, hr, qAz]
    cases r with
    | ret z =>
     obtain ⟨a, b, c⟩ := z
     have := h1 a b c rfl
     exact ⟨_, _, _, rfl, this.1, this.2⟩
    | go z => exact ⟨_, _, _, rfl, by omega, by omega⟩
theorem ql7 {s : Str} (hs : s.length ≤ 5000) : ∀ (n : Nat) (i : Int), 0 ≤ i → i ≤ (s.length : Int) → (s.length : Int) - i < n → ∃ r, Jbl s n i = some r ∧ i ≤ r ∧ r ≤ (s.length : Int) ∧ (∀ c, ix s i = some c → (c.toNat : Int) ≠ 10 → i < r)
 | 0, i, h0, h1, h2 => by omega
 | n + 1, i, h0, h1, h2 => by
  rw [Jbl]
  by_cases hi : i < (s.length : Int)
  ·obtain ⟨c, hc⟩ := qcq h0 hi
   rw [qA1 (by simpa using hi), hc, qAz, qAz]
   by_cases q : (c.toNat : Int) = 10
   ·exact ⟨i, qA0 (by simpa using q), by omega, h1, fun d e => by cases e; exact fun h => absurd q h⟩
   ·obtain ⟨r, hr, h3, h4, _⟩ := ql7 hs n (i + 1) (by omega) (by omega) (by omega)
    rw [qA1 (by simpa using q), qaa (by constructor <;> omega)]
    exact ⟨r, hr, by omega, h4, fun _ _ _ => by omega⟩
  ·rw [qA0 (by simpa using hi), qAz]
   refine ⟨i, qA0 (by simp), by omega, h1, fun c e => ?_⟩
   unfold ix at e
   rw [qA1 h0, List.getElem?_eq_none (by omega)] at e; cases e
theorem qde {s : Str} {m : Nat} (hm : 10000 ≤ m) (hs : s.length ≤ 5000) : ∀ (n : Nat) (y : List JF) (a b i : Int), 0 ≤ i → i ≤ (s.length : Int) → (s.length : Int) - i < n → (y.length : Int) + (s.length - i) ≤ 100000 → 0 ≤ a → a + (s.length - i) ≤ 100000 → 0 ≤ b → b ≤ i →
  ∃ r, Jac s m n y a b i = some r ∧ ∀ p q u v, r = Fl.go (p, q, u, v) → p.length ≤ 100000 ∧ 0 ≤ u ∧ u ≤ (s.length : Int)
 | 0, y, a, b, i, h0, h1, h2, h3, h4, h5, h6, h7 => by omega
 | n + 1, y, a, b, i, h0, h1, h2, h3, h4, h5, h6, h7 => by
  rw [Jac]
  by_cases hi : i < (s.length : Int)
  ·obtain ⟨c, hc⟩ := qcq h0 hi
   rw [qA1 (by simpa using hi), hc, qAz]
   split
   ·rw [qaa (by constructor <;> omega), qaa (by constructor <;> omega)]
    exact qde hm hs n _ _ _ _ (by omega) (by omega) (by omega) (by omega) (by omega) (by omega) (by omega) (by omega)
   ·rename_i h10
    split
    ·rw [qaa (by constructor <;> omega)]
     exact qde hm hs n _ _ _ _ (by omega) (by omega) (by omega) (by omega) (by omega) (by omega) (by omega) (by omega)
    ·split
     ·rw [qaa (by constructor <;> omega)]
      exact qde hm hs n _ _ _ _ (by omega) (by omega) (by omega) (by omega) (by omega) (by omega) (by omega) (by omega)
     ·split
      ·rw [qaa (by constructor <;> omega)]
       exact qde hm hs n _ _ _ _ (by omega) (by omega) (by omega) (by omega) (by omega) (by omega) (by omega) (by omega)
      ·split
       ·obtain ⟨r, hr, g1, g2, g3⟩ := ql7 hs m i h0 h1 (by omega)
        have := g3 c hc (by simpa using h10)
        rw [hr, qAz]
        exact qde hm hs n _ _ _ _ (by omega) (by omega) (by omega) (by omega) (by omega) (by omega) (by omega) (by omega)
       ·have hsl : (subL s i (s.length : Int)).length = s.length - i.toNat := by
         unfold subL
         rw [List.length_take, List.length_drop]; omega
        rw [qaa (by omega)]
        obtain ⟨u, v, w, hr, g1, g2⟩ := qrz (n := m) (s := subL s i (s.length : Int)) hm (by omega) (by omega)
        rw [hr, qAz]
        split
        ·exact ⟨_, rfl, fun p q u v e => by cases e⟩
        ·rename_i hz
         have hz' : v ≠ 0 := by simpa using hz
         rw [qaa (by constructor <;> omega), qaa (by constructor <;> omega), qaa (by simp only [lim, List.length_cons, List.length_nil]; omega), qaa (by constructor <;> simp only <;> omega)]
         exact qde hm hs n _ _ _ _ (by simp only; omega) (by simp only; omega) (by simp only; omega) (by simp only [List.length_append, List.length_cons, List.length_nil]; omega) (by omega) (by simp only; omega) (by omega) (by simp only; omega)
  ·rw [qA0 (by simpa using hi)]
   exact ⟨_, rfl, fun p q u v e => by cases e; omega⟩
theorem qf8 {n : Nat} {s : Str} (hn : 10000 ≤ n) : ∃ r, Jcq n s = some r := by
 unfold Jcq
 by_cases h : (s.length : Int) > 4096
 ·exact ⟨_, qA1 (by simpa using h)⟩
 ·obtain ⟨r, hr, h1⟩ := qde hn (s := s) (by omega) n [] 1 0 0 (by omega) (by omega) (by omega) (by simp; omega) (by omega) (by omega) (by omega) (by omega)
  rw [qA0 (by simpa using h), hr, qAz]
  cases r with
  | ret z => rw [el_ret]; exact ⟨_, rfl⟩
  | go z =>
   obtain ⟨p, q, u, v⟩ := z
   obtain ⟨g1, g2, g3⟩ := h1 p q u v rfl
   rw [el_go, qaa (by constructor <;> simp only <;> omega), qaa (by constructor <;> simp only <;> omega), qaa (by simp only [lim, List.length_cons, List.length_nil]; omega)]
   exact ⟨_, rfl⟩
theorem ql8 (v : Str) : ∀ (l : List Str) (i : Nat), ∃ r, J2 v l i = some r
 | [], i => ⟨_, rfl⟩
 | x :: l, i => by
  rw [J2]
  exact qar (fun _ => ⟨_, rfl⟩) (fun _ => ql8 v l (i + 1))
theorem qnu (s : Str) : ∃ b, Jb0 s = some b := by
 obtain ⟨r, hr⟩ := ql8 s gkw0 0
 unfold Jb0 JL Jbs
 rw [qaa (by decide), hr, qAz]
 cases r <;> exact ⟨_, rfl⟩
theorem qav {α β : Type} {o : Option α} {f : α → Option β} (h1 : ∃ a, o = some a) (h2 : ∀ a, o = some a → ∃ r, f a = some r) : ∃ r, o.bind f = some r := by
 obtain ⟨a, ha⟩ := h1
 rw [ha, qAz]; exact h2 a ha
theorem qir {n : Nat} (hn : 10000 ≤ n) (s : Str) : ∃ b, JbF n s = some b := by
 unfold JbF
 refine qav (qf8 hn) fun r _ => ?_
 refine qav (qar (fun h => ?_) fun _ => ⟨_, rfl⟩) fun b hb => ?_
 ·simp only [Bool.and_eq_true, decide_eq_true_eq] at h
  exact qav (qcq (by omega) (by omega)) fun _ _ => ⟨_, rfl⟩
 ·refine qav (qar (fun h => ?_) fun _ => ⟨_, rfl⟩) fun d hd => ?_
  ·subst h
   cases q : (r.2.isNone && decide ((r.1.length : Int) = 2)) with
   | false => rw [q, qA0 (by simp)] at hb; cases hb
   | true =>
    simp only [Bool.and_eq_true, decide_eq_true_eq] at q
    exact qav (qcq (by omega) (by omega)) fun _ _ => ⟨_, rfl⟩
  ·refine qav (qar (fun h => qav (qnu s) fun _ _ => ⟨_, rfl⟩) fun _ => ⟨_, rfl⟩) fun d hd => ⟨_, rfl⟩
theorem qjm : ∀ (s : Str) (i : Nat), ∃ r, Jat s i = some r
 | [], i => ⟨_, rfl⟩
 | c :: s, i => by
  rw [Jat]
  exact qav (qar (fun _ => ⟨_, rfl⟩) fun _ => ⟨_, rfl⟩) fun _ _ => qar (fun _ => ⟨_, rfl⟩) fun _ => qjm s (i + 1)
theorem qpd {s : Str} (h : s.length ≤ 3000) : ∃ b, Jbu s = some b := by
 obtain ⟨r, hr⟩ := qjm s 0
 unfold Jbu
 rw [qaa (by simp only [qau]; omega), hr, qAz]
 cases r <;> exact ⟨_, rfl⟩
theorem qgz (k : Int) (s : Str) : ∃ b, JaF k s = some b := by
 unfold JaF
 repeat (refine qar (fun _ => ⟨_, rfl⟩) fun _ => ?_)
 exact ⟨_, rfl⟩
abbrev M := Ja
abbrev N := Je
def Ok : Nat → M → Prop
 | 0, _ => False
 | d + 1, x => x.Ac.length ≤ 3000 ∧ x.Aa.length ≤ 700 ∧ ∀ k ∈ x.Aa, Ok d k
theorem Ok.succ : ∀ {d : Nat} {x : M}, Ok d x → Ok (d + 1) x
 | d + 1, x, h => ⟨h.1, h.2.1, fun k hk => (h.2.2 k hk).succ⟩
theorem qkv {n : Nat} (hn : 10000 ≤ n) {x : M} (ht : x.Ac.length ≤ 3000) : ∃ k, JT n x = some k ∧ (x.Ab = 16 → k = 2 ∨ k = -2) := by
 have st : ∀ {b : Bool} {p q : Option Int} {P : Int → Prop}, (b = true → ∃ k, p = some k ∧ P k) → (b = false → ∃ k, q = some k ∧ P k) → ∃ k, (if b = true then p else q) = some k ∧ P k := fun {b p q P} h1 h2 => by
  cases b with
  | true => exact h1 rfl
  | false => exact h2 rfl
 have bd : ∀ {β : Type} {o : Option β} {f : β → Option Int} {P : Int → Prop}, (∃ a, o = some a) → (∀ a, ∃ k, f a = some k ∧ P k) → ∃ k, o.bind f = some k ∧ P k := fun {β o f P} h1 h2 => by
  obtain ⟨a, ha⟩ := h1
  rw [ha, qAz]; exact h2 a
 have two : ∀ {b : Bool} {q : Int}, (x.Ab = 16 → q = 2) → ∃ k, (if b = true then some (-2) else some q : Option Int) = some k ∧ (x.Ab = 16 → k = 2 ∨ k = -2) := fun {b q} hq => st (fun _ => ⟨_, rfl, fun _ => .inr rfl⟩) fun _ => ⟨_, rfl, fun h => .inl (hq h)⟩
 unfold JT
 refine st (fun _ => two fun _ => rfl) fun _ => ?_
 refine st (fun _ => two fun _ => rfl) fun _ => ?_
 refine st (fun _ => two fun _ => rfl) fun _ => ?_
 refine st (fun _ => two fun _ => rfl) fun _ => ?_
 refine st (fun _ => two fun _ => rfl) fun _ => ?_
 refine st (fun h => two fun h2 => by have h := of_decide_eq_true h; omega) fun _ => ?_
 refine st (fun _ => bd (qgz 4 _) fun a => bd (qar (fun _ => ⟨_, rfl⟩) fun _ => qav (qgz 1 _) fun _ _ => ⟨_, rfl⟩) fun b => two fun _ => rfl) fun h16 => ?_
 have h16 : x.Ab ≠ 16 := of_decide_eq_false h16
 refine st (fun _ => bd (qpd ht) fun a => two fun h => absurd h h16) fun _ => ?_
 refine st (fun _ => bd (qdt ht) fun a => two fun h => absurd h h16) fun _ => ?_
 refine st (fun _ => two fun h => absurd h h16) fun _ => ?_
 refine st (fun _ => bd (qir hn _) fun a => two fun h => absurd h h16) fun _ => ?_
 refine st (fun _ => bd (qir hn _) fun a => two fun h => absurd h h16) fun _ => ?_
 exact ⟨_, rfl, fun _ => .inr rfl⟩
theorem qex {f : M → Option Bool} : ∀ (l : List M) (i : Nat), (∀ k ∈ l, ∃ b, f k = some b) → ∃ r, JM f l i = some r
 | [], i, _ => ⟨_, rfl⟩
 | k :: l, i, h => by
  rw [JM]
  exact qav (h k (by simp)) fun _ _ => qar (fun _ => ⟨_, rfl⟩) fun _ => qex l (i + 1) fun k hk => h k (by simp [hk])
theorem qey : ∀ (d n : Nat) (x : M), Ok d x → d + 10000 ≤ n → ∃ b, Js n x = some b
 | d + 1, 0, x, h, hn => by omega
 | d + 1, n + 1, x, h, hn => by
  obtain ⟨h1, h2, h3⟩ := h
  obtain ⟨k, hk, _⟩ := qkv (n := n) (by omega) h1
  rw [Js]
  rw [hk, qAz]
  refine qar (fun _ => ⟨_, rfl⟩) fun _ => qar (fun _ => ⟨_, rfl⟩) fun _ => ?_
  rw [qaa (by simp only [qau]; omega)]
  obtain ⟨r, hr⟩ := qex (f := Js n) x.Aa 0 fun c hc => qey d n c (h3 c hc) (by omega)
  rw [hr, qAz]
  cases r <;> exact ⟨_, rfl⟩
theorem qc5 {f : M → Option Bool} : ∀ (l : List M) (i : Nat), (JM f l i).bind (fun s0 => s0.el some fun t0 => some true) = some true → ∀ k ∈ l, f k = some true
 | [], i, _, k, hk => by cases hk
 | a :: l, i, h, k, hk => by
  rw [JM] at h
  cases ha : f a with
  | none => rw [ha] at h; cases h
  | some b =>
   rw [ha, qAz] at h
   cases b with
   | false => simp [Fl.el] at h
   | true =>
    rw [qA0 (by simp)] at h
    rcases List.mem_cons.1 hk with rfl | hk
    ·exact ha
    ·exact qc5 l (i + 1) h k hk
theorem qcc {n : Nat} {x : M} (h : Js n x = some true) : ∃ m k, n = m + 1 ∧ JT m x = some k ∧ k ≠ -2 ∧ (0 ≤ k → (x.Aa.length : Int) = k) ∧ ∀ c ∈ x.Aa, Js m c = some true := by
 cases n with
 | zero => rw [Js] at h; cases h
 | succ m =>
  rw [Js] at h
  obtain ⟨k, hk, h⟩ := bnd h
  refine ⟨m, k, rfl, hk, ?_⟩
  cases q : decide (k = -2) with
  | true => rw [q, qA1 rfl] at h; cases h
  | false =>
   rw [q, qA0 (by simp)] at h
   refine ⟨of_decide_eq_false q, ?_⟩
   cases q2 : (decide (k ≥ 0) && decide ((x.Aa.length : Int) ≠ k)) with
   | true => rw [q2, qA1 rfl] at h; cases h
   | false =>
    rw [q2, qA0 (by simp)] at h
    obtain ⟨_, h⟩ := qa2 h
    refine ⟨fun h0 => ?_, qc5 x.Aa 0 h⟩
    simp only [Bool.and_eq_false_iff, decide_eq_false_iff_not] at q2
    omega
theorem qhw {f : M → Option Bool} : ∀ (l : List M) (i : Nat), (∀ k ∈ l, ∃ b, f k = some b) → ∃ r, Jal f l i = some r
 | [], i, _ => ⟨_, rfl⟩
 | k :: l, i, h => by
  rw [Jal]
  exact qav (h k (by simp)) fun _ _ => qar (fun _ => ⟨_, rfl⟩) fun _ => qhw l (i + 1) fun k hk => h k (by simp [hk])
theorem qnv {f : M → Option Bool} {n : Nat} {x : M} (hl : x.Aa.length ≤ 700) (h : ∀ k ∈ x.Aa, ∃ b, f k = some b) : ∃ b, JaO f n x = some b := by
 unfold JaO
 refine qar (fun _ => ⟨_, rfl⟩) fun _ => ?_
 rw [qaa (by simp only [qau]; omega)]
 obtain ⟨r, hr⟩ := qhw (f := f) x.Aa 0 h
 rw [hr, qAz]
 cases r <;> exact ⟨_, rfl⟩
theorem qd7 {f : M → Option Bool} : ∀ (l : List M) (i : Nat), (Jal f l i).bind (fun s0 => s0.el some fun t0 => some true) = some true → ∀ k ∈ l, f k = some true
 | [], i, _, k, hk => by cases hk
 | a :: l, i, h, k, hk => by
  rw [Jal] at h
  cases ha : f a with
  | none => rw [ha] at h; cases h
  | some b =>
   rw [ha, qAz] at h
   cases b with
   | false => simp [Fl.el] at h
   | true =>
    rw [qA0 (by simp)] at h
    rcases List.mem_cons.1 hk with rfl | hk
    ·exact ha
    ·exact qd7 l (i + 1) h k hk
theorem qcr {f : M → Option Bool} {n : Nat} {x : M} (h : JaO f n x = some true) : x.Ab = 12 ∧ ∀ k ∈ x.Aa, f k = some true := by
 unfold JaO at h
 cases q : (decide (x.Ab ≠ 12) || decide (x.Ac ≠ ([] : Str))) with
 | true => rw [q, qA1 rfl] at h; cases h
 | false =>
  rw [q, qA0 (by simp)] at h
  obtain ⟨_, h⟩ := qa2 h
  simp only [Bool.or_eq_false_iff, decide_eq_false_iff_not, Classical.not_not] at q
  exact ⟨q.1, qd7 x.Aa 0 h⟩
theorem qg0 : ∀ (d n : Nat) (x : M), Ok d x → d + 10000 ≤ n → ∃ b, Jz n x = some b
 | d + 1, 0, x, h, hn => by omega
 | d + 1, n + 1, x, h, hn => by
  obtain ⟨h1, h2, h3⟩ := h
  have ex : ∀ c ∈ x.Aa, ∃ b, Js n c = some b := fun c hc => qey d n c (h3 c hc) (by omega)
  have stt : ∀ c ∈ x.Aa, ∃ b, Jz n c = some b := fun c hc => qg0 d n c (h3 c hc) (by omega)
  have bl : ∀ c ∈ x.Aa, ∃ b, JaO (Jz n) n c = some b := fun c hc => by
   cases d with
   | zero => exact (h3 c hc).elim
   | succ e =>
    have hk := h3 c hc
    exact qnv hk.2.1 fun k hk2 => qg0 e n k (hk.2.2 k hk2) (by omega)
  have mem : ∀ {i : Int} {c : M}, ix x.Aa i = some c → c ∈ x.Aa := fun {i c} h => by
   unfold ix at h
   split at h
   ·exact List.mem_of_getElem? h
   ·cases h
  have one : ∃ b, (if decide ((x.Aa.length : Int) = 1) then (ix x.Aa 0).bind fun x121 => (Js n x121).bind fun x123 => some x123 else some false).bind (fun x124 => some x124) = some b :=
   qav (qar (fun h => qav (qcq (by omega) (by have := of_decide_eq_true h; omega)) fun c hc => qav (ex c (mem hc)) fun _ _ => ⟨_, rfl⟩) fun _ => ⟨_, rfl⟩) fun _ _ => ⟨_, rfl⟩
  rw [Jz]
  refine qar (fun _ => ?_) fun _ => ?_
  ·refine qav (qar (fun _ => ⟨_, rfl⟩) fun h => ?_) fun a ha => ?_
   ·simp only [Bool.or_eq_false_iff, decide_eq_false_iff_not] at h
    exact qav (qcq (by omega) (by omega)) fun c hc => qav (ex c (mem hc)) fun _ _ => ⟨_, rfl⟩
   ·have hlen : a = false → 2 ≤ x.Aa.length ∧ x.Aa.length ≤ 3 := fun e => by
     subst e
     cases q : ((decide (x.Ac ≠ ([] : Str)) || decide ((x.Aa.length : Int) < 2)) || decide ((x.Aa.length : Int) > 3)) with
     | true => rw [q, qA1 rfl] at ha; cases ha
     | false => simp only [Bool.or_eq_false_iff, decide_eq_false_iff_not] at q; omega
    refine qav (qar (fun _ => ⟨_, rfl⟩) fun h => qav (qcq (by omega) (by have := hlen h; omega)) fun c hc => qav (bl c (mem hc)) fun _ _ => ⟨_, rfl⟩) fun b hb => ?_
    refine qar (fun _ => ⟨_, rfl⟩) fun hbf => ?_
    have ha' : a = false := by
     cases a with
     | false => rfl
     | true => rw [qA1 rfl] at hb; cases hb; cases hbf
    have hl := hlen ha'
    refine qav (qar (fun _ => ⟨_, rfl⟩) fun h => qav (qcq (by omega) (by have := of_decide_eq_false h; omega)) fun c hc => qav (bl c (mem hc)) fun _ _ => ⟨_, rfl⟩) fun e he => ?_
    refine qar (fun _ => ⟨_, rfl⟩) fun hef => ?_
    have h3' : x.Aa.length = 3 := by
     cases q : decide ((x.Aa.length : Int) = 2) with
     | true => rw [q, qA1 rfl] at he; cases he; cases hef
     | false => have := of_decide_eq_false q; omega
    refine qav (qcq (by omega) (by omega)) fun c hc => ?_
    refine qav (qar (fun _ => ?_) fun _ => ⟨_, rfl⟩) fun _ _ => ⟨_, rfl⟩
    rw [hc, qAz]
    exact qav (stt c (mem hc)) fun _ _ => ⟨_, rfl⟩
  ·refine qar (fun _ => qav (qdt h1) fun _ _ => ⟨_, rfl⟩) fun _ => ?_
   refine qar (fun _ => ⟨_, rfl⟩) fun _ => ?_
   refine qar (fun _ => ⟨_, rfl⟩) fun _ => ?_
   refine qar (fun _ => qav (qir (by omega) _) fun _ _ => qar (fun _ => ⟨_, rfl⟩) fun _ => one) fun _ => ?_
   refine qar (fun _ => qar (fun _ => ⟨_, rfl⟩) fun _ => one) fun _ => ?_
   refine qar (fun _ => qav (qdt h1) fun _ _ => qar (fun _ => ⟨_, rfl⟩) fun _ => one) fun _ => ?_
   refine qar (fun _ => qar (fun _ => ⟨_, rfl⟩) fun _ => one) fun _ => ?_
   refine qar (fun _ => qar (fun _ => ⟨_, rfl⟩) fun _ => one) fun _ => ?_
   refine qar (fun _ => qar (fun _ => ⟨_, rfl⟩) fun _ => one) fun _ => ?_
   exact ⟨_, rfl⟩
theorem ql9 {f : M → Int → Int → Option (Bool × Int)} {d : Int} (hd : -1000 ≤ d ∧ d ≤ 1000) : ∀ (l : List M) (i : Nat) (y : Int), 0 ≤ y → y ≤ 1000 → (∀ k ∈ l, ∀ z, 0 ≤ z → z ≤ 1000 → ∃ b m, f k z (d - 1) = some (b, m) ∧ (b = true → 0 ≤ m) ∧ m ≤ 1000) →
  ∃ r, JaE d f l i y = some r ∧ (∀ z, r = Fl.go z → 0 ≤ z ∧ z ≤ 1000) ∧ ∀ z, r = Fl.ret z → z.1 = false ∧ z.2 ≤ 1000
 | [], i, y, h0, h1, _ => ⟨_, rfl, fun z e => by cases e; exact ⟨h0, h1⟩, fun z e => by cases e⟩
 | k :: l, i, y, h0, h1, h => by
  obtain ⟨b, m, hk, hb, hm⟩ := h k (by simp) y h0 h1
  rw [JaE, qaa (by constructor <;> omega), hk, qAz]
  cases b with
  | false => exact ⟨_, qA1 rfl, fun z e => (by cases e), fun z e => by cases e; exact ⟨rfl, hm⟩⟩
  | true => rw [qA0 (by simp)]; exact ql9 hd l (i + 1) m (hb rfl) hm fun k hk => h k (by simp [hk])
theorem qma : ∀ (d n : Nat) (x : M) (z e : Int), Ok d x → d + 1 ≤ n → 0 ≤ z → z ≤ 1000 → 0 ≤ e → e ≤ 1000 → ∃ b m, JaC n x z e = some (b, m) ∧ (b = true → 0 ≤ m) ∧ m ≤ 1000
 | d + 1, 0, x, z, e, h, hn, _, _, _, _ => by omega
 | d + 1, n + 1, x, z, e, h, hn, h0, h1, e0, e1 => by
  obtain ⟨g1, g2, g3⟩ := h
  rw [JaC, qaa (by constructor <;> omega)]
  cases q : (decide (z - 1 < 0) || decide (e < 1)) with
  | true => exact ⟨false, z - 1, qA1 rfl, fun h => (by cases h), by omega⟩
  | false =>
   simp only [Bool.or_eq_false_iff, decide_eq_false_iff_not] at q
   rw [qA0 (by simp), qaa (by simp only [qau]; omega)]
   obtain ⟨r, hr, r1, r2⟩ := ql9 (f := JaC n) (d := e) (by omega) x.Aa 0 (z - 1) (by omega) (by omega) fun k hk y y0 y1 => qma d n k y (e - 1) (g3 k hk) (by omega) y0 y1 (by omega) (by omega)
   rw [hr, qAz]
   cases r with
   | ret w => exact ⟨w.1, w.2, rfl, (fun h => by rw [(r2 w rfl).1] at h; cases h), (r2 w rfl).2⟩
   | go w => exact ⟨true, w, rfl, fun _ => (r1 w rfl).1, (r1 w rfl).2⟩
theorem qmb {n : Nat} : ∀ (l : List M) (i : Nat), (∀ k ∈ l, ∃ b, Jz n k = some b) → ∃ r, JaG n l i = some r
 | [], i, _ => ⟨_, rfl⟩
 | k :: l, i, h => by
  rw [JaG]
  exact qav (h k (by simp)) fun _ _ => qar (fun _ => ⟨_, rfl⟩) fun _ => qmb l (i + 1) fun k hk => h k (by simp [hk])
theorem qfw {n : Nat} : ∀ (l : List M) (i : Nat), (JaG n l i).bind (fun s0 => s0.el some fun t0 => some true) = some true → ∀ k ∈ l, Jz n k = some true
 | [], i, _, k, hk => by cases hk
 | a :: l, i, h, k, hk => by
  rw [JaG] at h
  cases ha : Jz n a with
  | none => rw [ha] at h; cases h
  | some b =>
   rw [ha, qAz] at h
   cases b with
   | false => simp [Fl.el] at h
   | true =>
    rw [qA0 (by simp)] at h
    rcases List.mem_cons.1 hk with rfl | hk
    ·exact ha
    ·exact qfw l (i + 1) h k hk
theorem qmc {d n : Nat} {x : M} (h : Ok d x) (hn : d + 10000 ≤ n) : ∃ b, Jah n x = some b := by
 cases d with
 | zero => exact h.elim
 | succ d =>
  obtain ⟨b, m, hs, _, _⟩ := qma (d + 1) n x 512 32 h (by omega) (by omega) (by omega) (by omega) (by omega)
  unfold Jah
  refine qar (fun _ => ⟨_, rfl⟩) fun _ => ?_
  rw [hs, qAz]
  refine qar (fun _ => ⟨_, rfl⟩) fun _ => ?_
  have := h.2.1
  rw [qaa (by simp only [qau]; omega)]
  obtain ⟨r, hr⟩ := qmb (n := n) x.Aa 0 fun k hk => qg0 d n k (h.2.2 k hk) (by omega)
  rw [hr, qAz]
  cases r <;> exact ⟨_, rfl⟩
theorem qdu {n : Nat} {x : M} (h : Jah n x = some true) : ∀ k ∈ x.Aa, Jz n k = some true := by
 unfold Jah at h
 split at h
 ·cases h
 ·obtain ⟨s, hs, h⟩ := bnd h
  split at h
  ·cases h
  ·obtain ⟨_, h⟩ := qa2 h
   exact qfw x.Aa 0 h
abbrev Ck := Jn
abbrev Bd := Jk
theorem qjn {env : List Bd} {s : Str} (hl : env.length ≤ 100000) : ∀ (n : Nat) (i : Int), -1 ≤ i → i < (env.length : Int) → i + 1 < n → ∃ r, Jai env s n i = some r
 | 0, i, _, _, h => by omega
 | n + 1, i, h0, h1, h => by
  rw [Jai]
  refine qar (fun hi => ?_) fun _ => ⟨_, rfl⟩
  have hi := of_decide_eq_true hi
  obtain ⟨b, hb⟩ := qcq (s := env) (i := i) (by omega) (by omega)
  rw [hb, qAz]
  refine qar (fun _ => ⟨_, rfl⟩) fun _ => ?_
  rw [qaa (by constructor <;> omega)]
  exact qjn hl n (i - 1) (by omega) (by omega) (by omega)
theorem qgo {env : List Bd} {s : Str} {n : Nat} (hl : env.length ≤ 100000) (hn : env.length + 1 ≤ n) : ∃ t, JaX n s env = some t := by
 unfold JaX
 obtain ⟨r, hr⟩ := qjn (s := s) hl n ((env.length : Int) - 1) (by omega) (by omega) (by omega)
 rw [qaa (by constructor <;> omega), hr, qAz]
 cases r with
 | ret z => exact ⟨_, rfl⟩
 | go z => rw [el_go]; exact qav ⟨_, rfl⟩ fun _ _ => qar (fun _ => ⟨_, rfl⟩) fun _ => ⟨_, rfl⟩
theorem qtf (t : Int) : ∀ (l : List Int) (i : Nat), ∃ r, JN t l i = some r
 | [], i => ⟨_, rfl⟩
 | x :: l, i => by
  rw [JN]
  exact qar (fun _ => ⟨_, rfl⟩) fun _ => qtf t l (i + 1)
theorem qtg (t : Int) {l : List Int} (h : l.length ≤ 1000) : ∃ b, Jv t l = some b := by
 obtain ⟨r, hr⟩ := qtf t l 0
 unfold Jv
 rw [qaa (by simp only [qau]; omega), hr, qAz]
 cases r <;> exact ⟨_, rfl⟩
theorem qg1 {x : M} {l : List Int} (h : l.length ≤ 1000) (h16 : x.Ab = 16 → l.length = 2) : ∃ t, JJ x l = some t := by
 have one : ∀ (t a : Int), ∃ r, (Jv t l).bind (fun x => if x = true then some a else some 0) = some r := fun t a => qav (qtg t h) fun _ _ => qar (fun _ => ⟨_, rfl⟩) fun _ => ⟨_, rfl⟩
 unfold JJ
 refine qar (fun _ => qav (qtg 1 h) fun _ _ => qar (fun _ => ⟨_, rfl⟩) fun _ => one 2 2) fun _ => ?_
 refine qar (fun _ => one 2 2) fun _ => ?_
 refine qar (fun _ => one 2 2) fun _ => ?_
 refine qar (fun _ => one 3 3) fun _ => ?_
 refine qar (fun _ => one 3 3) fun _ => ?_
 refine qar (fun _ => one 3 3) fun _ => ?_
 refine qar (fun hk => ?_) fun _ => ⟨_, rfl⟩
 have h2 := h16 (of_decide_eq_true hk)
 have cmp : ∃ r, (ix l 0).bind (fun x36 => (ix l 1).bind fun x39 => if decide (x36 = x39) = true then some (3 : Int) else some 0) = some r := qav (qcq (by omega) (by omega)) fun _ _ => qav (qcq (by omega) (by omega)) fun _ _ => qar (fun _ => ⟨_, rfl⟩) fun _ => ⟨_, rfl⟩
 refine qar (fun _ => cmp) fun _ => ?_
 refine qar (fun _ => cmp) fun _ => ?_
 refine qar (fun _ => one 2 3) fun _ => ?_
 refine qar (fun _ => one 2 3) fun _ => ?_
 exact one 1 3
theorem qfi (c : Ck) (x : M) (e : Err) : ∃ r, JH c x e = some r := by
 unfold JH
 exact qar (fun _ => ⟨_, rfl⟩) fun _ => ⟨_, rfl⟩
theorem qg2 (s : Str) : ∃ r, Jan s = some r := by
 unfold Jan
 repeat (refine qar (fun _ => ⟨_, rfl⟩) fun _ => ?_)
 exact ⟨_, rfl⟩
theorem qu1 (c : Ck) (x : M) (l : List Int) : ∃ r, JY c x l = some r := by
 unfold JY
 refine qav (qg2 _) fun f _ => qar (fun _ => qav (qfi _ _ _) fun _ _ => ⟨_, rfl⟩) fun _ => ?_
 refine qav (qar (fun _ => ⟨_, rfl⟩) fun h => ?_) fun _ _ => qar (fun _ => qav (qfi _ _ _) fun _ _ => ⟨_, rfl⟩) fun _ => ⟨_, rfl⟩
 have h := of_decide_eq_false h
 exact qav (qcq (by omega) (by omega)) fun _ _ => ⟨_, rfl⟩
theorem qmd {f : Ck → M → List Bd → Option (Int × Ck)} {env : List Bd} : ∀ (l : List M) (i : Nat) (y : List Int) (a : Int) (e : Err), (∀ k ∈ l, ∀ c, ∃ r, f c k env = some r) → y.length + l.length ≤ 1000 →
  ∃ r, JK f env l i y a e = some r ∧ ∀ z, r = Fl.go z → z.1.length = y.length + l.length
 | [], i, y, a, e, _, _ => ⟨_, rfl, fun z h => by cases h; rfl⟩
 | k :: l, i, y, a, e, h, hy => by
  simp only [List.length_cons] at hy
  obtain ⟨r, hr⟩ := h k (by simp) ⟨a, e⟩
  rw [JK, hr, qAz, qaa (by simp only [lim, List.length_cons, List.length_nil]; omega)]
  cases q : r.2.err.isSome with
  | true => exact ⟨_, qA1 rfl, fun z h => by cases h⟩
  | false =>
   rw [qA0 (by simp)]
   obtain ⟨r', hr', hl⟩ := qmd (f := f) (env := env) l (i + 1) (y ++ [r.1]) r.2.line r.2.err (fun k hk => h k (by simp [hk])) (by simp only [List.length_append, List.length_cons, List.length_nil]; omega)
   exact ⟨r', hr', fun z hz => by rw [hl z hz]; simp only [List.length_append, List.length_cons, List.length_nil]; omega⟩
theorem operands_16 {m : Nat} {x : M} {k : Int} (hk : x.Ab = 16) (h : JT m x = some k) : k = 2 ∨ k = -2 := by
 unfold JT at h
 rw [hk] at h
 rw [qA0 (by decide), qA0 (by decide), qA0 (by decide), qA0 (by decide), qA0 (by decide), qA0 (by decide), qA1 (by decide)] at h
 obtain ⟨a, _, h⟩ := bnd h
 obtain ⟨b, _, h⟩ := bnd h
 split at h <;> cases h <;> simp
theorem qme {env : List Bd} (he : env.length ≤ 100000) : ∀ (d n m : Nat) (x : M) (c : Ck), Ok d x → Js m x = some true → d + 200000 ≤ n → ∃ r, JE n c x env = some r
 | d + 1, 0, m, x, c, _, _, hn => by omega
 | d + 1, n + 1, m, x, c, h, hv, hn => by
  obtain ⟨h1, h2, h3⟩ := h
  obtain ⟨m', k, rfl, hk, k2, k3, k4⟩ := qcc hv
  obtain ⟨r, hr, hl⟩ := qmd (f := JE n) (env := env) x.Aa 0 [] c.line c.err (fun q hq c' => qme he d n m' q c' (h3 q hq) (k4 q hq) (by omega)) (by simp <;> omega)
  rw [JE, qaa (by simp only [qau]; omega), hr, qAz]
  cases r with
  | ret z => exact ⟨_, rfl⟩
  | go z =>
   have hz := hl z rfl
   simp only [List.length_nil, Nat.zero_add] at hz
   rw [el_go]
   refine qar (fun _ => ⟨_, rfl⟩) fun _ => ?_
   refine qar (fun _ => ⟨_, rfl⟩) fun _ => ?_
   refine qar (fun _ => ⟨_, rfl⟩) fun _ => ?_
   refine qar (fun _ => qav (qgo he (by omega)) fun _ _ => qar (fun _ => qav (qfi _ _ _) fun _ _ => ⟨_, rfl⟩) fun _ => ⟨_, rfl⟩) fun _ => ?_
   refine qar (fun _ => qav (qu1 _ _ _) fun _ _ => ⟨_, rfl⟩) fun _ => ?_
   refine qav (qg1 (by omega) fun h16 => ?_) fun _ _ => qar (fun _ => qav (qfi _ _ _) fun _ _ => ⟨_, rfl⟩) fun _ => ⟨_, rfl⟩
   rcases operands_16 h16 hk with rfl | rfl
   ·have := k3 (by omega); omega
   ·exact absurd rfl k2
theorem qr0 (x : M) : ∃ t, JbG x = some t := by
 unfold JbG
 repeat (refine qar (fun _ => ⟨_, rfl⟩) fun _ => ?_)
 exact ⟨_, rfl⟩
theorem qkw {env : List Bd} {s : Str} {n : Nat} (hl : env.length ≤ 100000) (hn : env.length + 1 ≤ n) : ∃ t, JaR n s env = some t := by
 unfold JaR
 exact qav (qgo hl hn) fun _ _ => ⟨_, rfl⟩
theorem qdf {env : List Bd} {s : Str} {t : Int} (hl : env.length ≤ 100000) : Jae env s t = some (env ++ [⟨s, t⟩]) := by
 unfold Jae
 rw [qaa (by constructor <;> omega), qaa (by simp only [lim]; omega), qaa (by simp only [lim, List.length_nil]; omega), qaa (by simp only [lim, List.length_append, List.length_cons, List.length_nil]; omega)]; rfl
theorem qbs {n : Nat} {x : M} (h : Jz n x = some true) : ∃ m, n = m + 1 ∧ (∀ c, x.Aa[0]? = some c → Js m c = some true) ∧
  (x.Ab = 2 → 2 ≤ x.Aa.length ∧ ∀ c ∈ x.Aa.drop 1, (c.Ab = 12 ∧ ∀ k ∈ c.Aa, Jz m k = some true) ∨ (c.Ab ≠ 12 ∧ Jz m c = some true)) := by
 cases n with
 | zero => rw [Jz] at h; cases h
 | succ m =>
  have one : (if decide ((x.Aa.length : Int) = 1) then (ix x.Aa 0).bind fun x121 => (Js m x121).bind fun x123 => some x123 else some false).bind (fun x124 => some x124) = some true → ∀ c, x.Aa[0]? = some c → Js m c = some true := fun h c hc => by
   obtain ⟨b, hb, h⟩ := bnd h
   cases h
   split at hb
   ·have hx : ix x.Aa 0 = some c := by unfold ix; rw [qA1 (by omega)]; exact hc
    rw [hx, qAz] at hb
    obtain ⟨b2, hb2, hb⟩ := bnd hb
    cases hb; exact hb2
   ·cases hb
  have nil : (x.Aa.length : Int) = 0 → ∀ c, x.Aa[0]? = some c → Js m c = some true := fun h c hc => by
   rw [List.getElem?_eq_none (by omega)] at hc; cases hc
  refine ⟨m, rfl, ?_⟩
  rw [Jz] at h
  by_cases k2 : x.Ab = 2
  ·rw [qA1 (by simpa using k2)] at h
   obtain ⟨a, ha, g⟩ := bnd h
   obtain ⟨b, hb, gg⟩ := bnd g
   cases b with
   | true => rw [qA1 rfl] at gg; cases gg
   | false =>
    rw [qA0 (by simp)] at gg
    cases a with
    | true => rw [qA1 rfl] at hb; cases hb
    | false =>
     cases q : ((decide (x.Ac ≠ ([] : Str)) || decide ((x.Aa.length : Int) < 2)) || decide ((x.Aa.length : Int) > 3)) with
     | true => rw [q, qA1 rfl] at ha; cases ha
     | false =>
      rw [q, qA0 (by simp)] at ha
      simp only [Bool.or_eq_false_iff, decide_eq_false_iff_not] at q
      rw [qA0 (by simp)] at hb
      obtain ⟨c0, hc0, ha⟩ := bnd ha
      obtain ⟨e0, he0, ha⟩ := bnd ha
      obtain ⟨c1, hc1, hb⟩ := bnd hb
      obtain ⟨e1, he1, hb⟩ := bnd hb
      have ha : e0 = true := by simpa using ha
      have hb : e1 = true := by simpa using hb
      subst ha; subst hb
      have g0 : x.Aa[0]? = some c0 := by unfold ix at hc0; rw [qA1 (by omega)] at hc0; exact hc0
      have g1 : x.Aa[1]? = some c1 := by unfold ix at hc1; rw [qA1 (by omega)] at hc1; exact hc1
      obtain ⟨i1, i2⟩ := qcr he1
      refine ⟨fun c hc => by rw [g0] at hc; cases hc; exact he0, fun _ => ⟨by omega, fun c hc => ?_⟩⟩
      obtain ⟨i, hi⟩ := List.getElem?_of_mem hc
      rw [List.getElem?_drop] at hi
      have hil : 1 + i < x.Aa.length := (List.getElem?_eq_some_iff.1 hi).1
      by_cases z : i = 0
      ·subst z
       rw [g1] at hi; cases hi
       exact .inl ⟨i1, i2⟩
      ·have : i = 1 := by omega
       subst this
       have hx2 : ix x.Aa 2 = some c := by unfold ix; rw [qA1 (by omega)]; exact hi
       rw [qA0 (by simp <;> omega), hx2, qAz] at gg
       obtain ⟨e, he, g3⟩ := bnd gg
       obtain ⟨e', he', he2⟩ := bnd he
       cases he2
       cases e with
       | true => have := qcr he'; exact .inl ⟨this.1, this.2⟩
       | false =>
        rw [qA0 (by simp), qAz] at g3
        obtain ⟨e2, he2, g4⟩ := bnd g3
        cases g4
        split at he2
        ·rename_i hk
         have hk := of_decide_eq_true hk
         rw [qAz] at he2
         obtain ⟨e3, he3, g5⟩ := bnd he2
         cases g5
         exact .inr ⟨by omega, he3⟩
        ·cases he2
  ·rw [qA0 (by simpa using k2)] at h
   refine ⟨?_, fun h2 => absurd h2 k2⟩
   by_cases q6 : x.Ab = 6
   ·rw [qA1 (by simpa using q6)] at h
    obtain ⟨_, _, g⟩ := bnd h
    exact nil (of_decide_eq_true (Bool.and_eq_true_iff.1 (Option.some.inj g)).2)
   rw [qA0 (by simpa using q6)] at h
   by_cases q10 : x.Ab = 10
   ·rw [qA1 (by simpa using q10)] at h
    exact nil (of_decide_eq_true (Bool.and_eq_true_iff.1 (Option.some.inj h)).2)
   rw [qA0 (by simpa using q10)] at h
   by_cases q11 : x.Ab = 11
   ·rw [qA1 (by simpa using q11)] at h
    exact nil (of_decide_eq_true (Bool.and_eq_true_iff.1 (Option.some.inj h)).2)
   rw [qA0 (by simpa using q11)] at h
   have fin : ∀ {b : Bool} {p : Option Bool}, (if b = true then some false else p) = some true → p = some true := fun {b p} h => by
    cases b with
    | true => rw [qA1 rfl] at h; cases h
    | false => rw [qA0 (by simp)] at h; exact h
   by_cases q3 : x.Ab = 3
   ·rw [qA1 (by simpa using q3)] at h
    obtain ⟨_, _, g⟩ := bnd h
    exact one (fin g)
   rw [qA0 (by simpa using q3)] at h
   by_cases q4 : x.Ab = 4
   ·rw [qA1 (by simpa using q4)] at h; exact one (fin h)
   rw [qA0 (by simpa using q4)] at h
   by_cases q5 : x.Ab = 5
   ·rw [qA1 (by simpa using q5)] at h
    obtain ⟨_, _, g⟩ := bnd h
    exact one (fin g)
   rw [qA0 (by simpa using q5)] at h
   by_cases q7 : x.Ab = 7
   ·rw [qA1 (by simpa using q7)] at h; exact one (fin h)
   rw [qA0 (by simpa using q7)] at h
   by_cases q8 : x.Ab = 8
   ·rw [qA1 (by simpa using q8)] at h; exact one (fin h)
   rw [qA0 (by simpa using q8)] at h
   by_cases q9 : x.Ab = 9
   ·rw [qA1 (by simpa using q9)] at h; exact one (fin h)
   rw [qA0 (by simpa using q9)] at h
   cases h
def Gd (d : Nat) (x : M) : Prop := Ok d x ∧ ∃ m, Jz m x = some true
theorem qc6 {d : Nat} {k : M} (h : Ok d k) (hv : (k.Ab = 12 ∧ ∀ q ∈ k.Aa, ∃ m, Jz m q = some true) ∨ (k.Ab ≠ 12 ∧ ∃ m, Jz m k = some true)) :
  ∃ l, Jax k = some l ∧ l.length ≤ 700 ∧ ∀ x ∈ l, Gd d x := by
 unfold Jax
 rcases hv with ⟨h1, h2⟩ | ⟨h1, h2⟩
 ·refine ⟨_, qA1 (by simpa using h1), ?_, ?_⟩
  ·cases d with
   | zero => exact h.elim
   | succ d => exact h.2.1
  ·cases d with
   | zero => exact h.elim
   | succ d => exact fun x hx => ⟨(h.2.2 x hx).succ, h2 x hx⟩
 ·refine ⟨_, qA0 (by simpa using h1), by simp, fun x hx => ?_⟩
  simp at hx; subst hx
  exact ⟨h, h2⟩
theorem qmf {f : Ck → List M → List Bd → Option Ck} {env : List Bd} : ∀ (l : List M) (i : Nat) (a : Int) (e : Err), (∀ k ∈ l, ∃ q, Jax k = some q ∧ ∀ c, ∃ r, f c q env = some r) → ∃ r, Jy f env l i a e = some r
 | [], i, a, e, _ => ⟨_, rfl⟩
 | k :: l, i, a, e, h => by
  obtain ⟨q, hq, hr⟩ := h k (by simp)
  rw [Jy, hq, qAz]
  exact qav (hr _) fun _ _ => qmf l (i + 1) _ _ fun k hk => h k (by simp [hk])
set_option maxRecDepth 100000 in
theorem qmg {n d : Nat} {f : Ck → List M → List Bd → Option Ck} (hn : d + 200000 ≤ n) (hf : ∀ (l : List M) (env : List Bd) (c : Ck), (∀ x ∈ l, Gd d x) → l.length ≤ 700 → env.length + 701 * (d + 1) ≤ 90000 → ∃ r, f c l env = some r) :
  ∀ (l : List M) (i : Nat) (env : List Bd) (a : Int) (e : Err), (∀ x ∈ l, Gd (d + 1) x) → env.length + l.length + 701 * (d + 1) ≤ 90000 → ∃ r, Jr n f l i env a e = some r
 | [], i, env, a, e, _, _ => ⟨_, rfl⟩
 | x :: l, i, env, a, e, h, hl => by
  simp only [List.length_cons] at hl
  have ih : ∀ (env' : List Bd) (a' : Int) (e' : Err), env'.length ≤ env.length + 1 → ∃ r, Jr n f l (i + 1) env' a' e' = some r := fun env' a' e' he => qmg hn hf l (i + 1) env' a' e' (fun y hy => h y (by simp [hy])) (by omega)
  obtain ⟨⟨h1, h2, h3⟩, m0, hm⟩ := h x (by simp)
  obtain ⟨m, rfl, k0, k2⟩ := qbs hm
  rw [Jr]
  refine qar (fun _ => ih _ _ _ (by omega)) fun hk => ?_
  have hk := of_decide_eq_false hk
  have hg0 : x.Aa[0]? = some (x.Aa[0]'(by omega)) := List.getElem?_eq_getElem (by omega)
  have hi0 : ix x.Aa 0 = some (x.Aa[0]'(by omega)) := by unfold ix; rw [qA1 (by omega)]; exact hg0
  rw [hi0, qAz]
  have tl : ∀ c1 : Ck, ∀ t : Int, ∃ r, (if decide (x.Ab = 3) then
    (JaR n x.Ac env).bind fun x61 =>
    if x61 then
    (JH c1 x (some 4)).bind fun x65 =>
    (Jae env x.Ac t).bind fun x70 =>
    if x65.err.isSome then
    some (Fl.ret x65)
    else
    Jr n f l (i + 1) x70 x65.line x65.err
    else
    (Jae env x.Ac t).bind fun x70 =>
    if c1.err.isSome then
    some (Fl.ret c1)
    else
    Jr n f l (i + 1) x70 c1.line c1.err
    else
    if decide (x.Ab = 2) then
    (chk (0 ≤ (1 : Int) ∧ (1 : Int) ≤ (x.Aa.length : Int) ∧ (x.Aa.length : Int) ≤ (x.Aa.length : Int))).bind fun _ =>
    (chk ((subL x.Aa (1 : Int) (x.Aa.length : Int)).length ≤ qau)).bind fun _ =>
    (Jy f env (subL x.Aa (1 : Int) (x.Aa.length : Int)) 0 c1.line c1.err).bind fun t3 =>
    if t3.2.isSome then
    some (Fl.ret (⟨t3.1, t3.2⟩ : Ck))
    else
    Jr n f l (i + 1) env t3.1 t3.2
    else
    if c1.err.isSome then
    some (Fl.ret c1)
    else
    Jr n f l (i + 1) env c1.line c1.err : Option (Fl Ck (List Bd × Int × Err))) = some r := fun c1 t => by
   refine qar (fun _ => ?_) fun _ => ?_
   ·refine qav (qkw (by omega) (by omega)) fun _ _ => qar (fun _ => ?_) fun _ => ?_
    ·refine qav (qfi _ _ _) fun _ _ => ?_
     rw [qdf (by omega), qAz]
     exact qar (fun _ => ⟨_, rfl⟩) fun _ => ih _ _ _ (by simp)
    ·rw [qdf (by omega), qAz]
     exact qar (fun _ => ⟨_, rfl⟩) fun _ => ih _ _ _ (by simp)
   ·refine qar (fun hk2 => ?_) fun _ => qar (fun _ => ⟨_, rfl⟩) fun _ => ih _ _ _ (by omega)
    obtain ⟨g1, g2⟩ := k2 (of_decide_eq_true hk2)
    have hsub : subL x.Aa (1 : Int) (x.Aa.length : Int) = x.Aa.drop 1 := by
     unfold subL
     rw [show ((1 : Int)).toNat = 1 from rfl]
     exact List.take_of_length_le (by rw [List.length_drop]; omega)
    rw [qaa (by omega), hsub, qaa (by rw [List.length_drop]; simp only [qau]; omega)]
    refine qav (qmf _ 0 _ _ fun k hk => ?_) fun _ _ => qar (fun _ => ⟨_, rfl⟩) fun _ => ih _ _ _ (by omega)
    have hkm : k ∈ x.Aa := List.mem_of_mem_drop hk
    obtain ⟨q, hq, ql, qg⟩ := qc6 (h3 k hkm) (by
     rcases g2 k hk with ⟨a1, a2⟩ | ⟨a1, a2⟩
     ·exact .inl ⟨a1, fun q hq => ⟨m, a2 q hq⟩⟩
     ·exact .inr ⟨a1, m, a2⟩)
    exact ⟨q, hq, fun c => hf q env c qg ql (by omega)⟩
  refine qav (qme (env := env) (by omega) d n m _ _ (h3 _ (List.getElem_mem _)) (k0 _ hg0) (by omega)) fun t ht => ?_
  refine qav (qr0 x) fun nd _ => ?_
  refine qar (fun _ => ?_) fun _ => ?_
  ·refine qav (qfi _ _ _) fun c1 _ => ?_
   exact qar (fun _ => ⟨_, rfl⟩) fun _ => tl c1 t.1
  ·exact qar (fun _ => ⟨_, rfl⟩) fun _ => tl t.2 t.1
set_option maxRecDepth 100000 in
theorem qmh : ∀ (d n : Nat) (l : List M) (env : List Bd) (c : Ck), (∀ x ∈ l, Gd d x) → l.length ≤ 700 → env.length + 701 * (d + 1) ≤ 90000 → d + 300000 ≤ n → ∃ r, Jx n c l env = some r
 | d, 0, l, env, c, _, _, _, hn => by omega
 | 0, n + 1, l, env, c, h, hl, he, hn => by
  have : l = [] := by
   cases l with
   | nil => rfl
   | cons x l => exact (h x (by simp)).1.elim
  subst this
  rw [Jx, qaa (by simp [qau])]
  exact ⟨_, rfl⟩
 | d + 1, n + 1, l, env, c, h, hl, he, hn => by
  obtain ⟨r, hr⟩ := qmg (n := n) (d := d) (f := Jx n) (by omega) (fun l' env' c' h1 h2 h3 => qmh d n l' env' c' h1 h2 h3 (by omega)) l 0 env c.line c.err h (by omega)
  rw [Jx, qaa (by simp only [qau]; omega), hr, qAz]
  cases r <;> exact ⟨_, rfl⟩
inductive A2 {α β : Type} (P : α → β → Prop) : List α → List β → Prop
 | nil : A2 P [] []
 | cons {a : α} {b : β} {l : List α} {k : List β} : P a b → A2 P l k → A2 P (a :: l) (b :: k)
theorem A2.len {α β : Type} {P : α → β → Prop} {l : List α} {k : List β} (h : A2 P l k) : k.length = l.length := by
 induction h with
 | nil => rfl
 | cons _ _ ih => simp [ih]
theorem A2.mem {α β : Type} {P : α → β → Prop} {l : List α} {k : List β} (h : A2 P l k) : ∀ b ∈ k, ∃ a ∈ l, P a b := by
 induction h with
 | nil => intro b hb; cases hb
 | cons hp _ ih =>
  intro b hb
  rcases List.mem_cons.1 hb with rfl | hb
  ·exact ⟨_, by simp, hp⟩
  ·obtain ⟨a, ha, q⟩ := ih b hb; exact ⟨a, by simp [ha], q⟩
def OkN : Nat → N → Prop
 | 0, _ => False
 | d + 1, x => x.Ac.length ≤ 3000 ∧ x.Aa.length ≤ 700 ∧ ∀ k ∈ x.Aa, OkN d k
theorem qmi {f : N → Int → Option Int} {e B : Int} (he : -100 ≤ e ∧ e ≤ 100) (hB : 0 ≤ B ∧ B ≤ 1000000) {P : N → Prop} : ∀ (l : List N) (i : Nat) (y : Int), 1 ≤ y → y ≤ 700 → (∀ k ∈ l, ∃ v, f k (e - 1) = some v ∧ 1 ≤ v ∧ v ≤ B ∧ (v ≤ 700 → P k)) →
  ∃ r, Ja7 e f l i y = some r ∧ (∀ z, r = Fl.go z → z ≤ 700 ∧ y + l.length ≤ z ∧ ∀ k ∈ l, P k) ∧ ∀ z, r = Fl.ret z → 700 < z ∧ z ≤ 700 + B
 | [], i, y, h1, h2, _ => ⟨_, rfl, fun z e => by cases e; exact ⟨h2, by simp, fun k hk => by cases hk⟩, fun z e => by cases e⟩
 | k :: l, i, y, h1, h2, h => by
  obtain ⟨v, hv, v1, v2, v3⟩ := h k (by simp)
  rw [Ja7, qaa (by constructor <;> omega), hv, qAz, qaa (by constructor <;> omega)]
  by_cases q : y + v > 700
  ·exact ⟨_, qA1 (by simpa using q), fun z e => (by cases e), fun z e => by cases e; omega⟩
  ·rw [qA0 (by simpa using q)]
   obtain ⟨r, hr, g1, g2⟩ := qmi he hB (P := P) l (i + 1) (y + v) (by omega) (by omega) fun k hk => h k (by simp [hk])
   refine ⟨r, hr, fun z hz => ?_, g2⟩
   obtain ⟨a1, a2, a3⟩ := g1 z hz
   refine ⟨a1, by rw [List.length_cons]; omega, fun q hq => ?_⟩
   rcases List.mem_cons.1 hq with rfl | hq
   ·exact v3 (by omega)
   ·exact a3 q hq
theorem qmj : ∀ (e n : Nat) (x : N), Je.ok x → e + 1 ≤ n → e ≤ 40 → ∃ v, JaW n x (e : Int) = some v ∧ 1 ≤ v ∧ v ≤ 1000 + 700 * e ∧ (v ≤ 700 → OkN e x)
 | e, 0, x, _, hn, _ => by omega
 | 0, n + 1, x, h, hn, he => by
  rw [JaW, qA1 (by simp)]
  exact ⟨_, rfl, by omega, by omega, fun h => by omega⟩
 | e + 1, n + 1, x, h, hn, he => by
  obtain ⟨k0, k1, l2, k2, k3⟩ := h
  rw [JaW]
  by_cases q : x.Ac.length > 3000
  ·rw [qA1 (by simp; omega)]
   exact ⟨_, rfl, by omega, by omega, fun h => by omega⟩
  ·rw [qA0 (by simp; omega), qaa l2]
   obtain ⟨r, hr, g1, g2⟩ := qmi (f := JaW n) (e := ((e + 1 : Nat) : Int)) (B := 1000 + 700 * e) (by omega) (by omega) (P := fun k => OkN e k) x.Aa 0 1 (by omega) (by omega) fun k hk => by
    have := qmj e n k (k2 k hk) (by omega) (by omega)
    rw [show (((e + 1 : Nat) : Int) - 1) = (e : Int) from by omega]
    exact this
   rw [hr, qAz]
   cases r with
   | ret z =>
    obtain ⟨a1, a2⟩ := g2 z rfl
    exact ⟨z, rfl, by omega, by omega, fun h => by omega⟩
   | go z =>
    obtain ⟨a1, a2, a3⟩ := g1 z rfl
    exact ⟨z, rfl, by omega, by omega, fun _ => ⟨by omega, by omega, a3⟩⟩
theorem Large_ok {n : Nat} {x : N} (h : Je.ok x) (hn : 41 ≤ n) : JbO n x = some true ∨ (JbO n x = some false ∧ OkN 40 x) := by
 obtain ⟨v, hv, _, _, h2⟩ := qmj 40 n x h hn (by omega)
 unfold JbO
 rw [show ((40 : Nat) : Int) = 40 from rfl] at hv
 rw [hv, qAz]
 by_cases q : v > 700
 ·left; simp [q]
 ·right; exact ⟨by simp [q], h2 (by omega)⟩
def Cvd : Nat → N → M → Prop
 | 0, _, _ => False
 | d + 1, x, y => y.Ab = x.Ab ∧ y.Ac = x.Ac ∧ y.Ad = x.Ad ∧ A2 (Cvd d) x.Aa y.Aa
def Mvd (b : Int) : Nat → N → N → Prop
 | 0, _, _ => False
 | d + 1, x, y => y.Ab = x.Ab ∧ y.Ac = x.Ac ∧ y.Ad = IntKind.i64.wrap (x.Ad + b) ∧ A2 (Mvd b d) x.Aa y.Aa
theorem qwy {f : N → Option M} {P : N → M → Prop} : ∀ (l : List N) (i : Nat) (y : List M), (∀ k ∈ l, ∃ z, f k = some z ∧ P k z) → y.length + l.length ≤ 10000 → ∃ ys, JbY f l i y = some (y ++ ys) ∧ A2 P l ys
 | [], i, y, _, _ => ⟨[], by simp [JbY], .nil⟩
 | k :: l, i, y, h, hl => by
  simp only [List.length_cons] at hl
  obtain ⟨z, hz, hp⟩ := h k (by simp)
  obtain ⟨ys, e, ha⟩ := qwy (P := P) l (i + 1) (y ++ [z]) (fun k hk => h k (by simp [hk])) (by simp only [List.length_append, List.length_cons, List.length_nil]; omega)
  rw [JbY, hz, qAz, qaa (by simp only [lim, List.length_cons, List.length_nil]; omega), e]
  exact ⟨z :: ys, by simp, .cons hp ha⟩
theorem qwz : ∀ (d n : Nat) (x : N), OkN d x → d + 1 ≤ n → ∃ y, Jb5 n x = some y ∧ Cvd d x y
 | d + 1, 0, x, _, hn => by omega
 | d + 1, n + 1, x, h, hn => by
  obtain ⟨h1, h2, h3⟩ := h
  obtain ⟨ys, e, ha⟩ := qwy (f := Jb5 n) (P := Cvd d) x.Aa 0 [] (fun k hk => qwz d n k (h3 k hk) (by omega)) (by simp <;> omega)
  rw [Jb5, qaa (by simp only [qau]; omega), e, qAz]
  exact ⟨_, rfl, rfl, rfl, rfl, ha⟩
theorem Cvd.ok : ∀ {d : Nat} {x : N} {y : M}, OkN d x → Cvd d x y → Ok d y
 | d + 1, x, y, h, hc => by
  obtain ⟨h1, h2, h3⟩ := h
  obtain ⟨c1, c2, c3, c4⟩ := hc
  refine ⟨by rw [c2]; exact h1, by rw [c4.len]; exact h2, fun k hk => ?_⟩
  obtain ⟨a, ha, q⟩ := c4.mem k hk
  exact Cvd.ok (h3 a ha) q
theorem Mvd.ok {b : Int} : ∀ {d : Nat} {x y : N}, OkN d x → Mvd b d x y → OkN d y
 | d + 1, x, y, h, hc => by
  obtain ⟨h1, h2, h3⟩ := h
  obtain ⟨c1, c2, c3, c4⟩ := hc
  refine ⟨by rw [c2]; exact h1, by rw [c4.len]; exact h2, fun k hk => ?_⟩
  obtain ⟨a, ha, q⟩ := c4.mem k hk
  exact Mvd.ok (h3 a ha) q
def cnt : Nat → M → Nat
 | 0, _ => 0
 | d + 1, x => 1 + (x.Aa.map (cnt d)).sum
def cntL (d : Nat) (l : List M) : Nat := (l.map (cnt d)).sum
theorem cntL_cons (d : Nat) (x : M) (l : List M) : cntL d (x :: l) = cnt d x + cntL d l := by simp [cntL]
theorem cnt_eq (d : Nat) (x : M) : cnt (d + 1) x = 1 + cntL d x.Aa := rfl
theorem cnt_mem {d : Nat} : ∀ {l : List M} {x : M}, x ∈ l → cnt d x ≤ cntL d l
 | a :: l, x, h => by
  rw [cntL_cons]
  rcases List.mem_cons.1 h with rfl | h
  ·omega
  ·have := cnt_mem (d := d) h; omega
theorem qis : ∀ {d : Nat} {x : M}, Ok d x → cnt (d + 1) x = cnt d x
 | d + 1, x, h => by
  rw [cnt_eq, cnt_eq]
  have : ∀ l : List M, (∀ k ∈ l, Ok d k) → cntL (d + 1) l = cntL d l := by
   intro l
   induction l with
   | nil => intro _; rfl
   | cons a l ih =>
    intro hl
    rw [cntL_cons, cntL_cons, ih fun k hk => hl k (by simp [hk]), qis (hl a (by simp))]
  rw [this x.Aa h.2.2]
def pre (s : Str) : Bool := ((decide (s = ([109, 101, 116, 104, 111, 100] : Str)) || decide (s = ([104, 111, 115, 116] : Str))) || decide (s = ([112, 97, 116, 104] : Str))) || decide (s = ([113, 117, 101, 114, 121] : Str))
def lk (s : Str) (env : List Bd) : Int := match env.reverse.find? (fun b => decide (b.Name = s)) with
 | some b => b.As
 | none => if pre s then 1 else 0
theorem qpe (s : Str) (env : List Bd) (b : Bd) : lk s (env ++ [b]) = if b.Name = s then b.As else lk s env := by
 unfold lk
 rw [List.reverse_append]
 simp only [List.reverse_cons, List.reverse_nil, List.nil_append, List.cons_append, List.find?_cons]
 by_cases h : b.Name = s <;> simp [h]
theorem qfx {env : List Bd} {s : Str} (hl : env.length ≤ 100000) : ∀ (j n : Nat), j ≤ env.length → j + 1 ≤ n →
  Jai env s n ((j : Int) - 1) = some (match (env.take j).reverse.find? (fun b => decide (b.Name = s)) with | some b => Fl.ret b.As | none => Fl.go (-1))
 | 0, n + 1, _, _ => by
  rw [Jai, qA0 (by simp)]; simp
 | j + 1, n + 1, h, hn => by
  have hj : j < env.length := by omega
  have e : ((j + 1 : Nat) : Int) - 1 = (j : Int) := by omega
  have hix : ix env (j : Int) = some env[j] := by unfold ix; rw [qA1 (by omega)]; simp [hj]
  have ht : (env.take (j + 1)).reverse = env[j] :: (env.take j).reverse := by
   rw [List.take_succ_eq_append_getElem hj, List.reverse_append]; rfl
  rw [e, Jai, qA1 (by simp), hix, qAz, qAz, ht, List.find?_cons]
  by_cases q : env[j].Name = s
  ·rw [qA1 (by simpa using q)]; simp [q]
  ·rw [qA0 (by simpa using q), qaa (by constructor <;> omega), qfx hl j n (by omega) (by omega)]
   simp [q]
 | 0, 0, _, h => by omega
 | j + 1, 0, _, h => by omega
theorem qg3 {env : List Bd} {s : Str} {n : Nat} (hl : env.length ≤ 100000) (hn : env.length + 1 ≤ n) : JaX n s env = some (lk s env) := by
 unfold JaX
 rw [qaa (by constructor <;> omega), qfx hl env.length n (by omega) hn, qAz, List.take_length]
 unfold lk
 cases env.reverse.find? (fun b => decide (b.Name = s)) with
 | some b => rfl
 | none =>
  rw [el_go]
  show (if pre s = true then some (1 : Int) else some 0) = some (if pre s = true then 1 else 0)
  split <;> rfl
def Ev (e e' : List Bd) : Prop := ∀ s, lk s e ≠ 0 → lk s e' = lk s e
theorem Ev.refl (e : List Bd) : Ev e e := fun _ _ => rfl
theorem Ev.trans {a b c : List Bd} (h : Ev a b) (k : Ev b c) : Ev a c := fun s hs => by
 have h1 := h s hs
 rw [k s (by rw [h1]; exact hs), h1]
theorem Ev.ext {e : List Bd} {s : Str} {t : Int} (h : lk s e = 0) : Ev e (e ++ [⟨s, t⟩]) := fun q hq => by
 rw [qpe]
 have : s ≠ q := fun e1 => hq (e1 ▸ h)
 rw [qA0 this]
def cntN : Nat → N → Nat
 | 0, _ => 0
 | d + 1, x => 1 + (x.Aa.map (cntN d)).sum
def cntNL (d : Nat) (l : List N) : Nat := (l.map (cntN d)).sum
theorem qhx (d : Nat) (x : N) (l : List N) : cntNL d (x :: l) = cntN d x + cntNL d l := by simp [cntNL]
theorem qpf (d : Nat) (x : N) : cntN (d + 1) x = 1 + cntNL d x.Aa := rfl
theorem qfy {f : N → Int → Option Int} {e : Int} {d : Nat} : ∀ (l : List N) (i : Nat) (y : Int) (r : Fl Int Int), 1 ≤ y → (∀ k ∈ l, ∀ v, f k (e - 1) = some v → v ≤ 700 → (cntN d k : Int) ≤ v) → Ja7 e f l i y = some r →
  (∀ z, r = Fl.go z → y + (cntNL d l : Int) ≤ z) ∧ ∀ z, r = Fl.ret z → 700 < z
 | [], i, y, r, _, _, h => by cases h; exact ⟨fun z e => by cases e; simp [cntNL], fun z e => by cases e⟩
 | k :: l, i, y, r, hy, hf, h => by
  rw [Ja7] at h
  obtain ⟨_, h1⟩ := qa2 h
  obtain ⟨v, hv, h2⟩ := bnd h1
  obtain ⟨_, h3⟩ := qa2 h2
  by_cases q : y + v > 700
  ·rw [qA1 (by simpa using q)] at h3
   cases h3
   exact ⟨fun z e => (by cases e), fun z e => by cases e; exact q⟩
  ·rw [qA0 (by simpa using q)] at h3
   have hc := hf k (by simp) v hv (by omega)
   obtain ⟨g1, g2⟩ := qfy l (i + 1) (y + v) r (by omega) (fun k hk => hf k (by simp [hk])) h3
   refine ⟨fun z e => ?_, g2⟩
   have := g1 z e
   rw [qhx]; omega
theorem qjo : ∀ (e n : Nat) (x : N) (v : Int), JaW n x (e : Int) = some v → v ≤ 700 → (cntN e x : Int) ≤ v
 | _, 0, x, v, h, _ => by rw [JaW] at h; cases h
 | 0, n + 1, x, v, h, hv => by
  rw [JaW, qA1 (by simp)] at h
  cases h; omega
 | e + 1, n + 1, x, v, h, hv => by
  rw [JaW] at h
  split at h
  ·cases h; omega
  ·obtain ⟨_, h1⟩ := qa2 h
   obtain ⟨r, hr, h2⟩ := bnd h1
   obtain ⟨g1, g2⟩ := qfy (d := e) x.Aa 0 1 r (by omega) (fun k hk v hv hv2 => by
    rw [show (((e + 1 : Nat) : Int) - 1) = (e : Int) from by omega] at hv
    exact qjo e n k v hv hv2) hr
   cases r with
   | ret z => rw [el_ret] at h2; cases h2; have := g2 _ rfl; omega
   | go z => rw [el_go] at h2; cases h2; have := g1 _ rfl; rw [qpf]; omega
theorem qpg {n : Nat} {x : N} (h : JbO n x = some false) : cntN 40 x ≤ 700 := by
 unfold JbO at h
 obtain ⟨v, hv, h1⟩ := bnd h
 simp only [Option.some.injEq, decide_eq_false_iff_not] at h1
 have := qjo 40 n x v hv (by omega)
 omega
theorem Cvd.cnt : ∀ {d : Nat} {x : N} {y : M}, Cvd d x y → Rt.cnt d y = cntN d x
 | d + 1, x, y, ⟨_, _, _, h⟩ => by
  rw [cnt_eq, qpf]
  have : ∀ {l : List N} {k : List M}, A2 (Cvd d) l k → cntL d k = cntNL d l := by
   intro l k h
   induction h with
   | nil => rfl
   | cons hp _ ih => rw [cntL_cons, qhx, ih, hp.cnt]
  rw [this h]
theorem A2.append {α β : Type} {P : α → β → Prop} {l l' : List α} {k k' : List β} (h : A2 P l k) (h' : A2 P l' k') : A2 P (l ++ l') (k ++ k') := by
 induction h with
 | nil => exact h'
 | cons hp _ ih => exact .cons hp ih
def isL (c : UInt8) : Bool := (decide ((c.toNat : Int) ≥ 97) && decide ((c.toNat : Int) ≤ 122)) || decide ((c.toNat : Int) = 95)
def isD (c : UInt8) : Bool := decide ((c.toNat : Int) ≥ 48) && decide ((c.toNat : Int) ≤ 57)
def isA (c : UInt8) : Bool := isL c || isD c
theorem ixn {α : Type} {s : List α} {i : Nat} (h : i < s.length) : ix s (i : Int) = some s[i] := by
 unfold ix; rw [qA1 (by omega)]; exact List.getElem?_eq_getElem h
def wdy : Str → Bool
 | [] => false
 | c :: t => isL c && t.all isA
def nmr : Str → Bool
 | [] => false
 | c :: t => isD c && t.all isD && decide (t.length ≤ 8)
def kw (s : Str) : Bool := decide (s ∈ gkw0)
def nm (s : Str) : Bool := wdy s && decide (s.length ≤ 4096) && !kw s
theorem qfz : ∀ (s : Str) (i : Nat), Jat s i = some (if s.all isD = true then Fl.go () else Fl.ret false)
 | [], i => rfl
 | c :: s, i => by
  have e : (if decide ((c.toNat : Int) < 48) = true then some true else some (decide ((c.toNat : Int) > 57))) = some (!isD c) := by
   by_cases q : (c.toNat : Int) < 48
   ·have : isD c = false := by simp only [isD, Bool.and_eq_false_iff, decide_eq_false_iff_not]; omega
    rw [qA1 (by simpa using q), this]; rfl
   ·rw [qA0 (by simpa using q)]
    by_cases q2 : (c.toNat : Int) > 57
    ·have : isD c = false := by simp only [isD, Bool.and_eq_false_iff, decide_eq_false_iff_not]; omega
     rw [this, decide_eq_true q2]; rfl
    ·have : isD c = true := by simp only [isD, Bool.and_eq_true, decide_eq_true_eq]; omega
     rw [this, decide_eq_false q2]; rfl
  rw [Jat, e, qAz]
  cases q : isD c with
  | true => rw [qA0 (by simp), qfz s (i + 1), List.all_cons, q]; rfl
  | false => rw [qA1 (by simp), List.all_cons, q]; rfl
theorem qph {s : Str} (h : s.length ≤ 3000) : Jbu s = some (nmr s) := by
 unfold Jbu
 rw [qaa (by simp only [qau]; omega), qfz, qAz]
 cases s with
 | nil => rfl
 | cons c t =>
  rw [nmr, List.all_cons]
  cases q : (isD c && t.all isD) with
  | true =>
   rw [qA1 rfl, el_go, Bool.true_and]
   have e1 : decide (((c :: t).length : Int) ≥ 1) = true := by simp only [List.length_cons, decide_eq_true_eq]; omega
   have e2 : decide (((c :: t).length : Int) ≤ 9) = decide (t.length ≤ 8) := by
    simp only [List.length_cons, decide_eq_decide]; omega
   rw [e1, e2, Bool.true_and]
  | false => rw [qA0 (by simp), el_ret, Bool.false_and]
def prt (s : Str) : Bool := s.all fun c => !(decide ((c.toNat : Int) < 32) || decide ((c.toNat : Int) > 126))
theorem qr1 (c : UInt8) (s : Str) : prt (c :: s) = (!(decide ((c.toNat : Int) < 32) || decide ((c.toNat : Int) > 126)) && prt s) := by simp [prt]
theorem qr2 (c : UInt8) : (if decide ((c.toNat : Int) < 32) = true then some true else some (decide ((c.toNat : Int) > 126))) = some (decide ((c.toNat : Int) < 32) || decide ((c.toNat : Int) > 126)) := by
 cases decide ((c.toNat : Int) < 32) <;> simp
theorem qr3 (c : UInt8) : (if decide ((c.toNat : Int) = 34) = true then some true else some (decide ((c.toNat : Int) = 92))) = some (decide ((c.toNat : Int) = 34) || decide ((c.toNat : Int) = 92)) := by
 cases decide ((c.toNat : Int) = 34) <;> simp
theorem qdg : ∀ (s : Str) (i : Nat) (y : Str), y.length + 2 * s.length ≤ 1000000 → ∃ r, JaA s i y = some r ∧ (prt s = true → ∃ z, r = Fl.go z ∧ z.length ≤ 1000000) ∧ (prt s = false → r = Fl.ret ([], some 2))
 | [], i, y, h => ⟨_, rfl, fun _ => ⟨_, rfl, by simpa using h⟩, fun h => (by simp [prt] at h)⟩
 | c :: s, i, y, h => by
  simp only [List.length_cons] at h
  rw [JaA, qr2, qAz, qr1]
  cases q : (decide ((c.toNat : Int) < 32) || decide ((c.toNat : Int) > 126)) with
  | true => exact ⟨_, qA1 rfl, fun h => (by simp at h), fun _ => rfl⟩
  | false =>
   rw [qA0 (by simp), qr3, qAz, Bool.not_false, Bool.true_and]
   cases q2 : (decide ((c.toNat : Int) = 34) || decide ((c.toNat : Int) = 92)) with
   | true =>
    rw [qA1 rfl, qaa (by simp only [lim, List.length_cons, List.length_nil]; omega), qaa (by simp only [lim, List.length_append, List.length_cons, List.length_nil]; omega)]
    exact qdg s (i + 1) _ (by simp only [List.length_append, List.length_cons, List.length_nil]; omega)
   | false =>
    rw [qA0 (by simp), qaa (by simp only [lim, List.length_cons, List.length_nil]; omega)]
    exact qdg s (i + 1) _ (by simp only [List.length_append, List.length_cons, List.length_nil]; omega)
theorem qdv {s : Str} (h : s.length ≤ 3000) : Jau s = some (prt s) := by
 obtain ⟨r, hr, g1, g2⟩ := qdg s 0 [34] (by simp <;> omega)
 unfold Jau JbM
 rw [qaa (by simp only [qau]; omega), hr, qAz]
 cases q : prt s with
 | false => rw [g2 q, el_ret]; rfl
 | true =>
  obtain ⟨z, rfl, hz⟩ := g1 q
  rw [el_go, qaa (by simp only [lim, List.length_cons, List.length_nil]; omega)]; rfl
theorem A2.imp_mem {α β : Type} {P Q : α → β → Prop} {l : List α} {k : List β} (h : A2 P l k) (hf : ∀ a ∈ l, ∀ b, P a b → Q a b) : A2 Q l k := by
 induction h with
 | nil => exact .nil
 | cons hp _ ih => exact .cons (hf _ (by simp) _ hp) (ih fun a ha => hf a (by simp [ha]))
def Sm (f : N → Option Bool) (g : M → Option Bool) (x : N) (y : M) : Prop := ∃ b, f x = some b ∧ g y = some b
def cmp (s : Str) : Bool := decide (s = [61, 61]) || (decide (s = [33, 61]) || (decide (s = [60]) || (decide (s = [60, 61]) || (decide (s = [115, 116, 97, 114, 116, 115]) || (decide (s = [101, 110, 100, 115]) || decide (s = [99, 111, 110, 116, 97, 105, 110, 115]))))))
theorem qkx (s : Str) : ((JaF 4 s).bind fun x22 => (if x22 = true then some true else (JaF 1 s).bind fun x26 => some x26)) = some (cmp s) := by
 by_cases h1 : s = [61, 61]; · subst h1; rfl
 by_cases h2 : s = [33, 61]; · subst h2; rfl
 by_cases h3 : s = [60]; · subst h3; rfl
 by_cases h4 : s = [60, 61]; · subst h4; rfl
 by_cases h5 : s = [115, 116, 97, 114, 116, 115]; · subst h5; rfl
 by_cases h6 : s = [101, 110, 100, 115]; · subst h6; rfl
 by_cases h7 : s = [99, 111, 110, 116, 97, 105, 110, 115]; · subst h7; rfl
 simp [JaF, h1, h2, h3, h4, h5, h6, h7, cmp]
theorem Sm.ix {f : N → Option Bool} {g : M → Option Bool} {l : List N} {k : List M} (h : A2 (Sm f g) l k) {i : Int} (h0 : 0 ≤ i) (h1 : i < (l.length : Int)) : ∃ a b r, ix l i = some a ∧ ix k i = some b ∧ f a = some r ∧ g b = some r := by
 induction h generalizing i with
 | nil => simp at h1; omega
 | cons hp _ ih =>
  rename_i a b l k _
  simp only [List.length_cons] at h1
  by_cases q : i = 0
  ·subst q
   obtain ⟨r, h2, h3⟩ := hp
   exact ⟨a, b, r, rfl, rfl, h2, h3⟩
  ·obtain ⟨a', b', r, e1, e2, e3, e4⟩ := ih (i := i - 1) (by omega) (by omega)
   have st : ∀ {α : Type} (x : α) (t : List α), Go.SL.ix (x :: t) i = Go.SL.ix t (i - 1) := fun x t => by
    unfold Go.SL.ix
    rw [qA1 h0, qA1 (by omega), show i.toNat = (i - 1).toNat + 1 from by omega, List.getElem?_cons_succ]
   exact ⟨a', b', r, by rw [st, e1], by rw [st, e2], e3, e4⟩
theorem A2.ix {α β : Type} {P : α → β → Prop} {l : List α} {k : List β} (h : A2 P l k) {i : Int} (h0 : 0 ≤ i) (h1 : i < (l.length : Int)) : ∃ a b, ix l i = some a ∧ ix k i = some b ∧ P a b ∧ a ∈ l := by
 induction h generalizing i with
 | nil => simp at h1; omega
 | cons hp _ ih =>
  rename_i a b l k _
  simp only [List.length_cons] at h1
  by_cases q : i = 0
  ·subst q
   exact ⟨a, b, rfl, rfl, hp, by simp⟩
  ·obtain ⟨a', b', e1, e2, e3, e4⟩ := ih (i := i - 1) (by omega) (by omega)
   have st : ∀ {α : Type} (x : α) (t : List α), Go.SL.ix (x :: t) i = Go.SL.ix t (i - 1) := fun x t => by
    unfold Go.SL.ix
    rw [qA1 h0, qA1 (by omega), show i.toNat = (i - 1).toNat + 1 from by omega, List.getElem?_cons_succ]
   exact ⟨a', b', by rw [st, e1], by rw [st, e2], e3, by simp [e4]⟩
theorem qez {a e : Int} {x : M} {f : Err} : JH ⟨a, some e⟩ x f = some ⟨a, some e⟩ := rfl
theorem qcu {a : Int} {x : M} {f : Err} : JH ⟨a, none⟩ x f = some ⟨x.Ad, f⟩ := rfl
theorem qit {f : Ck → M → List Bd → Option (Int × Ck)} {env : List Bd} {a e : Int} (hf : ∀ k r, f ⟨a, some e⟩ k env = some r → r.2 = ⟨a, some e⟩) : ∀ (l : List M) (i : Nat) (y : List Int) (r : Fl (Int × Ck) (List Int × Int × Err)), JK f env l i y a (some e) = some r →
  (∀ z, r = Fl.ret z → z.2 = ⟨a, some e⟩) ∧ ∀ z, r = Fl.go z → z.2.1 = a ∧ z.2.2 = some e
 | [], i, y, r, h => by
  cases h
  exact ⟨fun z q => (by cases q), fun z q => by cases q; exact ⟨rfl, rfl⟩⟩
 | k :: l, i, y, r, h => by
  rw [JK] at h
  obtain ⟨x, hx, h1⟩ := bnd h
  obtain ⟨_, h2⟩ := qa2 h1
  have hs := hf _ _ hx
  rw [hs, qA1 (by simp)] at h2
  cases h2
  exact ⟨fun z q2 => (by cases q2; rfl), fun z q => by cases q⟩
theorem call_same {a e : Int} {x : M} {l : List Int} {r : Int × Ck} (h : JY ⟨a, some e⟩ x l = some r) : r.2 = ⟨a, some e⟩ := by
 unfold JY at h
 obtain ⟨f, hf, h1⟩ := bnd h
 split at h1
 ·rw [qez] at h1; cases h1; rfl
 ·obtain ⟨b, hb, h2⟩ := bnd h1
  split at h2
  ·rw [qez] at h2; cases h2; rfl
  ·cases h2; rfl
theorem qhy {env : List Bd} {a e : Int} : ∀ (n : Nat) (x : M) (r : Int × Ck), JE n ⟨a, some e⟩ x env = some r → r.2 = ⟨a, some e⟩
 | 0, x, r, h => by rw [JE] at h; cases h
 | n + 1, x, r, h => by
  rw [JE] at h
  obtain ⟨_, h1⟩ := qa2 h
  obtain ⟨s, hs, h2⟩ := bnd h1
  obtain ⟨g1, g2⟩ := qit (a := a) (e := e) (fun k r => qhy n k r) x.Aa 0 [] s hs
  cases s with
  | ret z => rw [el_ret] at h2; cases h2; exact g1 _ rfl
  | go z =>
   obtain ⟨z1, z2, z3⟩ := z
   obtain ⟨k1, k2⟩ := g2 _ rfl
   simp only at k1 k2
   subst k1
   subst k2
   rw [el_go] at h2
   by_cases q20 : x.Ab = 20
   ·rw [qA1 (by simpa using q20)] at h2; cases h2; rfl
   rw [qA0 (by simpa using q20)] at h2
   by_cases q21 : x.Ab = 21
   ·rw [qA1 (by simpa using q21)] at h2; cases h2; rfl
   rw [qA0 (by simpa using q21)] at h2
   by_cases q22 : x.Ab = 22
   ·rw [qA1 (by simpa using q22)] at h2; cases h2; rfl
   rw [qA0 (by simpa using q22)] at h2
   by_cases q23 : x.Ab = 23
   ·rw [qA1 (by simpa using q23)] at h2
    obtain ⟨u, hu, h3⟩ := bnd h2
    split at h3
    ·rw [qez] at h3; cases h3; rfl
    ·cases h3; rfl
   rw [qA0 (by simpa using q23)] at h2
   by_cases q24 : x.Ab = 24
   ·rw [qA1 (by simpa using q24)] at h2
    obtain ⟨u, hu, h3⟩ := bnd h2
    cases h3; exact call_same hu
   rw [qA0 (by simpa using q24)] at h2
   obtain ⟨u, hu, h3⟩ := bnd h2
   split at h3
   ·rw [qez] at h3; cases h3; rfl
   ·cases h3; rfl
theorem qe0 {n : Nat} {f : Ck → List M → List Bd → Option Ck} {a e : Int} : ∀ (l : List M) (i : Nat) (env : List Bd) (r : Fl Ck (List Bd × Int × Err)), Jr n f l i env a (some e) = some r →
  (∀ z, r = Fl.ret z → z = ⟨a, some e⟩) ∧ ∀ z, r = Fl.go z → z.2.1 = a ∧ z.2.2 = some e
 | [], i, env, r, h => by
  cases h
  exact ⟨fun z q => (by cases q), fun z q => by cases q; exact ⟨rfl, rfl⟩⟩
 | x :: l, i, env, r, h => by
  rw [Jr] at h
  cases q : decide ((x.Aa.length : Int) = 0) with
  | true => rw [q, qA1 rfl] at h; exact qe0 l (i + 1) env r h
  | false =>
   rw [q, qA0 (by simp)] at h
   obtain ⟨k, hk, h1⟩ := bnd h
   obtain ⟨t, ht, h2⟩ := bnd h1
   obtain ⟨nd, _, h3⟩ := bnd h2
   have hs := qhy n _ _ ht
   rw [hs, qA0 (by simp), qA1 (by simp)] at h3
   cases h3
   exact ⟨fun z q3 => (by cases q3; rfl), fun z q => by cases q⟩
theorem qnw : ∀ (n : Nat) (a e : Int) (l : List M) (env : List Bd) (r : Ck), Jx n ⟨a, some e⟩ l env = some r → r = ⟨a, some e⟩
 | 0, a, e, l, env, r, h => by rw [Jx] at h; cases h
 | n + 1, a, e, l, env, r, h => by
  rw [Jx] at h
  obtain ⟨_, h1⟩ := qa2 h
  obtain ⟨s, hs, h2⟩ := bnd h1
  obtain ⟨g1, g2⟩ := qe0 l 0 env s hs
  cases s with
  | ret z => rw [el_ret] at h2; cases h2; exact g1 _ rfl
  | go z =>
   rw [el_go] at h2; cases h2
   obtain ⟨k1, k2⟩ := g2 z rfl
   rw [k1, k2]
abbrev Env := Str → Int
abbrev qc7 := Int × Int
def base : Env := fun s => if pre s then 1 else 0
def ext (ρ : Env) (s : Str) (t : Int) : Env := fun q => if s = q then t else ρ q
def lkf (env : List Bd) : Env := fun s => lk s env
theorem qky : lkf [] = base := rfl
theorem qmk (env : List Bd) (s : Str) (t : Int) : lkf (env ++ [⟨s, t⟩]) = ext (lkf env) s t := by
 funext q; exact qpe q env ⟨s, t⟩
def kidsE (f : M → Except qc7 Int) : List M → Except qc7 (List Int)
 | [] => .ok []
 | k :: l => match f k with
  | .error e => .error e
  | .ok t => match kidsE f l with
   | .error e => .error e
   | .ok ts => .ok (t :: ts)
noncomputable def fnc (s : Str) : Int × Int := (Jan s).getD (0, 0)
noncomputable def opr (x : M) (ts : List Int) : Int := (JJ x ts).getD 0
noncomputable def tyN (ρ : Env) (x : M) (ts : List Int) : Except qc7 Int :=
 if x.Ab = 20 then .ok 2
 else if x.Ab = 21 then .ok 1
 else if x.Ab = 22 then .ok 3
 else if x.Ab = 23 then (if ρ x.Ac = 0 then .error (x.Ad, 8) else .ok (ρ x.Ac))
 else if x.Ab = 24 then (if (fnc x.Ac).2 = 0 then .error (x.Ad, 8) else if ts = [(fnc x.Ac).1] then .ok (fnc x.Ac).2 else .error (x.Ad, 9))
 else if opr x ts = 0 then .error (x.Ad, 9) else .ok (opr x ts)
noncomputable def tyE : Nat → Env → M → Except qc7 Int
 | 0, _, _ => .error (0, 9)
 | d + 1, ρ, x => match kidsE (tyE d ρ) x.Aa with
  | .error e => .error e
  | .ok ts => tyN ρ x ts
theorem kidsE_len {f : M → Except qc7 Int} : ∀ {l : List M} {ts : List Int}, kidsE f l = .ok ts → ts.length = l.length
 | [], ts, h => by cases h; rfl
 | k :: l, ts, h => by
  rw [kidsE] at h
  cases q : f k with
  | error e => rw [q] at h; cases h
  | ok t =>
   rw [q] at h
   simp only at h
   cases q2 : kidsE f l with
   | error e => rw [q2] at h; cases h
   | ok us => rw [q2] at h; cases h; simp [kidsE_len q2]
def Res (a : Int) (r : Except qc7 Int) (t : Int) (c : Ck) : Prop := match r with
 | .ok v => t = v ∧ c = ⟨a, none⟩
 | .error e => c = ⟨e.1, some e.2⟩
theorem qe1 {f : Ck → M → List Bd → Option (Int × Ck)} {g : M → Except qc7 Int} {env : List Bd} {a : Int} : ∀ (l : List M) (i : Nat) (y : List Int), (∀ k ∈ l, ∃ t c, f ⟨a, none⟩ k env = some (t, c) ∧ Res a (g k) t c) → y.length + l.length ≤ 1000 →
  ∃ r, JK f env l i y a none = some r ∧ match kidsE g l with
   | .ok ts => r = Fl.go (y ++ ts, a, none)
   | .error e => r = Fl.ret (0, ⟨e.1, some e.2⟩)
 | [], i, y, _, _ => ⟨_, rfl, by simp [kidsE]⟩
 | k :: l, i, y, h, hy => by
  simp only [List.length_cons] at hy
  obtain ⟨t, c, hr, hq⟩ := h k (by simp)
  rw [JK, hr, qAz, qaa (by simp only [lim, List.length_cons, List.length_nil]; omega), kidsE]
  unfold Res at hq
  cases q : g k with
  | error e =>
   rw [q] at hq
   simp only at hq
   subst hq
   exact ⟨_, qA1 rfl, rfl⟩
  | ok v =>
   rw [q] at hq
   simp only at hq
   obtain ⟨rfl, rfl⟩ := hq
   simp only [Option.isSome_none, Bool.false_eq_true, if_false]
   obtain ⟨r, hr, h2⟩ := qe1 (f := f) (g := g) (env := env) (a := a) l (i + 1) (y ++ [t]) (fun k hk => h k (by simp [hk])) (by simp only [List.length_append, List.length_cons, List.length_nil]; omega)
   refine ⟨r, hr, ?_⟩
   cases q2 : kidsE g l with
   | error e => rw [q2] at h2; exact h2
   | ok ts => rw [q2] at h2; rw [h2]; simp
theorem qth (s : Str) : Jan s = some (fnc s) := by
 obtain ⟨r, hr⟩ := qg2 s
 unfold fnc; rw [hr]; rfl
theorem qml {x : M} {l : List Int} (h : l.length ≤ 1000) (h16 : x.Ab = 16 → l.length = 2) : JJ x l = some (opr x l) := by
 obtain ⟨r, hr⟩ := qg1 h h16
 unfold opr; rw [hr]; rfl
theorem qjp {a : Int} {x : M} {l : List Int} : JY ⟨a, none⟩ x l = some ((fnc x.Ac).2, if (fnc x.Ac).2 = 0 then ⟨x.Ad, some 8⟩ else if l = [(fnc x.Ac).1] then ⟨a, none⟩ else ⟨x.Ad, some 9⟩) := by
 unfold JY
 rw [qth, qAz]
 by_cases q : (fnc x.Ac).2 = 0
 ·rw [qA1 (by simpa using q), qcu, qA1 q]; rfl
 ·rw [qA0 (by simpa using q), qA0 q]
  match l with
  | [] => rw [qA1 (by simp), qAz, qA1 rfl, qcu, qA0 (by simp)]; rfl
  | [t] =>
   rw [qA0 (by simp), show ix [t] 0 = some t from rfl, qAz, qAz]
   by_cases q2 : t = (fnc x.Ac).1
   ·rw [qA0 (by simpa using q2), qA1 (by rw [q2])]
   ·rw [qA1 (by simpa using q2), qcu, qA0 (by simpa using q2)]; rfl
  | t :: u :: l => rw [qA1 (by simp; omega), qAz, qA1 rfl, qcu, qA0 (by simp)]; rfl
theorem qhz {env : List Bd} (he : env.length ≤ 100000) {a : Int} : ∀ (d n m : Nat) (x : M), Ok d x → Js m x = some true → d + 200000 ≤ n → ∃ t c, JE n ⟨a, none⟩ x env = some (t, c) ∧ Res a (tyE d (lkf env) x) t c
 | d + 1, 0, m, x, _, _, hn => by omega
 | d + 1, n + 1, m, x, h, hv, hn => by
  obtain ⟨h1, h2, h3⟩ := h
  obtain ⟨m', k, rfl, hk, k2, k3, k4⟩ := qcc hv
  obtain ⟨r, hr, hl⟩ := qe1 (f := JE n) (g := tyE d (lkf env)) (env := env) (a := a) x.Aa 0 [] (fun q hq => qhz he d n m' q (h3 q hq) (k4 q hq) (by omega)) (by simp <;> omega)
  rw [JE, qaa (by simp only [qau]; omega), hr, qAz, tyE]
  cases q : kidsE (tyE d (lkf env)) x.Aa with
  | error e =>
   rw [q] at hl
   simp only at hl
   subst hl
   exact ⟨_, _, rfl, rfl⟩
  | ok ts =>
   rw [q] at hl
   simp only [List.nil_append] at hl
   subst hl
   have hlen := kidsE_len q
   simp only [el_go, tyN]
   by_cases q20 : x.Ab = 20
   ·rw [qA1 (by simpa using q20), qA1 q20]; exact ⟨_, _, rfl, rfl, rfl⟩
   rw [qA0 (by simpa using q20), qA0 q20]
   by_cases q21 : x.Ab = 21
   ·rw [qA1 (by simpa using q21), qA1 q21]; exact ⟨_, _, rfl, rfl, rfl⟩
   rw [qA0 (by simpa using q21), qA0 q21]
   by_cases q22 : x.Ab = 22
   ·rw [qA1 (by simpa using q22), qA1 q22]; exact ⟨_, _, rfl, rfl, rfl⟩
   rw [qA0 (by simpa using q22), qA0 q22]
   by_cases q23 : x.Ab = 23
   ·rw [qA1 (by simpa using q23), qA1 q23, qg3 he (by omega), qAz]
    by_cases q0 : lk x.Ac env = 0
    ·rw [qA1 (by simpa using q0), qcu, qAz, qA1 (show lkf env x.Ac = 0 from q0)]; exact ⟨_, _, rfl, rfl⟩
    ·rw [qA0 (by simpa using q0), qA0 (show ¬ lkf env x.Ac = 0 from q0)]; exact ⟨_, _, rfl, rfl, rfl⟩
   rw [qA0 (by simpa using q23), qA0 q23]
   by_cases q24 : x.Ab = 24
   ·rw [qA1 (by simpa using q24), qA1 q24, qjp, qAz]
    refine ⟨_, _, rfl, ?_⟩
    by_cases q0 : (fnc x.Ac).2 = 0
    ·rw [qA1 q0, qA1 q0]; rfl
    ·rw [qA0 q0, qA0 q0]
     by_cases q1 : ts = [(fnc x.Ac).1]
     ·rw [qA1 q1, qA1 q1]; exact ⟨rfl, rfl⟩
     ·rw [qA0 q1, qA0 q1]; rfl
   rw [qA0 (by simpa using q24), qA0 q24, qml (by omega) fun h16 => by
    rcases operands_16 h16 hk with rfl | rfl
    ·have := k3 (by omega); omega
    ·exact absurd rfl k2]
   rw [qAz]
   by_cases q0 : opr x ts = 0
   ·rw [qA1 (by simpa using q0), qcu, qAz, qA1 q0]; exact ⟨_, _, rfl, rfl⟩
   ·rw [qA0 (by simpa using q0), qA0 q0]; exact ⟨_, _, rfl, rfl, rfl⟩
def nds (k : Int) : Int := if k = 2 then 3 else if k = 4 then 1 else if k = 5 then 1 else if k = 7 then 1 else if k = 8 then 2 else if k = 9 then 2 else 0
theorem qw0 (x : M) : JbG x = some (nds x.Ab) := by
 unfold JbG nds
 by_cases h1 : x.Ab = 2; · rw [qA1 (by simpa using h1), qA1 h1]
 rw [qA0 (by simpa using h1), qA0 h1]
 by_cases h2 : x.Ab = 4; · rw [qA1 (by simpa using h2), qA1 h2]
 rw [qA0 (by simpa using h2), qA0 h2]
 by_cases h3 : x.Ab = 5; · rw [qA1 (by simpa using h3), qA1 h3]
 rw [qA0 (by simpa using h3), qA0 h3]
 by_cases h4 : x.Ab = 7; · rw [qA1 (by simpa using h4), qA1 h4]
 rw [qA0 (by simpa using h4), qA0 h4]
 by_cases h5 : x.Ab = 8; · rw [qA1 (by simpa using h5), qA1 h5]
 rw [qA0 (by simpa using h5), qA0 h5]
 by_cases h6 : x.Ab = 9; · rw [qA1 (by simpa using h6), qA1 h6]
 rw [qA0 (by simpa using h6), qA0 h6]
def brn (k : M) : List M := if k.Ab = 12 then k.Aa else [k]
theorem qf0 (k : M) : Jax k = some (brn k) := by
 unfold Jax brn
 by_cases h : k.Ab = 12
 ·rw [qA1 (by simpa using h), qA1 h]
 ·rw [qA0 (by simpa using h), qA0 h]
def foldS (g : Env → M → Except qc7 Env) : Env → List M → Except qc7 Env
 | ρ, [] => .ok ρ
 | ρ, x :: l => match g ρ x with
  | .error e => .error e
  | .ok ρ' => foldS g ρ' l
def brs (g : M → Except qc7 Env) : List M → Option qc7
 | [] => none
 | k :: l => match g k with
  | .error e => some e
  | .ok _ => brs g l
noncomputable def stm : Nat → Env → M → Except qc7 Env
 | 0, _, _ => .error (0, 9)
 | d + 1, ρ, x => match x.Aa with
  | [] => .ok ρ
  | k0 :: ks => match tyE d ρ k0 with
   | .error e => .error e
   | .ok t =>
    if nds x.Ab ≠ 0 ∧ t ≠ nds x.Ab then .error (x.Ad, 9)
    else if x.Ab = 3 then (if ρ x.Ac = 0 then .ok (ext ρ x.Ac t) else .error (x.Ad, 4))
    else if x.Ab = 2 then (match brs (fun k => foldS (stm d) ρ (brn k)) ks with
     | some e => .error e
     | none => .ok ρ)
    else .ok ρ
def fin (a : Int) (r : Except qc7 Env) : Ck := match r with
 | .ok _ => ⟨a, none⟩
 | .error e => ⟨e.1, some e.2⟩
theorem qpi {f : Ck → List M → List Bd → Option Ck} {env : List Bd} {a e : Int} (hs : ∀ l r, f ⟨a, some e⟩ l env = some r → r = ⟨a, some e⟩) : ∀ (l : List M) (i : Nat), (∀ k ∈ l, ∃ r, f ⟨a, some e⟩ (brn k) env = some r) → Jy f env l i a (some e) = some (a, some e)
 | [], i, _ => rfl
 | k :: l, i, h => by
  obtain ⟨r, hr⟩ := h k (by simp)
  have := hs _ _ hr
  rw [Jy, qf0, qAz, hr, qAz, this]
  exact qpi hs l (i + 1) fun q hq => h q (by simp [hq])
theorem qpj {f : Ck → List M → List Bd → Option Ck} {g : M → Except qc7 Env} {env : List Bd} {a : Int} (hs : ∀ a e l r, f ⟨a, some e⟩ l env = some r → r = ⟨a, some e⟩) : ∀ (l : List M) (i : Nat), (∀ k ∈ l, f ⟨a, none⟩ (brn k) env = some (fin a (g k))) → (∀ k ∈ l, ∀ c, ∃ r, f c (brn k) env = some r) →
  Jy f env l i a none = some (match brs g l with
   | none => (a, none)
   | some e => (e.1, some e.2))
 | [], i, _, _ => rfl
 | k :: l, i, h, h' => by
  rw [Jy, qf0, qAz, h k (by simp), qAz, brs]
  cases q : g k with
  | error e => exact qpi (fun l r => hs _ _ l r) l (i + 1) fun q hq => h' q (by simp [hq]) _
  | ok ρ => exact qpj hs l (i + 1) (fun q hq => h q (by simp [hq])) fun q hq => h' q (by simp [hq])
theorem qzc {α : Type} {x : α} {l : List α} : subL (x :: l) (1 : Int) (((x :: l).length : Nat) : Int) = l := by
 unfold subL
 rw [show ((1 : Int)).toNat = 1 from rfl, List.drop_succ_cons, List.drop_zero, List.take_of_length_le (by simp only [List.length_cons]; omega)]
set_option maxRecDepth 100000 in
theorem qe2 {n d : Nat} {f : Ck → List M → List Bd → Option Ck} {a : Int} (hn : d + 200000 ≤ n)
  (hs : ∀ env a e l r, f ⟨a, some e⟩ l env = some r → r = ⟨a, some e⟩)
  (hf : ∀ (l : List M) (env : List Bd), (∀ x ∈ l, Gd d x) → l.length ≤ 700 → env.length + 701 * (d + 1) ≤ 90000 → f ⟨a, none⟩ l env = some (fin a (foldS (stm d) (lkf env) l)))
  (hx : ∀ (l : List M) (env : List Bd) (c : Ck), (∀ x ∈ l, Gd d x) → l.length ≤ 700 → env.length + 701 * (d + 1) ≤ 90000 → ∃ r, f c l env = some r) :
  ∀ (l : List M) (i : Nat) (env : List Bd), (∀ x ∈ l, Gd (d + 1) x) → env.length + l.length + 701 * (d + 1) ≤ 90000 →
   ∃ r, Jr n f l i env a none = some r ∧ match foldS (stm (d + 1)) (lkf env) l with
    | .ok ρ => ∃ env', r = Fl.go (env', a, none) ∧ lkf env' = ρ ∧ env'.length ≤ env.length + l.length
    | .error e => r = Fl.ret ⟨e.1, some e.2⟩
 | [], i, env, _, _ => ⟨_, rfl, env, rfl, rfl, by simp⟩
 | x :: l, i, env, hg, he => by
  simp only [List.length_cons] at he
  have hgl : ∀ x ∈ l, Gd (d + 1) x := fun q hq => hg q (by simp [hq])
  have rec_ : ∀ env', env'.length ≤ env.length + 1 → ∃ r, Jr n f l (i + 1) env' a none = some r ∧ match foldS (stm (d + 1)) (lkf env') l with
    | .ok ρ => ∃ env2, r = Fl.go (env2, a, none) ∧ lkf env2 = ρ ∧ env2.length ≤ env.length + (l.length + 1)
    | .error e => r = Fl.ret ⟨e.1, some e.2⟩ := fun env' h1 => by
   obtain ⟨r, hr, h2⟩ := qe2 hn hs hf hx l (i + 1) env' hgl (by omega)
   refine ⟨r, hr, ?_⟩
   cases q : foldS (stm (d + 1)) (lkf env') l with
   | error e => rw [q] at h2; exact h2
   | ok ρ => rw [q] at h2; obtain ⟨e2, a1, a2, a3⟩ := h2; exact ⟨e2, a1, a2, by omega⟩
  obtain ⟨hok, m, hm⟩ := hg x (by simp)
  obtain ⟨m, rfl, hv0, hv2⟩ := qbs hm
  obtain ⟨o1, o2, o3⟩ := hok
  rw [Jr, foldS]
  simp only [List.length_cons]
  cases hk : x.Aa with
  | nil =>
   rw [qA1 (by simp), stm, hk]
   exact rec_ env (by omega)
  | cons k0 ks =>
   have hk0 : k0 ∈ x.Aa := by rw [hk]; simp
   obtain ⟨t, c, ht, hR⟩ := qhz (env := env) (by omega) (a := a) d n m k0 (o3 k0 hk0) (hv0 k0 (by rw [hk]; rfl)) (by omega)
   rw [qA0 (by simp; omega), show ix (k0 :: ks) 0 = some k0 from rfl, qAz, ht, qAz, qw0, qAz, stm, hk]
   simp only
   unfold Res at hR
   cases q : tyE d (lkf env) k0 with
   | error e =>
    rw [q] at hR
    simp only at hR
    subst hR
    rw [qA0 (by simp), qA1 (by simp)]
    exact ⟨_, rfl, rfl⟩
   | ok v =>
    rw [q] at hR
    simp only at hR
    obtain ⟨rfl, rfl⟩ := hR
    simp only
    by_cases qn : nds x.Ab ≠ 0 ∧ t ≠ nds x.Ab
    ·rw [qA1 (by simpa using qn), qcu, qAz, qA1 (by simp), qA1 qn]
     exact ⟨_, rfl, rfl⟩
    ·rw [qA0 (by simpa using qn), qA0 qn, qA0 (by simp)]
     by_cases q3 : x.Ab = 3
     ·rw [qA1 (by simpa using q3), qA1 q3]
      unfold JaR
      rw [qg3 (by omega) (by omega), qAz, qAz, qdf (by omega)]
      by_cases q0 : lk x.Ac env = 0
      ·rw [qA0 (by simpa using q0), qAz, qA0 (by simp), qA1 (show lkf env x.Ac = 0 from q0)]
       simp only
       rw [← qmk]
       exact rec_ _ (by simp)
      ·rw [qA1 (by simpa using q0), qcu, qAz, qAz, qA1 (by simp), qA0 (show ¬ lkf env x.Ac = 0 from q0)]
       exact ⟨_, rfl, rfl⟩
     ·rw [qA0 (by simpa using q3), qA0 q3]
      by_cases q2 : x.Ab = 2
      ·obtain ⟨l2, hb⟩ := hv2 q2
       rw [hk] at l2 hb
       have hbr : ∀ k ∈ ks, (∀ q ∈ brn k, Gd d q) ∧ (brn k).length ≤ 700 := fun k hk1 => by
        have hk2 : k ∈ x.Aa := by rw [hk]; simp [hk1]
        obtain ⟨l', e1, e2, e3⟩ := qc6 (o3 k hk2) ((hb k (by simpa using hk1)).imp (fun h => ⟨h.1, fun q hq => ⟨m, h.2 q hq⟩⟩) fun h => ⟨h.1, m, h.2⟩)
        rw [qf0] at e1
        cases e1
        exact ⟨e3, e2⟩
       have hkl : (k0 :: ks).length ≤ 700 := by rw [← hk]; exact o2
       rw [qA1 (by simpa using q2), qA1 q2, qaa (by simp only [List.length_cons] at l2 ⊢; omega), qzc, qaa (by simp only [qau]; simp only [List.length_cons] at hkl; omega),
        qpj (g := fun k => foldS (stm d) (lkf env) (brn k)) (hs env) ks 0 (fun k hk1 => hf _ _ (hbr k hk1).1 (hbr k hk1).2 (by omega)) (fun k hk1 c => hx _ _ c (hbr k hk1).1 (hbr k hk1).2 (by omega)), qAz]
       cases brs (fun k => foldS (stm d) (lkf env) (brn k)) ks with
       | some e => rw [qA1 (by simp)]; exact ⟨_, rfl, rfl⟩
       | none => rw [qA0 (by simp)]; exact rec_ env (by omega)
      ·rw [qA0 (by simpa using q2), qA0 q2, qA0 (by simp)]
       exact rec_ env (by omega)
set_option maxRecDepth 100000 in
theorem qh0 {a : Int} : ∀ (d n : Nat) (l : List M) (env : List Bd), (∀ x ∈ l, Gd d x) → l.length ≤ 700 → env.length + 701 * (d + 1) ≤ 90000 → d + 300000 ≤ n → Jx n ⟨a, none⟩ l env = some (fin a (foldS (stm d) (lkf env) l))
 | d, 0, l, env, _, _, _, hn => by omega
 | 0, n + 1, l, env, hg, hl, he, hn => by
  have : l = [] := by
   cases l with
   | nil => rfl
   | cons x l => exact (hg x (by simp)).1.elim
  subst this
  rw [Jx, qaa (by simp only [qau]; simp)]; rfl
 | d + 1, n + 1, l, env, hg, hl, he, hn => by
  obtain ⟨r, hr, h2⟩ := qe2 (n := n) (d := d) (a := a) (f := Jx n) (by omega) (fun env a e l r => qnw n a e l env r) (fun l' env' h1 h2 h3 => qh0 d n l' env' h1 h2 h3 (by omega)) (fun l' env' c' h1 h2 h3 => qmh d n l' env' c' h1 h2 h3 (by omega)) l 0 env hg (by omega)
  rw [Jx, qaa (by simp only [qau]; omega)]
  simp only
  rw [hr, qAz]
  cases q : foldS (stm (d + 1)) (lkf env) l with
  | error e => rw [q] at h2; simp only at h2; subst h2; rfl
  | ok ρ => rw [q] at h2; obtain ⟨e2, a1, a2, a3⟩ := h2; subst a1; rfl
noncomputable def qwc (d : Nat) (ys : List M) : Int × Err := match foldS (stm d) base ys with
 | .ok _ => (0, none)
 | .error e => (e.1, some e.2)
set_option maxRecDepth 100000 in
theorem qd2 {n d : Nat} {y : M} {b : Bool} (h : Ok (d + 1) y) (hd : d ≤ 100) (hn : 400000 ≤ n) (hb : Jah n y = some b) : JbH n y = some (if b = true then qwc d y.Aa else (0, some 2)) := by
 unfold JbH
 rw [hb, qAz]
 cases b with
 | false => rfl
 | true =>
  have hv := qdu hb
  have := h.2.1
  rw [qA0 (by simp), qh0 d n y.Aa [] (fun k hk => ⟨h.2.2 k hk, n, hv k hk⟩) this (by simp only [List.length_nil]; omega) (by omega), qAz]
  unfold qwc
  rw [qky]
  cases foldS (stm d) base y.Aa <;> rfl
theorem qpk (e : Err) : JcK e = some (e.getD 0) := by cases e <;> rfl
def Ty (t : Int) : Prop := t = 1 ∨ t = 2 ∨ t = 3
def Rg (ρ : Env) : Prop := ∀ s, ρ s = 0 ∨ Ty (ρ s)
theorem Rg.ext {ρ : Env} (h : Rg ρ) (s : Str) {t : Int} (ht : Ty t) : Rg (ext ρ s t) := fun q => by
 unfold Rt.ext
 split
 ·exact .inr ht
 ·exact h q
def QQ (o : Option Int) : Prop := ∀ t, o = some t → t = 0 ∨ Ty t
theorem QQ.ite {c : Bool} {a b : Option Int} (h1 : QQ a) (h2 : QQ b) : QQ (if c = true then a else b) := by cases c <;> assumption
theorem QQ.bind {α : Type} {o : Option α} {f : α → Option Int} (h : ∀ a, QQ (f a)) : QQ (o.bind f) := fun t ht => by
 cases o with
 | none => cases ht
 | some a => exact h a t ht
theorem QQ.z : QQ (some 0) := fun t h => by cases h; exact .inl rfl
theorem QQ.t1 : QQ (some 1) := fun t h => by cases h; exact .inr (.inl rfl)
theorem QQ.t2 : QQ (some 2) := fun t h => by cases h; exact .inr (.inr (.inl rfl))
theorem QQ.t3 : QQ (some 3) := fun t h => by cases h; exact .inr (.inr (.inr rfl))
theorem qpl (s : Str) : Jba s = some ((fnc s).1, (fnc s).2, decide ((fnc s).2 ≠ 0)) ∧ ((fnc s).2 = 0 ∨ Ty (fnc s).2) := by
 have key : ∀ p, Jan s = some p → Jba s = some (p.1, p.2, decide (p.2 ≠ 0)) ∧ (p.2 = 0 ∨ Ty p.2) := fun p h => by
  unfold Jan at h
  unfold Jba
  have st : ∀ {c : Bool} {a b : Int} {A : Option (Int × Int)} {B : Option (Int × Int × Bool)}, Ty b → (if c = true then some (a, b) else A) = some p → (A = some p → B = some (p.1, p.2, decide (p.2 ≠ 0)) ∧ (p.2 = 0 ∨ Ty p.2)) → (if c = true then some (a, b, true) else B) = some (p.1, p.2, decide (p.2 ≠ 0)) ∧ (p.2 = 0 ∨ Ty p.2) := fun {c a b A B} ht h hA => by
   cases c with
   | false => exact hA h
   | true =>
    cases h
    refine ⟨?_, .inr ht⟩
    have : b ≠ 0 := by rcases ht with rfl | rfl | rfl <;> decide
    simp [this]
  refine st (.inl rfl) h fun h => ?_
  refine st (.inl rfl) h fun h => ?_
  refine st (.inl rfl) h fun h => ?_
  refine st (.inr (.inr rfl)) h fun h => ?_
  refine st (.inr (.inl rfl)) h fun h => ?_
  refine st (.inr (.inl rfl)) h fun h => ?_
  refine st (.inl rfl) h fun h => ?_
  refine st (.inl rfl) h fun h => ?_
  cases h
  exact ⟨rfl, .inl rfl⟩
 exact key _ (qth s)
theorem operands_len {m : Nat} {y : M} {k : Int} (h : JT m y = some k) (hk : k ≠ -2) :
  ((y.Ab = 13 ∨ y.Ab = 14 ∨ y.Ab = 17 ∨ y.Ab = 18 ∨ y.Ab = 19) ∧ k = 2) ∨ (y.Ab = 15 ∧ k = 1) ∨ (y.Ab = 16 ∧ k = 2 ∧ cmp y.Ac = true) ∨ ((y.Ab = 20 ∨ y.Ab = 21 ∨ y.Ab = 22 ∨ y.Ab = 23) ∧ k = 0) ∨ (y.Ab = 24 ∧ k = -1) := by
 unfold JT at h
 have s2 : ∀ {c : Bool} {v : Int}, (if (!c) = true then some (-2) else some v) = some k → k = v ∧ c = true := fun {c v} h => by
  cases c with
  | false => rw [qA1 (by simp)] at h; cases h; exact absurd rfl hk
  | true => rw [qA0 (by simp)] at h; cases h; exact ⟨rfl, rfl⟩
 by_cases q : y.Ab = 13
 ·rw [qA1 (by simpa using q)] at h
  exact .inl ⟨.inl q, (s2 h).1⟩
 rw [qA0 (by simpa using q)] at h
 clear q
 by_cases q : y.Ab = 14
 ·rw [qA1 (by simpa using q)] at h
  exact .inl ⟨.inr (.inl q), (s2 h).1⟩
 rw [qA0 (by simpa using q)] at h
 clear q
 by_cases q : y.Ab = 17
 ·rw [qA1 (by simpa using q)] at h
  exact .inl ⟨.inr (.inr (.inl q)), (s2 h).1⟩
 rw [qA0 (by simpa using q)] at h
 clear q
 by_cases q : y.Ab = 18
 ·rw [qA1 (by simpa using q)] at h
  exact .inl ⟨.inr (.inr (.inr (.inl q))), (s2 h).1⟩
 rw [qA0 (by simpa using q)] at h
 clear q
 by_cases q : y.Ab = 19
 ·rw [qA1 (by simpa using q)] at h
  exact .inl ⟨.inr (.inr (.inr (.inr q))), (s2 h).1⟩
 rw [qA0 (by simpa using q)] at h
 clear q
 by_cases q : y.Ab = 15
 ·rw [qA1 (by simpa using q)] at h
  exact .inr (.inl ⟨q, (s2 h).1⟩)
 rw [qA0 (by simpa using q)] at h
 clear q
 by_cases q : y.Ab = 16
 ·rw [qA1 (by simpa using q)] at h
  have e := qkx y.Ac
  obtain ⟨a, ha, h⟩ := bnd h
  rw [ha, qAz] at e
  rw [e, qAz] at h
  exact .inr (.inr (.inl ⟨q, s2 h⟩))
 rw [qA0 (by simpa using q)] at h
 clear q
 by_cases q : y.Ab = 20
 ·rw [qA1 (by simpa using q)] at h
  obtain ⟨a, ha, h⟩ := bnd h
  exact .inr (.inr (.inr (.inl ⟨.inl q, (s2 h).1⟩)))
 rw [qA0 (by simpa using q)] at h
 clear q
 by_cases q : y.Ab = 21
 ·rw [qA1 (by simpa using q)] at h
  obtain ⟨a, ha, h⟩ := bnd h
  exact .inr (.inr (.inr (.inl ⟨.inr (.inl q), (s2 h).1⟩)))
 rw [qA0 (by simpa using q)] at h
 clear q
 by_cases q : y.Ab = 22
 ·rw [qA1 (by simpa using q)] at h
  exact .inr (.inr (.inr (.inl ⟨.inr (.inr (.inl q)), (s2 h).1⟩)))
 rw [qA0 (by simpa using q)] at h
 clear q
 by_cases q : y.Ab = 23
 ·rw [qA1 (by simpa using q)] at h
  obtain ⟨a, ha, h⟩ := bnd h
  exact .inr (.inr (.inr (.inl ⟨.inr (.inr (.inr q)), (s2 h).1⟩)))
 rw [qA0 (by simpa using q)] at h
 clear q
 by_cases q : y.Ab = 24
 ·rw [qA1 (by simpa using q)] at h
  obtain ⟨a, ha, h⟩ := bnd h
  exact .inr (.inr (.inr (.inr ⟨q, (s2 h).1⟩)))
 rw [qA0 (by simpa using q)] at h
 clear q
 cases h
 exact absurd rfl hk
theorem qpm {m : Nat} {x : M} (hk : x.Ab = 2) (h : Jz (m + 1) x = some true) : ∀ c ∈ x.Aa.drop 1, c.Ab ≠ 12 → c.Ab = 2 := by
 rw [Jz, qA1 (by simpa using hk)] at h
 obtain ⟨a, ha, g⟩ := bnd h
 obtain ⟨b, hb, gg⟩ := bnd g
 cases b with
 | true => rw [qA1 rfl] at gg; cases gg
 | false =>
  rw [qA0 (by simp)] at gg
  cases a with
  | true => rw [qA1 rfl] at hb; cases hb
  | false =>
   cases q : ((decide (x.Ac ≠ ([] : Str)) || decide ((x.Aa.length : Int) < 2)) || decide ((x.Aa.length : Int) > 3)) with
   | true => rw [q, qA1 rfl] at ha; cases ha
   | false =>
    simp only [Bool.or_eq_false_iff, decide_eq_false_iff_not] at q
    rw [qA0 (by simp)] at hb
    obtain ⟨c1, hc1, hb⟩ := bnd hb
    obtain ⟨e1, he1, hb⟩ := bnd hb
    have hb : e1 = true := by simpa using hb
    subst hb
    have g1 : x.Aa[1]? = some c1 := by unfold ix at hc1; rw [qA1 (by omega)] at hc1; exact hc1
    obtain ⟨i1, i2⟩ := qcr he1
    intro c hc hne
    obtain ⟨i, hi⟩ := List.getElem?_of_mem hc
    rw [List.getElem?_drop] at hi
    have hil : 1 + i < x.Aa.length := (List.getElem?_eq_some_iff.1 hi).1
    by_cases z : i = 0
    ·subst z
     rw [g1] at hi; cases hi
     exact absurd i1 hne
    ·have : i = 1 := by omega
     subst this
     have hx2 : ix x.Aa 2 = some c := by unfold ix; rw [qA1 (by omega)]; exact hi
     rw [qA0 (by simp <;> omega), hx2, qAz] at gg
     obtain ⟨e, he, g3⟩ := bnd gg
     obtain ⟨e', he', he2⟩ := bnd he
     cases he2
     cases e with
     | true => exact absurd (qcr he').1 hne
     | false =>
      rw [qA0 (by simp), qAz] at g3
      obtain ⟨e2, he2, g4⟩ := bnd g3
      cases g4
      split at he2
      ·rename_i hk; exact of_decide_eq_true hk
      ·cases he2
noncomputable def tyv (d : Nat) (ρ : Env) (y : M) : Int := match tyE d ρ y with
 | .ok t => t
 | .error _ => 0
def hd0 : List Int → Int
 | [] => 0
 | s :: _ => s
def stN (k t : Int) (ss : List Int) : Int :=
 if k = 20 then 1 else if k = 21 then 1 else if k = 22 then 3 else if k = 23 then 1
 else if k = 24 then (if t = 1 then ss.sum + 32 else ss.sum) + 1
 else if k = 14 then hd0 ss + 1 + max 3 (ss.sum - hd0 ss + 1)
 else if k = 13 then hd0 ss + 1 + max 4 (ss.sum - hd0 ss)
 else (if t = 1 then ss.sum + 32 else ss.sum) + 1
noncomputable def stE : Nat → Env → M → Int
 | 0, _, _ => 0
 | d + 1, ρ, y => stN y.Ab (tyv (d + 1) ρ y) (y.Aa.map (stE d ρ))
theorem qpn : ∀ {ss : List Int}, (∀ s ∈ ss, 0 ≤ s) → 0 ≤ hd0 ss ∧ hd0 ss ≤ ss.sum ∧ 0 ≤ ss.sum
 | [], _ => by simp [hd0]
 | s :: ss, h => by
  have := qpn (ss := ss) fun s hs => h s (by simp [hs])
  have := h s (by simp)
  simp only [hd0, List.sum_cons]
  omega
theorem qw1 {k t : Int} {ss : List Int} (h : ∀ s ∈ ss, 0 ≤ s) : 0 ≤ stN k t ss ∧ stN k t ss ≤ ss.sum + 33 := by
 have := qpn h
 unfold stN
 split; · omega
 split; · omega
 split; · omega
 split; · omega
 split; · split <;> omega
 split; · omega
 split; · omega
 split <;> omega
theorem qg4 : ∀ (d : Nat) (ρ : Env) (y : M), 0 ≤ stE d ρ y ∧ stE d ρ y ≤ 64 * (cnt d y : Int)
 | 0, ρ, y => by simp [stE]; omega
 | d + 1, ρ, y => by
  have hs : ∀ (l : List M), (∀ s ∈ l.map (stE d ρ), 0 ≤ s) ∧ (l.map (stE d ρ)).sum ≤ 64 * (cntL d l : Int) := fun l => by
   induction l with
   | nil => simp [cntL]
   | cons k l ih =>
    have := qg4 d ρ k
    refine ⟨fun s hs => ?_, ?_⟩
    ·rw [List.map_cons] at hs
     rcases List.mem_cons.1 hs with rfl | hs
     ·exact this.1
     ·exact ih.1 s hs
    ·rw [List.map_cons, List.sum_cons, cntL_cons]
     have := ih.2
     omega
  have h := hs y.Aa
  have := qw1 (k := y.Ab) (t := tyv (d + 1) ρ y) h.1
  rw [cnt_eq, stE]
  omega
theorem kidsE_a2 {f : M → Except qc7 Int} : ∀ {l : List M} {ts : List Int}, kidsE f l = .ok ts → A2 (fun k t => f k = .ok t) l ts
 | [], ts, h => by cases h; exact .nil
 | k :: l, ts, h => by
  rw [kidsE] at h
  cases q : f k with
  | error e => rw [q] at h; cases h
  | ok t =>
   rw [q] at h
   simp only at h
   cases q2 : kidsE f l with
   | error e => rw [q2] at h; cases h
   | ok us => rw [q2] at h; cases h; exact .cons q (kidsE_a2 q2)
theorem qjq {f : M → List Bd → Option (Int × Int)} {env : List Bd} {g : M → Int} {l : List M} {ts : List Int} (h : A2 (fun k t => f k env = some (t, g k) ∧ 0 ≤ g k) l ts) : ∀ (i : Nat) (y : List Int) (a s : Int), i ≠ 0 → 0 ≤ s → s + (l.map g).sum ≤ 1000000 → y.length + l.length ≤ 1000 →
  Jaf f env l i y a s = some (y ++ ts, a, s + (l.map g).sum) := by
 induction h with
 | nil => intro i y a s _ _ _ _; simp [Jaf]
 | cons hp h ih =>
  rename_i k t l ts
  intro i y a s hi hs hb hl
  have hpos : 0 ≤ (l.map g).sum := by
   clear ih hb hl
   induction h with
   | nil => simp
   | cons hp _ ih => rw [List.map_cons, List.sum_cons]; have := hp.2; omega
  rw [List.map_cons, List.sum_cons] at hb ⊢
  simp only [List.length_cons] at hl
  have := hp.2
  rw [Jaf, hp.1, qAz, qaa (by simp only [lim, List.length_cons, List.length_nil]; omega), qA0 (by simpa using hi), qaa (by constructor <;> simp only <;> omega), ih (i + 1) _ a _ (by omega) (by omega) (by simp only; omega) (by simp only [List.length_append, List.length_cons, List.length_nil]; omega)]
  simp; omega
theorem qjr {f : M → List Bd → Option (Int × Int)} {env : List Bd} {g : M → Int} {l : List M} {ts : List Int} (h : A2 (fun k t => f k env = some (t, g k) ∧ 0 ≤ g k) l ts) (hb : (l.map g).sum ≤ 1000000) (hl : l.length ≤ 900) :
  Jaf f env l 0 [] 0 0 = some (ts, hd0 (l.map g), (l.map g).sum) := by
 cases h with
 | nil => rfl
 | cons hp h =>
  rename_i k t l ts
  rw [List.map_cons, List.sum_cons] at hb ⊢
  simp only [List.length_cons] at hl
  have := hp.2
  have hs : 0 ≤ (l.map g).sum := by
   have aux : ∀ {l : List M} {ts : List Int}, A2 (fun k t => f k env = some (t, g k) ∧ 0 ≤ g k) l ts → 0 ≤ (l.map g).sum := fun h => by
    induction h with
    | nil => simp
    | cons hp _ ih => rw [List.map_cons, List.sum_cons]; have := hp.2; omega
   exact aux h
  rw [Jaf, hp.1, qAz, qaa (by simp [lim]), qA1 (by simp), qaa (by constructor <;> simp only <;> omega), qjq h 1 _ _ _ (by omega) (by simp only; omega) (by simp only; omega) (by simp only [List.length_append, List.length_cons, List.length_nil]; omega)]
  simp [hd0]
theorem qkz {ρ : Env} {y : M} {ts : List Int} {t : Int} (h : tyN ρ y ts = .ok t) : (y.Ab = 20 → t = 2) ∧ (y.Ab = 21 → t = 1) ∧ (y.Ab = 22 → t = 3) ∧ (y.Ab = 23 → t = ρ y.Ac) ∧ (y.Ab = 24 → t = (fnc y.Ac).2) ∧ (y.Ab ≠ 20 → y.Ab ≠ 21 → y.Ab ≠ 22 → y.Ab ≠ 23 → y.Ab ≠ 24 → t = opr y ts ∧ opr y ts ≠ 0) := by
 unfold tyN at h
 by_cases q20 : y.Ab = 20
 ·rw [qA1 q20] at h; cases h; exact ⟨fun _ => rfl, fun _ => by omega, fun _ => by omega, fun _ => by omega, fun _ => by omega, fun a => absurd q20 a⟩
 rw [qA0 q20] at h
 by_cases q21 : y.Ab = 21
 ·rw [qA1 q21] at h; cases h; exact ⟨fun _ => by omega, fun _ => rfl, fun _ => by omega, fun _ => by omega, fun _ => by omega, fun _ a => absurd q21 a⟩
 rw [qA0 q21] at h
 by_cases q22 : y.Ab = 22
 ·rw [qA1 q22] at h; cases h; exact ⟨fun _ => by omega, fun _ => by omega, fun _ => rfl, fun _ => by omega, fun _ => by omega, fun _ _ a => absurd q22 a⟩
 rw [qA0 q22] at h
 by_cases q23 : y.Ab = 23
 ·rw [qA1 q23] at h
  split at h
  ·cases h
  ·cases h; exact ⟨fun _ => by omega, fun _ => by omega, fun _ => by omega, fun _ => rfl, fun _ => by omega, fun _ _ _ a => absurd q23 a⟩
 rw [qA0 q23] at h
 by_cases q24 : y.Ab = 24
 ·rw [qA1 q24] at h
  split at h
  ·cases h
  ·split at h
   ·cases h; exact ⟨fun _ => by omega, fun _ => by omega, fun _ => by omega, fun _ => by omega, fun _ => rfl, fun _ _ _ _ a => absurd q24 a⟩
   ·cases h
 rw [qA0 q24] at h
 split at h
 ·cases h
 ·rename_i q
  cases h; exact ⟨fun a => absurd a q20, fun a => absurd a q21, fun a => absurd a q22, fun a => absurd a q23, fun a => absurd a q24, fun _ _ _ _ _ => ⟨rfl, q⟩⟩
theorem qg5 {d : Nat} {ρ : Env} {y : M} {t : Int} (h : tyE (d + 1) ρ y = .ok t) : ∃ ts, kidsE (tyE d ρ) y.Aa = .ok ts ∧ tyN ρ y ts = .ok t := by
 rw [tyE] at h
 cases q : kidsE (tyE d ρ) y.Aa with
 | error e => rw [q] at h; cases h
 | ok ts => rw [q] at h; exact ⟨ts, rfl, h⟩
theorem qh1 {env : List Bd} (he : env.length ≤ 100000) : ∀ (d n m : Nat) (y : M) (t : Int), Ok d y → Js m y = some true → tyE d (lkf env) y = .ok t → cnt d y ≤ 10000 → d + 200000 ≤ n → Ja9 n y env = some (t, stE d (lkf env) y)
 | 0, n, m, y, t, h, _, _, _, _ => h.elim
 | d + 1, 0, m, y, t, h, _, _, _, hn => by omega
 | d + 1, n + 1, m, y, t, h, hv, ht, hc, hn => by
  have htv : tyv (d + 1) (lkf env) y = t := by unfold tyv; rw [ht]
  obtain ⟨h1, h2, h3⟩ := h
  obtain ⟨m', k, rfl, hk, k2, k3, k4⟩ := qcc hv
  obtain ⟨ts, hks, hN⟩ := qg5 ht
  have hlen := kidsE_len hks
  rw [cnt_eq] at hc
  have hA := (kidsE_a2 hks).imp_mem (Q := fun k t => Ja9 n k env = some (t, stE d (lkf env) k) ∧ 0 ≤ stE d (lkf env) k) fun k hk t ht => ⟨qh1 he d n m' k t (h3 k hk) (k4 k hk) ht (by have := cnt_mem (d := d) hk; omega) (by omega), (qg4 d _ k).1⟩
  have hpos : ∀ s ∈ y.Aa.map (stE d (lkf env)), 0 ≤ s := fun s hs => by
   obtain ⟨k, _, rfl⟩ := List.mem_map.1 hs
   exact (qg4 d _ k).1
  have hsum : (y.Aa.map (stE d (lkf env))).sum ≤ 64 * (cntL d y.Aa : Int) := by
   have : ∀ l : List M, (l.map (stE d (lkf env))).sum ≤ 64 * (cntL d l : Int) := fun l => by
    induction l with
    | nil => simp [cntL]
    | cons k l ih =>
     have := (qg4 d (lkf env) k).2
     rw [List.map_cons, List.sum_cons, cntL_cons]
     omega
   exact this _
  have hb := qpn hpos
  obtain ⟨t20, t21, t22, t23, t24, top⟩ := qkz hN
  rw [Ja9, qaa (by simp only [qau]; omega), qjr hA (by omega) (by omega), qAz, stE, htv]
  generalize y.Aa.map (stE d (lkf env)) = ss at hb hsum
  unfold stN
  simp only
  by_cases q20 : y.Ab = 20
  ·rw [qA1 (by simpa using q20), qA1 q20, t20 q20]
  rw [qA0 (by simpa using q20), qA0 q20]
  by_cases q21 : y.Ab = 21
  ·rw [qA1 (by simpa using q21), qA1 q21, t21 q21]
  rw [qA0 (by simpa using q21), qA0 q21]
  by_cases q22 : y.Ab = 22
  ·rw [qA1 (by simpa using q22), qA1 q22, t22 q22]
  rw [qA0 (by simpa using q22), qA0 q22]
  by_cases q23 : y.Ab = 23
  ·rw [qA1 (by simpa using q23), qA1 q23, qg3 he (by omega), qAz, t23 q23]; rfl
  rw [qA0 (by simpa using q23), qA0 q23]
  by_cases q24 : y.Ab = 24
  ·rw [qA1 (by simpa using q24), qA1 q24, qjp, qAz, ← t24 q24]
   by_cases q1 : t = 1
   ·rw [qA1 (by simpa using q1), qA1 q1, qaa (by constructor <;> omega), qaa (by constructor <;> omega)]
   ·rw [qA0 (by simpa using q1), qA0 q1, qaa (by constructor <;> omega)]
  rw [qA0 (by simpa using q24), qA0 q24]
  by_cases q14 : y.Ab = 14
  ·have ht3 : t = 3 := by
    have := top q20 q21 q22 q23 q24
    have h16 : JJ y ts = some (opr y ts) := qml (by omega) fun h => by omega
    unfold JJ at h16
    rw [qA0 (by simp [q14]), qA0 (by simp [q14]), qA0 (by simp [q14]), qA0 (by simp [q14]), qA1 (by simpa using q14)] at h16
    obtain ⟨b, _, h16⟩ := bnd h16
    cases b with
    | true => rw [qA1 rfl] at h16; have := Option.some.inj h16; omega
    | false => rw [qA0 (by simp)] at h16; have := Option.some.inj h16; omega
   rw [qA1 (by simpa using q14), qA1 q14, qA1 (by simpa using q14), qaa (by constructor <;> omega), qaa (by constructor <;> omega), qaa (by constructor <;> omega), qaa (by constructor <;> omega), ht3]
  rw [qA0 (by simpa using q14), qA0 q14]
  by_cases q13 : y.Ab = 13
  ·have ht3 : t = 3 := by
    have := top q20 q21 q22 q23 q24
    have h16 : JJ y ts = some (opr y ts) := qml (by omega) fun h => by omega
    unfold JJ at h16
    rw [qA0 (by simp [q13]), qA0 (by simp [q13]), qA0 (by simp [q13]), qA1 (by simpa using q13)] at h16
    obtain ⟨b, _, h16⟩ := bnd h16
    cases b with
    | true => rw [qA1 rfl] at h16; have := Option.some.inj h16; omega
    | false => rw [qA0 (by simp)] at h16; have := Option.some.inj h16; omega
   rw [qA1 (by simpa using q13), qA1 q13, qA0 (by simpa using q14), qaa (by constructor <;> omega), qaa (by constructor <;> omega), qaa (by constructor <;> omega), ht3]
  rw [qA0 (by simpa using q13), qA0 q13, qml (by omega) fun h16 => by
   rcases operands_16 h16 hk with rfl | rfl
   ·have := k3 (by omega); omega
   ·exact absurd rfl k2]
  rw [qAz, ← (top q20 q21 q22 q23 q24).1]
  by_cases q1 : t = 1
  ·rw [qA1 (by simpa using q1), qA1 q1, qaa (by constructor <;> omega), qaa (by constructor <;> omega)]
  ·rw [qA0 (by simpa using q1), qA0 q1, qaa (by constructor <;> omega)]
def foldW (w : Env → M → Int) (g : Env → M → Except qc7 Env) : Env → List M → Int
 | _, [] => 0
 | ρ, x :: l => w ρ x + (match g ρ x with
  | .ok ρ' => foldW w g ρ' l
  | .error _ => 0)
noncomputable def wS : Nat → Env → M → Int
 | 0, _, _ => 0
 | d + 1, ρ, x => match x.Aa with
  | [] => 1
  | k0 :: ks => 1 + stE d ρ k0 + (if x.Ab = 2 then (match ks with
   | [] => 0
   | [b] => foldW (wS d) (stm d) ρ (brn b)
   | b :: c :: _ => max (foldW (wS d) (stm d) ρ (brn b) + 1) (foldW (wS d) (stm d) ρ (brn c))) else 0)
theorem brn_ok {d : Nat} {k : M} (h : Ok d k) : (∀ q ∈ brn k, Ok d q) ∧ cntL d (brn k) ≤ cnt d k := by
 cases d with
 | zero => exact h.elim
 | succ d =>
  unfold brn
  split
  ·refine ⟨fun q hq => (h.2.2 q hq).succ, ?_⟩
   rw [cnt_eq]
   have : ∀ l : List M, (∀ q ∈ l, Ok d q) → cntL (d + 1) l = cntL d l := fun l => by
    induction l with
    | nil => intro _; rfl
    | cons q l ih => intro hq; rw [cntL_cons, cntL_cons, qis (hq q (by simp)), ih fun p hp => hq p (by simp [hp])]
   rw [this k.Aa h.2.2]; omega
  ·exact ⟨fun q hq => by rw [List.mem_singleton] at hq; subst hq; exact h, by simp [cntL]⟩
theorem qd3 {d : Nat} {w : Env → M → Int} {g : Env → M → Except qc7 Env} : ∀ (l : List M) (ρ : Env), (∀ x ∈ l, ∀ ρ, 0 ≤ w ρ x ∧ w ρ x ≤ 200 * (cnt d x : Int)) → 0 ≤ foldW w g ρ l ∧ foldW w g ρ l ≤ 200 * (cntL d l : Int)
 | [], ρ, _ => by simp [foldW, cntL]
 | x :: l, ρ, h => by
  rw [foldW, cntL_cons]
  have h1 := h x (by simp) ρ
  have h2 : 0 ≤ (match g ρ x with | .ok ρ' => foldW w g ρ' l | .error _ => (0 : Int)) ∧ (match g ρ x with | .ok ρ' => foldW w g ρ' l | .error _ => (0 : Int)) ≤ 200 * (cntL d l : Int) := by
   cases g ρ x with
   | error e => simp only; omega
   | ok ρ' => exact qd3 l ρ' fun q hq => h q (by simp [hq])
  omega
theorem qk0 : ∀ (d : Nat) (x : M), Ok d x → ∀ ρ, 0 ≤ wS d ρ x ∧ wS d ρ x ≤ 200 * (cnt d x : Int)
 | 0, x, h, ρ => h.elim
 | d + 1, x, h, ρ => by
  have br : ∀ b, Ok d b → 0 ≤ foldW (wS d) (stm d) ρ (brn b) ∧ foldW (wS d) (stm d) ρ (brn b) ≤ 200 * (cnt d b : Int) := fun b hb => by
   obtain ⟨b1, b2⟩ := brn_ok hb
   have := qd3 (d := d) (w := wS d) (g := stm d) (brn b) ρ fun q hq ρ => qk0 d q (b1 q hq) ρ
   omega
  rw [wS, cnt_eq]
  match hk : x.Aa with
  | [] => simp only [cntL, List.map_nil, List.sum_nil]; omega
  | k0 :: ks =>
   have h0 := qg4 d ρ k0
   simp only [cntL_cons]
   split
   ·match hks : ks with
    | [] => simp only; omega
    | [b] =>
     have := br b (h.2.2 b (by rw [hk]; simp))
     simp only [cntL_cons]; omega
    | b :: c :: r =>
     have := br b (h.2.2 b (by rw [hk]; simp))
     have := br c (h.2.2 c (by rw [hk]; simp))
     simp only [cntL_cons]; omega
   ·omega
theorem qee {d : Nat} {ρ ρ' : Env} {x k0 : M} {ks : List M} (hk : x.Aa = k0 :: ks) (h : stm (d + 1) ρ x = .ok ρ') : ∃ t, tyE d ρ k0 = .ok t ∧
  ((x.Ab = 3 ∧ ρ' = ext ρ x.Ac t) ∨ (x.Ab = 2 ∧ ρ' = ρ ∧ brs (fun k => foldS (stm d) ρ (brn k)) ks = none) ∨ (x.Ab ≠ 3 ∧ x.Ab ≠ 2 ∧ ρ' = ρ)) := by
 rw [stm, hk] at h
 simp only at h
 cases q : tyE d ρ k0 with
 | error e => rw [q] at h; cases h
 | ok t =>
  rw [q] at h
  simp only at h
  refine ⟨t, rfl, ?_⟩
  split at h
  ·cases h
  ·split at h
   ·rename_i q3
    split at h
    ·cases h; exact .inl ⟨q3, rfl⟩
    ·cases h
   ·rename_i q3
    split at h
    ·rename_i q2
     split at h
     ·cases h
     ·rename_i qb
      cases h; exact .inr (.inl ⟨q2, rfl, qb⟩)
    ·rename_i q2
     cases h; exact .inr (.inr ⟨q3, q2, rfl⟩)
theorem qe3 {g : M → Except qc7 Env} : ∀ {l : List M}, brs g l = none → ∀ k ∈ l, ∃ ρ, g k = .ok ρ
 | [], _, k, hk => by cases hk
 | a :: l, h, k, hk => by
  rw [brs] at h
  cases q : g a with
  | error e => rw [q] at h; cases h
  | ok ρ =>
   rw [q] at h
   rcases List.mem_cons.1 hk with rfl | hk
   ·exact ⟨ρ, q⟩
   ·exact qe3 h k hk
theorem qcm {g : Env → M → Except qc7 Env} {ρ ρ' : Env} {x : M} {l : List M} (h : foldS g ρ (x :: l) = .ok ρ') : ∃ ρ1, g ρ x = .ok ρ1 ∧ foldS g ρ1 l = .ok ρ' := by
 rw [foldS] at h
 cases q : g ρ x with
 | error e => rw [q] at h; cases h
 | ok ρ1 => rw [q] at h; exact ⟨ρ1, rfl, h⟩
theorem qh2 {m : Nat} {x : M} (hk : x.Ab = 2) (h : Jz (m + 1) x = some true) : x.Aa.length ≤ 3 ∧ ∀ c, x.Aa[1]? = some c → c.Ab = 12 := by
 rw [Jz, qA1 (by simpa using hk)] at h
 obtain ⟨a, ha, g⟩ := bnd h
 obtain ⟨b, hb, gg⟩ := bnd g
 cases b with
 | true => rw [qA1 rfl] at gg; cases gg
 | false =>
  cases a with
  | true => rw [qA1 rfl] at hb; cases hb
  | false =>
   cases q : ((decide (x.Ac ≠ ([] : Str)) || decide ((x.Aa.length : Int) < 2)) || decide ((x.Aa.length : Int) > 3)) with
   | true => rw [q, qA1 rfl] at ha; cases ha
   | false =>
    simp only [Bool.or_eq_false_iff, decide_eq_false_iff_not] at q
    rw [qA0 (by simp)] at hb
    obtain ⟨c1, hc1, hb⟩ := bnd hb
    obtain ⟨e1, he1, hb⟩ := bnd hb
    have hb : e1 = true := by simpa using hb
    subst hb
    have g1 : x.Aa[1]? = some c1 := by unfold ix at hc1; rw [qA1 (by omega)] at hc1; exact hc1
    refine ⟨by omega, fun c hc => ?_⟩
    rw [g1] at hc; cases hc
    exact (qcr he1).1
set_option maxRecDepth 100000 in
theorem qe4 {n d : Nat} {f : List M → List Bd → Option Int} (hn : d + 200000 ≤ n)
  (hf : ∀ (l : List M) (env : List Bd) (ρ' : Env), (∀ x ∈ l, Gd d x) → l.length ≤ 700 → cntL d l ≤ 10000 → env.length + 701 * (d + 1) ≤ 90000 → foldS (stm d) (lkf env) l = .ok ρ' → f l env = some (foldW (wS d) (stm d) (lkf env) l)) :
  ∀ (l : List M) (i : Nat) (env : List Bd) (y : Int) (ρ' : Env), (∀ x ∈ l, Gd (d + 1) x) → cntL (d + 1) l ≤ 10000 → env.length + l.length + 701 * (d + 1) ≤ 90000 → 0 ≤ y → y + 200 * (cntL (d + 1) l : Int) ≤ 5000000 → foldS (stm (d + 1)) (lkf env) l = .ok ρ' →
   ∃ env', J1 n f l i env y = some (env', y + foldW (wS (d + 1)) (stm (d + 1)) (lkf env) l)
 | [], i, env, y, ρ', _, _, _, _, _, _ => ⟨env, by simp [J1, foldW]⟩
 | x :: l, i, env, y, ρ', hg, hc, he, h0, hy, hs => by
  simp only [List.length_cons] at he
  rw [cntL_cons] at hc hy
  obtain ⟨ρ1, hx, hl⟩ := qcm hs
  have hgl : ∀ x ∈ l, Gd (d + 1) x := fun q hq => hg q (by simp [hq])
  obtain ⟨hok, m, hm⟩ := hg x (by simp)
  have hm' := hm
  have hwb := qk0 (d + 1) x hok (lkf env)
  have rec_ : ∀ (env1 : List Bd) (y1 : Int), env1.length ≤ env.length + 1 → lkf env1 = ρ1 → y1 = y + wS (d + 1) (lkf env) x → ∃ env', J1 n f l (i + 1) env1 y1 = some (env', y + foldW (wS (d + 1)) (stm (d + 1)) (lkf env) (x :: l)) := fun env1 y1 a1 a2 a3 => by
   obtain ⟨e2, h2⟩ := qe4 hn hf l (i + 1) env1 y1 ρ' hgl (by omega) (by omega) (by omega) (by omega) (by rw [a2]; exact hl)
   refine ⟨e2, ?_⟩
   rw [h2, foldW, hx, a2, a3]
   simp only
   congr 2; omega
  obtain ⟨m, rfl, hv0, hv2⟩ := qbs hm
  obtain ⟨o1, o2, o3⟩ := hok
  rw [cnt_eq] at hc hy hwb
  rw [J1, qaa (by constructor <;> omega)]
  match hk : x.Aa with
  | [] =>
   have hw : wS (d + 1) (lkf env) x = 1 := by rw [wS, hk]
   rw [qA1 (by simp)]
   refine rec_ env (y + 1) (by omega) ?_ (by rw [hw])
   rw [stm, hk] at hx
   cases hx; rfl
  | k0 :: ks =>
   have hk0 : k0 ∈ x.Aa := by rw [hk]; simp
   obtain ⟨t, ht, hcase⟩ := qee hk hx
   have hcl : cntL d x.Aa = cnt d k0 + cntL d ks := by rw [hk, cntL_cons]
   have hst := qg4 d (lkf env) k0
   have hstp := qh1 (env := env) (by omega) d n m k0 t (o3 k0 hk0) (hv0 k0 (by rw [hk]; rfl)) ht (by omega) (by omega)
   rw [qA0 (by simp; omega), show ix (k0 :: ks) 0 = some k0 from rfl, qAz, hstp, qAz, qaa (by constructor <;> simp only <;> omega)]
   simp only
   rcases hcase with ⟨q3, e⟩ | ⟨q2, e, hb⟩ | ⟨q3, q2, e⟩
   ·have hw : wS (d + 1) (lkf env) x = 1 + stE d (lkf env) k0 := by rw [wS, hk]; simp only; rw [qA0 (by omega)]; omega
    rw [qA1 (by simpa using q3), qdf (by omega), qAz]
    exact rec_ _ _ (by simp) (by rw [qmk, e]) (by rw [hw]; omega)
   ·obtain ⟨l2, hbl⟩ := hv2 q2
    have hif := qh2 q2 hm'
    rw [hk] at l2 hbl hif
    have hall := qe3 hb
    have hbr : ∀ k ∈ ks, Jax k = some (brn k) ∧ f (brn k) env = some (foldW (wS d) (stm d) (lkf env) (brn k)) ∧ 0 ≤ foldW (wS d) (stm d) (lkf env) (brn k) ∧ foldW (wS d) (stm d) (lkf env) (brn k) ≤ 200 * (cnt d k : Int) := fun k hk1 => by
     have hk2 : k ∈ x.Aa := by rw [hk]; simp [hk1]
     obtain ⟨l', e1, e2, e3⟩ := qc6 (o3 k hk2) ((hbl k (by simpa using hk1)).imp (fun h => ⟨h.1, fun q hq => ⟨m, h.2 q hq⟩⟩) fun h => ⟨h.1, m, h.2⟩)
     rw [qf0] at e1
     cases e1
     obtain ⟨b1, b2⟩ := brn_ok (o3 k hk2)
     obtain ⟨ρk, hρ⟩ := hall k hk1
     have := cnt_mem (d := d) hk1
     have bd := qd3 (d := d) (w := wS d) (g := stm d) (brn k) (lkf env) fun q hq ρ => qk0 d q (b1 q hq) ρ
     exact ⟨qf0 k, hf _ _ ρk e3 e2 (by omega) (by omega) hρ, by omega, by omega⟩
    rw [qA0 (by simp [q2]), qA1 (by simpa using q2)]
    match hks : ks, l2 with
    | [b], _ =>
     obtain ⟨b0, b1, b2, b3⟩ := hbr b (by simp)
     have hw : wS (d + 1) (lkf env) x = 1 + stE d (lkf env) k0 + foldW (wS d) (stm d) (lkf env) (brn b) := by rw [wS, hk]; simp only; rw [qA1 q2]
     simp only [cntL_cons] at hcl
     rw [show ix [k0, b] 1 = some b from rfl, qAz, b0, qAz, b1, qAz, qA0 (by simp), qaa (by constructor <;> omega)]
     exact rec_ env _ (by omega) e.symm (by rw [hw]; omega)
    | b :: c :: r, _ =>
     obtain ⟨b0, b1, b2, b3⟩ := hbr b (by simp)
     obtain ⟨c0, c1, c2, c3⟩ := hbr c (by simp)
     have hw : wS (d + 1) (lkf env) x = 1 + stE d (lkf env) k0 + max (foldW (wS d) (stm d) (lkf env) (brn b) + 1) (foldW (wS d) (stm d) (lkf env) (brn c)) := by rw [wS, hk]; simp only; rw [qA1 q2]
     simp only [cntL_cons] at hcl
     rw [show ix (k0 :: b :: c :: r) 1 = some b from rfl, qAz, b0, qAz, b1, qAz, qA1 (by simp only [List.length_cons, decide_eq_true_eq]; omega), qaa (by constructor <;> omega),
      show ix (k0 :: b :: c :: r) 2 = some c from rfl, qAz, c0, qAz, c1, qAz, qaa (by constructor <;> omega)]
     exact rec_ env _ (by omega) e.symm (by rw [hw]; omega)
    | [], l2 => simp at l2
   ·have hw : wS (d + 1) (lkf env) x = 1 + stE d (lkf env) k0 := by rw [wS, hk]; simp only; rw [qA0 q2]; omega
    rw [qA0 (by simpa using q3), qA0 (by simpa using q2)]
    exact rec_ env _ (by omega) e.symm (by rw [hw]; omega)
set_option maxRecDepth 100000 in
theorem qfj : ∀ (d n : Nat) (l : List M) (env : List Bd) (ρ' : Env), (∀ x ∈ l, Gd d x) → l.length ≤ 700 → cntL d l ≤ 10000 → env.length + 701 * (d + 1) ≤ 90000 → d + 300000 ≤ n → foldS (stm d) (lkf env) l = .ok ρ' → JaS n l env = some (foldW (wS d) (stm d) (lkf env) l)
 | d, 0, l, env, ρ', _, _, _, _, hn, _ => by omega
 | 0, n + 1, l, env, ρ', hg, hl, hc, he, hn, hs => by
  have : l = [] := by
   cases l with
   | nil => rfl
   | cons x l => exact (hg x (by simp)).1.elim
  subst this
  rw [JaS, qaa (by simp only [qau]; simp)]; rfl
 | d + 1, n + 1, l, env, ρ', hg, hl, hc, he, hn, hs => by
  obtain ⟨e2, h2⟩ := qe4 (n := n) (d := d) (f := JaS n) (by omega) (fun l' env' ρ' h1 h2 h3 h4 h5 => qfj d n l' env' ρ' h1 h2 h3 h4 (by omega) h5) l 0 env 0 ρ' hg hc (by omega) (by omega) (by omega) hs
  rw [JaS, qaa (by simp only [qau]; omega), h2, qAz]
  simp
def brn2 (k : N) : List N := if k.Ab = 2 then [k] else k.Aa
end Rt
namespace Rt.Rc
abbrev I := Jc
abbrev Cp := Jb
abbrev Sg := Str → Option Int
def num (s : Str) : Int := s.foldl (fun n c => 10 * n + ((c.toNat : Int) - 48)) 0
def sTrue : Str := [116, 114, 117, 101]
def tr (b : Bool) : List I := [⟨1, 0, []⟩, ⟨1, if b then 0 else 1, []⟩, ⟨7, 0, [61, 61]⟩]
theorem tr_len (b : Bool) : (tr b).length = 3 := rfl
def opw (x : M) : Str := if x.Ab = 17 then [43] else if x.Ab = 18 then [45] else if x.Ab = 19 then [42] else x.Ac
def nmI (σ : Sg) (s : Str) : I := match σ s with
 | some k => ⟨3, k, []⟩
 | none => ⟨5, 0, s⟩
def cE : Nat → Sg → Nat → M → List I
 | 0, _, _, _ => []
 | d + 1, σ, b, x =>
  if x.Ab = 20 then [⟨1, num x.Ac, []⟩]
  else if x.Ab = 21 then [⟨2, 0, x.Ac⟩]
  else if x.Ab = 22 then tr (decide (x.Ac = sTrue))
  else if x.Ab = 23 then [nmI σ x.Ac]
  else match x.Aa with
   | [k] => cE d σ b k ++ [if x.Ab = 24 then ⟨6, 0, x.Ac⟩ else ⟨8, 0, []⟩]
   | [k, l] =>
    if x.Ab = 14 then cE d σ b k ++ ⟨10, (b + (cE d σ b k).length + 1 + (cE d σ (b + (cE d σ b k).length + 1) l).length + 1 : Nat), []⟩ :: (cE d σ (b + (cE d σ b k).length + 1) l ++ ⟨9, (b + (cE d σ b k).length + 1 + (cE d σ (b + (cE d σ b k).length + 1) l).length + 4 : Nat), []⟩ :: tr false)
    else if x.Ab = 13 then cE d σ b k ++ ⟨10, (b + (cE d σ b k).length + 5 : Nat), []⟩ :: (tr true ++ ⟨9, (b + (cE d σ b k).length + 5 + (cE d σ (b + (cE d σ b k).length + 5) l).length : Nat), []⟩ :: cE d σ (b + (cE d σ b k).length + 5) l)
    else cE d σ b k ++ (cE d σ (b + (cE d σ b k).length) l ++ [⟨7, 0, opw x⟩])
   | _ => []
def XE (ρ : Env) : Nat → M → Prop
 | 0, _ => False
 | d + 1, x => x.Ac.length ≤ 3000 ∧
  ((x.Ab = 20 ∧ nmr x.Ac = true ∧ x.Aa = []) ∨ (x.Ab = 21 ∧ prt x.Ac = true ∧ x.Aa = []) ∨ (x.Ab = 22 ∧ x.Aa = []) ∨ (x.Ab = 23 ∧ ρ x.Ac ≠ 0 ∧ x.Aa = []) ∨
   (((x.Ab = 24 ∧ (fnc x.Ac).2 ≠ 0) ∨ x.Ab = 15) ∧ ∃ k, x.Aa = [k] ∧ XE ρ d k) ∨
   ((x.Ab = 13 ∨ x.Ab = 14 ∨ x.Ab = 17 ∨ x.Ab = 18 ∨ x.Ab = 19 ∨ (x.Ab = 16 ∧ cmp x.Ac = true)) ∧ ∃ k l, x.Aa = [k, l] ∧ XE ρ d k ∧ XE ρ d l))
theorem qjs {f : M → Except qc7 Int} : ∀ {l : List M} {ts : List Int}, kidsE f l = .ok ts → ∀ k ∈ l, ∃ t, f k = .ok t
 | [], _, _, k, hk => by cases hk
 | a :: l, ts, h, k, hk => by
  rw [kidsE] at h
  cases q : f a with
  | error e => rw [q] at h; cases h
  | ok t =>
   rw [q] at h
   simp only at h
   cases q2 : kidsE f l with
   | error e => rw [q2] at h; cases h
   | ok us =>
    rcases List.mem_cons.1 hk with rfl | hk
    ·exact ⟨t, q⟩
    ·exact qjs q2 k hk
theorem qAp {α : Type} {l : List α} (h : (l.length : Int) = 2) : ∃ a b, l = [a, b] := by
 match l, h with
 | [a, b], _ => exact ⟨a, b, rfl⟩
 | [], h => simp at h
 | [a], h => simp at h
 | a :: b :: c :: l, h => simp at h; omega
theorem qzd {α : Type} {l : List α} (h : (l.length : Int) = 1) : ∃ a, l = [a] := by
 match l, h with
 | [a], _ => exact ⟨a, rfl⟩
 | [], h => simp at h
 | a :: b :: l, h => simp at h; omega
theorem qAq {α : Type} {l : List α} (h : (l.length : Int) = 0) : l = [] := by
 cases l with
 | nil => rfl
 | cons a l => simp at h; omega
theorem qk1 {m : Nat} {x : M} {k : Int} (ht : x.Ac.length ≤ 3000) (hk : x.Ab = 20) (h : JT m x = some k) (h2 : k ≠ -2) : nmr x.Ac = true := by
 unfold JT at h
 rw [hk] at h
 rw [qA0 (by decide), qA0 (by decide), qA0 (by decide), qA0 (by decide), qA0 (by decide), qA0 (by decide), qA0 (by decide), qA1 (by decide), qph ht, qAz] at h
 cases q : nmr x.Ac with
 | true => rfl
 | false => rw [q, qA1 (by simp)] at h; cases h; exact absurd rfl h2
theorem qk2 {m : Nat} {x : M} {k : Int} (ht : x.Ac.length ≤ 3000) (hk : x.Ab = 21) (h : JT m x = some k) (h2 : k ≠ -2) : prt x.Ac = true := by
 unfold JT at h
 rw [hk] at h
 rw [qA0 (by decide), qA0 (by decide), qA0 (by decide), qA0 (by decide), qA0 (by decide), qA0 (by decide), qA0 (by decide), qA0 (by decide), qA1 (by decide), qdv (by omega), qAz] at h
 cases q : prt x.Ac with
 | true => rfl
 | false => rw [q, qA1 (by simp)] at h; cases h; exact absurd rfl h2
theorem XE_of {ρ : Env} : ∀ {d m : Nat} {x : M} {t : Int}, Ok d x → Js m x = some true → tyE d ρ x = .ok t → XE ρ d x
 | 0, _, _, _, h, _, _ => h.elim
 | d + 1, m, x, t, h, hv, ht => by
  obtain ⟨h1, h2, h3⟩ := h
  obtain ⟨m', k, rfl, hk, k2, k3, k4⟩ := qcc hv
  rw [tyE] at ht
  cases q : kidsE (tyE d ρ) x.Aa with
  | error e => rw [q] at ht; cases ht
  | ok ts =>
   rw [q] at ht
   simp only at ht
   have hm := qjs q
   have rec_ : ∀ c ∈ x.Aa, XE ρ d c := fun c hc => by
    obtain ⟨t', h'⟩ := hm c hc
    exact XE_of (h3 c hc) (k4 c hc) h'
   refine ⟨h1, ?_⟩
   have two : k = 2 → ∃ k l, x.Aa = [k, l] ∧ XE ρ d k ∧ XE ρ d l := fun e => by
    obtain ⟨a, b, e⟩ := qAp (by rw [k3 (by omega), e])
    exact ⟨a, b, e, rec_ a (by rw [e]; simp), rec_ b (by rw [e]; simp)⟩
   rcases operands_len hk k2 with ⟨q1, e⟩ | ⟨q1, e⟩ | ⟨q1, e, e2⟩ | ⟨q1, e⟩ | ⟨q1, e⟩
   ·exact .inr (.inr (.inr (.inr (.inr ⟨by omega, two e⟩))))
   ·obtain ⟨a, e⟩ := qzd (by rw [k3 (by omega), e])
    exact .inr (.inr (.inr (.inr (.inl ⟨.inr q1, a, e, rec_ a (by rw [e]; simp)⟩))))
   ·exact .inr (.inr (.inr (.inr (.inr ⟨.inr (.inr (.inr (.inr (.inr ⟨q1, e2⟩)))), two e⟩))))
   ·have e0 : x.Aa = [] := qAq (by rw [k3 (by omega), e])
    rcases q1 with q1 | q1 | q1 | q1
    ·exact .inl ⟨q1, qk1 h1 q1 hk k2, e0⟩
    ·exact .inr (.inl ⟨q1, qk2 h1 q1 hk k2, e0⟩)
    ·exact .inr (.inr (.inl ⟨q1, e0⟩))
    ·refine .inr (.inr (.inr (.inl ⟨q1, fun hz => ?_, e0⟩)))
     unfold tyN at ht
     rw [qA0 (by omega), qA0 (by omega), qA0 (by omega), qA1 q1, qA1 hz] at ht
     cases ht
   ·unfold tyN at ht
    rw [qA0 (by omega), qA0 (by omega), qA0 (by omega), qA0 (by omega), qA1 q1] at ht
    by_cases q0 : (fnc x.Ac).2 = 0
    ·rw [qA1 q0] at ht; cases ht
    ·rw [qA0 q0] at ht
     by_cases q3 : ts = [(fnc x.Ac).1]
     ·have hl := kidsE_len q
      obtain ⟨a, e'⟩ := qzd (l := x.Aa) (by rw [← hl, q3]; rfl)
      exact .inr (.inr (.inr (.inr (.inl ⟨.inl ⟨q1, q0⟩, a, e', rec_ a (by rw [e']; simp)⟩))))
     ·rw [qA0 q3] at ht; cases ht
theorem qcs {σ : Sg} : ∀ (d b : Nat) (x : M), (cE d σ b x).length ≤ 6 * cnt d x
 | 0, b, x => by simp [cE]
 | d + 1, b, x => by
  rw [cE, cnt_eq]
  by_cases q20 : x.Ab = 20; · rw [qA1 q20]; simp; omega
  by_cases q21 : x.Ab = 21; · rw [qA0 q20, qA1 q21]; simp; omega
  by_cases q22 : x.Ab = 22; · rw [qA0 q20, qA0 q21, qA1 q22, tr_len]; omega
  by_cases q23 : x.Ab = 23; · rw [qA0 q20, qA0 q21, qA0 q22, qA1 q23]; simp; omega
  rw [qA0 q20, qA0 q21, qA0 q22, qA0 q23]
  split
  ·rename_i k e
   have := qcs (σ := σ) d b k
   rw [e, cntL_cons]
   simp only [List.length_append, List.length_cons, List.length_nil]; omega
  ·rename_i k l e
   rw [e, cntL_cons, cntL_cons]
   have h1 := qcs (σ := σ) d b k
   split
   ·have h2 := qcs (σ := σ) d (b + (cE d σ b k).length + 1) l
    simp only [List.length_append, List.length_cons, tr_len]; omega
   ·split
    ·have h2 := qcs (σ := σ) d (b + (cE d σ b k).length + 5) l
     simp only [List.length_append, List.length_cons, tr_len]; omega
    ·have h2 := qcs (σ := σ) d (b + (cE d σ b k).length) l
     simp only [List.length_append, List.length_cons, List.length_nil]; omega
  ·simp
def sgP (nm : List Ji) : Sg := fun s => (nm.reverse.find? (fun b => decide (b.name = s))).map (·.slot)
theorem qa8 {C : List I} {nm : List Ji} {k op n : Int} {s : Str} (h : C.length ≤ 1000000) : Jd ⟨C, nm, k⟩ op n s = some ((C.length : Int), ⟨C ++ [⟨op, n, s⟩], nm, k⟩) := by
 unfold Jd
 rw [qaa (by simp only [List.length_cons, List.length_nil, lim]; omega), qaa (by simp only [List.length_append, List.length_cons, List.length_nil]; constructor <;> omega)]
 simp
theorem qu2 {C D : List I} {i : I} {nm : List Ji} {k : Int} : JA ⟨C ++ i :: D, nm, k⟩ (C.length : Int) = some ⟨C ++ ⟨i.Op, ((C ++ i :: D).length : Int), i.S⟩ :: D, nm, k⟩ := by
 unfold JA ix
 rw [qA1 (by omega), show ((C.length : Nat) : Int).toNat = C.length from by simp]
 simp
theorem qef {L C D : List I} {i : I} {j : Int} {nm : List Ji} {k : Int} (t : Nat) (hL : L = C ++ i :: D) (hj : j = (C.length : Int)) (ht : L.length = t) : JA ⟨L, nm, k⟩ j = some ⟨C ++ ⟨i.Op, (t : Int), i.S⟩ :: D, nm, k⟩ := by
 subst hL hj ht; exact qu2
theorem qiu {C : List I} {nm : List Ji} {k : Int} {b : Bool} (h : C.length ≤ 900000) : JX ⟨C, nm, k⟩ b = some ⟨C ++ tr b, nm, k⟩ := by
 unfold JX
 cases b with
 | true => rw [qA1 rfl, qa8 (by omega), qAz, qa8 (by simp; omega), qAz, qa8 (by simp; omega), qAz]; simp [tr]
 | false => rw [qA0 (by simp), qa8 (by omega), qAz, qa8 (by simp; omega), qAz, qa8 (by simp; omega), qAz]; simp [tr]
theorem qh3 {C : List I} {nm : List Ji} {k : Int} {s : Str} (hC : C.length ≤ 1000000) (hl : nm.length ≤ 100000) : ∀ (j n : Nat), j ≤ nm.length → j + 1 ≤ n →
  JZ ⟨C, nm, k⟩ s n ((j : Int) - 1) = some (match (nm.take j).reverse.find? (fun b => decide (b.name = s)) with
   | some b => Fl.ret ⟨C ++ [⟨3, b.slot, []⟩], nm, k⟩
   | none => Fl.go (-1))
 | 0, n + 1, _, _ => by
  rw [JZ, qA0 (by simp)]; simp
 | j + 1, n + 1, hj, hn => by
  have hlt : j < nm.length := by omega
  rw [JZ, qA1 (by simp), show (((j + 1 : Nat) : Int) - 1) = (j : Int) by omega]
  simp only
  rw [ixn hlt, qAz, qAz, List.take_succ_eq_append_getElem hlt, List.reverse_append, List.reverse_cons, List.reverse_nil, List.nil_append, List.cons_append, List.find?_cons]
  by_cases q : nm[j].name = s
  ·rw [qA1 (by simpa using q), qa8 hC, qAz, decide_eq_true q]
  ·rw [qA0 (by simpa using q), qaa (by constructor <;> omega), qh3 hC hl j n (by omega) (by omega), decide_eq_false q]
   rfl
theorem qpo {C : List I} {nm : List Ji} {k : Int} {s : Str} {n : Nat} (hC : C.length ≤ 1000000) (hl : nm.length ≤ 100000) (hn : nm.length + 1 ≤ n) : Ja3 n ⟨C, nm, k⟩ s = some ⟨C ++ [nmI (sgP nm) s], nm, k⟩ := by
 unfold Ja3
 rw [qaa (by simp only []; constructor <;> omega)]
 have h := qh3 (s := s) (k := k) hC hl nm.length n (by omega) hn
 rw [List.take_length] at h
 simp only at h ⊢
 rw [h, qAz]
 unfold nmI sgP
 cases q : nm.reverse.find? (fun b => decide (b.name = s)) with
 | some b => rw [el_ret]; rfl
 | none => rw [el_go, qa8 hC, qAz]; rfl
theorem qk3 {c : UInt8} (h : isD c = true) : Go.Lib.digitVal c = some (c.toNat - 48) := by
 simp only [isD, Bool.and_eq_true, decide_eq_true_eq] at h
 unfold Go.Lib.digitVal
 rw [qA1 (by omega)]
theorem qh4 : ∀ (s : Str) (a : Nat), s.all isD = true → Go.Lib.decFrom a s = some (s.foldl (fun n c => 10 * n + (c.toNat - 48)) a)
 | [], a, _ => rfl
 | c :: s, a, h => by
  simp only [List.all_cons, Bool.and_eq_true] at h
  rw [Go.Lib.decFrom, qk3 h.1]
  simp only
  rw [qh4 s _ h.2, List.foldl_cons, Nat.mul_comm a 10]
theorem qmm : ∀ (s : Str) (a : Nat), s.all isD = true → s.foldl (fun (n : Int) c => 10 * n + ((c.toNat : Int) - 48)) (a : Int) = ((s.foldl (fun n c => 10 * n + (c.toNat - 48)) a : Nat) : Int)
 | [], a, _ => rfl
 | c :: s, a, h => by
  simp only [List.all_cons, Bool.and_eq_true] at h
  have h1 := h.1
  simp only [isD, Bool.and_eq_true, decide_eq_true_eq] at h1
  rw [List.foldl_cons, List.foldl_cons, ← qmm s _ h.2]
  congr 1
  omega
theorem nmr_all {s : Str} (h : nmr s = true) : s.all isD = true ∧ s.length ≤ 9 ∧ 1 ≤ s.length := by
 cases s with
 | nil => simp [nmr] at h
 | cons c t =>
  simp only [nmr, Bool.and_eq_true, decide_eq_true_eq] at h
  exact ⟨by rw [List.all_cons, h.1.1, h.1.2]; rfl, by simp; omega, by simp⟩
theorem qw2 {s : Str} (h : nmr s = true) : qnr s = some (num s, none) := by
 obtain ⟨h1, h2, h3⟩ := nmr_all h
 unfold qnr
 rw [qA1 (by omega)]
 have e : Go.Lib.atoi s = some (num s) := by
  cases s with
  | nil => simp at h3
  | cons c t =>
   have hc : isD c = true := by simp only [List.all_cons, Bool.and_eq_true] at h1; exact h1.1
   simp only [isD, Bool.and_eq_true, decide_eq_true_eq] at hc
   have n1 : (c == 45) = false := by
    rw [beq_eq_false_iff_ne]; intro e; subst e; simp at hc
   have n2 : (c == 43) = false := by
    rw [beq_eq_false_iff_ne]; intro e; subst e; simp at hc
   rw [Go.Lib.atoi, n1, n2]
   simp only [Bool.false_eq_true, if_false]
   rw [Go.Lib.decNat]
   simp only [List.isEmpty_cons, Bool.false_eq_true, if_false]
   rw [qh4 _ _ h1, Option.map_some, num, ← qmm _ 0 h1]
   rfl
 rw [e]; rfl
theorem cE_20 {d b : Nat} {σ : Sg} {x : M} (h : x.Ab = 20) : cE (d + 1) σ b x = [⟨1, num x.Ac, []⟩] := by rw [cE, qA1 h]
theorem cE_21 {d b : Nat} {σ : Sg} {x : M} (h : x.Ab = 21) : cE (d + 1) σ b x = [⟨2, 0, x.Ac⟩] := by rw [cE, qA0 (by omega), qA1 h]
theorem cE_22 {d b : Nat} {σ : Sg} {x : M} (h : x.Ab = 22) : cE (d + 1) σ b x = tr (decide (x.Ac = sTrue)) := by rw [cE, qA0 (by omega), qA0 (by omega), qA1 h]
theorem cE_23 {d b : Nat} {σ : Sg} {x : M} (h : x.Ab = 23) : cE (d + 1) σ b x = [nmI σ x.Ac] := by rw [cE, qA0 (by omega), qA0 (by omega), qA0 (by omega), qA1 h]
theorem cE_24 {d b : Nat} {σ : Sg} {x k : M} (h : x.Ab = 24) (hk : x.Aa = [k]) : cE (d + 1) σ b x = cE d σ b k ++ [⟨6, 0, x.Ac⟩] := by
 rw [cE, qA0 (by omega), qA0 (by omega), qA0 (by omega), qA0 (by omega), hk]; simp only; rw [qA1 h]
theorem cE_15 {d b : Nat} {σ : Sg} {x k : M} (h : x.Ab = 15) (hk : x.Aa = [k]) : cE (d + 1) σ b x = cE d σ b k ++ [⟨8, 0, []⟩] := by
 rw [cE, qA0 (by omega), qA0 (by omega), qA0 (by omega), qA0 (by omega), hk]; simp only; rw [qA0 (by omega)]
theorem cE_14 {d b : Nat} {σ : Sg} {x k l : M} (h : x.Ab = 14) (hk : x.Aa = [k, l]) : cE (d + 1) σ b x = cE d σ b k ++ ⟨10, (b + (cE d σ b k).length + 1 + (cE d σ (b + (cE d σ b k).length + 1) l).length + 1 : Nat), []⟩ :: (cE d σ (b + (cE d σ b k).length + 1) l ++ ⟨9, (b + (cE d σ b k).length + 1 + (cE d σ (b + (cE d σ b k).length + 1) l).length + 4 : Nat), []⟩ :: tr false) := by
 rw [cE, qA0 (by omega), qA0 (by omega), qA0 (by omega), qA0 (by omega), hk]; simp only; rw [qA1 h]
theorem cE_13 {d b : Nat} {σ : Sg} {x k l : M} (h : x.Ab = 13) (hk : x.Aa = [k, l]) : cE (d + 1) σ b x = cE d σ b k ++ ⟨10, (b + (cE d σ b k).length + 5 : Nat), []⟩ :: (tr true ++ ⟨9, (b + (cE d σ b k).length + 5 + (cE d σ (b + (cE d σ b k).length + 5) l).length : Nat), []⟩ :: cE d σ (b + (cE d σ b k).length + 5) l) := by
 rw [cE, qA0 (by omega), qA0 (by omega), qA0 (by omega), qA0 (by omega), hk]; simp only; rw [qA0 (by omega), qA1 h]
theorem cE_op {d b : Nat} {σ : Sg} {x k l : M} (h : x.Ab = 17 ∨ x.Ab = 18 ∨ x.Ab = 19 ∨ x.Ab = 16) (hk : x.Aa = [k, l]) : cE (d + 1) σ b x = cE d σ b k ++ (cE d σ (b + (cE d σ b k).length) l ++ [⟨7, 0, opw x⟩]) := by
 rw [cE, qA0 (by omega), qA0 (by omega), qA0 (by omega), qA0 (by omega), hk]; simp only; rw [qA0 (by omega), qA0 (by omega)]
theorem ix0 {α : Type} {a : α} {l : List α} : ix (a :: l) 0 = some a := rfl
theorem ix1 {α : Type} {a b : α} {l : List α} : ix (a :: b :: l) 1 = some b := rfl
theorem qze {n : Nat} {f : Cp → M → Option Cp} {c c1 c2 : Cp} {x k l : M} {w : Str} (hk : x.Aa = [k, l]) (h1 : f c k = some c1) (h2 : f c1 l = some c2) (hl : c2.code.length ≤ 1000000) :
  J3 f n c x w = some ⟨c2.code ++ [⟨7, 0, w⟩], c2.names, c2.Ap⟩ := by
 unfold J3
 rw [hk, ix0, qAz, h1, qAz, ix1, qAz, h2, qAz, qa8 hl, qAz]
theorem qAr {f : Cp → M → Option Cp} {C A B : List I} {nm : List Ji} {z : Int} {k l : M} (h1 : f ⟨C, nm, z⟩ k = some ⟨C ++ A, nm, z⟩) (h2 : f ⟨C ++ A ++ [⟨10, 0, []⟩], nm, z⟩ l = some ⟨C ++ A ++ [⟨10, 0, []⟩] ++ B, nm, z⟩) (hl : C.length + A.length + B.length ≤ 800000) :
  ((f ⟨C, nm, z⟩ k).bind fun x95 => (Jd x95 10 0 []).bind fun x97 => (f x97.2 l).bind fun x103 => (Jd x103 9 0 []).bind fun x105 => (JA x105.2 x97.1).bind fun x108 =>
   (JX x108 false).bind fun x110 => (JA x110 x105.1).bind fun x113 => some x113) = some ⟨C ++ (A ++ ⟨10, (C.length + A.length + 1 + B.length + 1 : Nat), []⟩ :: (B ++ ⟨9, (C.length + A.length + 1 + B.length + 4 : Nat), []⟩ :: tr false)), nm, z⟩ := by
 rw [h1, qAz, qa8 (by simp; omega), qAz]
 simp only
 rw [h2, qAz, qa8 (by simp; omega), qAz]
 simp only
 rw [qef (C := C ++ A) (i := ⟨10, 0, []⟩) (D := B ++ [⟨9, 0, []⟩]) (C.length + A.length + 1 + B.length + 1) (by simp) rfl (by simp; omega), qAz, qiu (by simp; omega), qAz]
 rw [qef (C := C ++ A ++ (⟨10, (C.length + A.length + 1 + B.length + 1 : Nat), []⟩ : I) :: B) (i := ⟨9, 0, []⟩) (D := tr false) (C.length + A.length + 1 + B.length + 4) (by simp) (by simp) (by simp [tr_len]; omega), qAz]
 simp only [List.append_assoc, List.cons_append, List.nil_append]
theorem por {f : Cp → M → Option Cp} {C A B : List I} {nm : List Ji} {z : Int} {k l : M} (h1 : f ⟨C, nm, z⟩ k = some ⟨C ++ A, nm, z⟩)
  (h2 : f ⟨C ++ (A ++ ⟨10, (C.length + A.length + 5 : Nat), []⟩ :: (tr true ++ [⟨9, 0, []⟩])), nm, z⟩ l = some ⟨C ++ (A ++ ⟨10, (C.length + A.length + 5 : Nat), []⟩ :: (tr true ++ [⟨9, 0, []⟩])) ++ B, nm, z⟩) (hl : C.length + A.length + B.length ≤ 800000) :
  ((f ⟨C, nm, z⟩ k).bind fun x121 => (Jd x121 10 0 []).bind fun x123 => (JX x123.2 true).bind fun x125 => (Jd x125 9 0 []).bind fun x127 => (JA x127.2 x123.1).bind fun x130 =>
   (f x130 l).bind fun x136 => (JA x136 x127.1).bind fun x139 => some x139) = some ⟨C ++ (A ++ ⟨10, (C.length + A.length + 5 : Nat), []⟩ :: (tr true ++ ⟨9, (C.length + A.length + 5 + B.length : Nat), []⟩ :: B)), nm, z⟩ := by
 rw [h1, qAz, qa8 (by simp; omega), qAz]
 simp only
 rw [qiu (by simp; omega), qAz, qa8 (by simp [tr_len]; omega), qAz]
 simp only
 rw [qef (C := C ++ A) (i := ⟨10, 0, []⟩) (D := tr true ++ [⟨9, 0, []⟩]) (C.length + A.length + 5) (by simp) (by simp) (by simp [tr_len]; omega), qAz, List.append_assoc]
 simp only
 rw [h2, qAz]
 rw [qef (C := C ++ (A ++ ⟨10, (C.length + A.length + 5 : Nat), []⟩ :: tr true)) (i := ⟨9, 0, []⟩) (D := B) (C.length + A.length + 5 + B.length) (by simp) (by simp [tr_len]) (by simp [tr_len]; omega), qAz]
 simp only [List.append_assoc, List.cons_append, List.nil_append]
theorem qk4 {ρ : Env} {nm : List Ji} {z : Int} (hnm : nm.length ≤ 100000) : ∀ (d n : Nat) (C : List I) (x : M), XE ρ d x → d + 200000 ≤ n → C.length + 6 * cnt d x ≤ 800000 →
  JB n ⟨C, nm, z⟩ x = some ⟨C ++ cE d (sgP nm) C.length x, nm, z⟩
 | 0, _, _, _, h, _, _ => h.elim
 | d + 1, 0, _, _, _, hn, _ => by omega
 | d + 1, n + 1, C, x, ⟨h1, h2⟩, hn, hC => by
  rw [cnt_eq] at hC
  rw [JB]
  rcases h2 with ⟨q, ht, hk⟩ | ⟨q, ht, hk⟩ | ⟨q, hk⟩ | ⟨q, ht, hk⟩ | ⟨q, k, hk, hx⟩ | ⟨q, k, l, hk, hx, hy⟩
  ·rw [qA1 (by simpa using q), qw2 ht, qAz, qA0 (by simp), qa8 (by omega), qAz, cE_20 q]
  ·rw [qA0 (by simp; omega), qA1 (by simpa using q), qa8 (by omega), qAz, cE_21 q]
  ·rw [qA0 (by simp; omega), qA0 (by simp; omega), qA1 (by simpa using q), qiu (by omega), qAz, cE_22 q]; rfl
  ·rw [qA0 (by simp; omega), qA0 (by simp; omega), qA0 (by simp; omega), qA1 (by simpa using q), qpo (by omega) hnm (by omega), qAz, cE_23 q]
  ·rw [hk, cntL_cons] at hC
   have hl := qcs (σ := sgP nm) d C.length k
   have e := qk4 (z := z) hnm d n C k hx (by omega) (by omega)
   rcases q with ⟨q, _⟩ | q
   ·rw [qA0 (by simp; omega), qA0 (by simp; omega), qA0 (by simp; omega), qA0 (by simp; omega), qA1 (by simpa using q), hk, ix0, qAz, e, qAz, qa8 (by simp; omega), qAz, cE_24 q hk, List.append_assoc]
   ·rw [qA0 (by simp; omega), qA0 (by simp; omega), qA0 (by simp; omega), qA0 (by simp; omega), qA0 (by simp; omega), qA1 (by simpa using q), hk, ix0, qAz, e, qAz, qa8 (by simp; omega), qAz, cE_15 q hk, List.append_assoc]
  ·rw [hk, cntL_cons, cntL_cons] at hC
   have hl := qcs (σ := sgP nm) d C.length k
   have e := qk4 (z := z) hnm d n C k hx (by omega) (by omega)
   have both : ∀ w, opw x = w → (x.Ab = 17 ∨ x.Ab = 18 ∨ x.Ab = 19 ∨ x.Ab = 16) → J3 (JB n) n ⟨C, nm, z⟩ x w = some ⟨C ++ cE (d + 1) (sgP nm) C.length x, nm, z⟩ := fun w hw hq => by
    have e2 := qk4 (z := z) hnm d n (C ++ cE d (sgP nm) C.length k) l hy (by omega) (by simp only [List.length_append]; omega)
    have hl2 := qcs (σ := sgP nm) d (C ++ cE d (sgP nm) C.length k).length l
    rw [qze hk e e2 (by simp only [List.length_append] at hl2 ⊢; omega), cE_op hq hk, hw]
    simp only [List.length_append, List.append_assoc]
   by_cases q17 : x.Ab = 17
   ·rw [qA0 (by simp; omega), qA0 (by simp; omega), qA0 (by simp; omega), qA0 (by simp; omega), qA0 (by simp; omega), qA0 (by simp; omega), qA1 (by simpa using q17), both [43] (by simp [opw, q17]) (by omega), qAz]
   by_cases q18 : x.Ab = 18
   ·rw [qA0 (by simp; omega), qA0 (by simp; omega), qA0 (by simp; omega), qA0 (by simp; omega), qA0 (by simp; omega), qA0 (by simp; omega), qA0 (by simp; omega), qA1 (by simpa using q18), both [45] (by simp [opw, q18]) (by omega), qAz]
   by_cases q19 : x.Ab = 19
   ·rw [qA0 (by simp; omega), qA0 (by simp; omega), qA0 (by simp; omega), qA0 (by simp; omega), qA0 (by simp; omega), qA0 (by simp; omega), qA0 (by simp; omega), qA0 (by simp; omega), qA1 (by simpa using q19), both [42] (by simp [opw, q19]) (by omega), qAz]
   by_cases q16 : x.Ab = 16
   ·rw [qA0 (by simp; omega), qA0 (by simp; omega), qA0 (by simp; omega), qA0 (by simp; omega), qA0 (by simp; omega), qA0 (by simp; omega), qA0 (by simp; omega), qA0 (by simp; omega), qA0 (by simp; omega), qA1 (by simpa using q16), both x.Ac (by simp [opw, q16]) (by omega), qAz]
   by_cases q14 : x.Ab = 14
   ·have hl2 := qcs (σ := sgP nm) d (C.length + (cE d (sgP nm) C.length k).length + 1) l
    have e2 := qk4 (z := z) hnm d n (C ++ cE d (sgP nm) C.length k ++ [⟨10, 0, []⟩]) l hy (by omega) (by simp only [List.length_append, List.length_cons, List.length_nil]; omega)
    simp only [List.length_append, List.length_cons, List.length_nil, Nat.zero_add] at e2
    have h := qAr e e2 (by omega)
    rw [qA0 (by simp; omega), qA0 (by simp; omega), qA0 (by simp; omega), qA0 (by simp; omega), qA0 (by simp; omega), qA0 (by simp; omega), qA0 (by simp; omega), qA0 (by simp; omega), qA0 (by simp; omega), qA0 (by simp; omega), qA1 (by simpa using q14), hk, ix0, qAz, ix1]
    simp only [qAz] at h ⊢
    rw [h, cE_14 q14 hk]
   ·have q13 : x.Ab = 13 := by omega
    have hl2 := qcs (σ := sgP nm) d (C.length + (cE d (sgP nm) C.length k).length + 5) l
    have e2 := qk4 (z := z) hnm d n (C ++ (cE d (sgP nm) C.length k ++ ⟨10, (C.length + (cE d (sgP nm) C.length k).length + 5 : Nat), []⟩ :: (tr true ++ [⟨9, 0, []⟩]))) l hy (by omega) (by simp only [List.length_append, List.length_cons, List.length_nil, tr_len]; omega)
    rw [show (C ++ (cE d (sgP nm) C.length k ++ (⟨10, (C.length + (cE d (sgP nm) C.length k).length + 5 : Nat), []⟩ : I) :: (tr true ++ [⟨9, 0, []⟩]))).length = C.length + (cE d (sgP nm) C.length k).length + 5 by simp [tr_len]; omega] at e2
    have h := por e e2 (by omega)
    rw [qA0 (by simp; omega), qA0 (by simp; omega), qA0 (by simp; omega), qA0 (by simp; omega), qA0 (by simp; omega), qA0 (by simp; omega), qA0 (by simp; omega), qA0 (by simp; omega), qA0 (by simp; omega), qA0 (by simp; omega), qA0 (by simp; omega), qA1 (by simpa using q13), hk, ix0, qAz, ix1]
    simp only [qAz] at h ⊢
    rw [h, cE_13 q13 hk]
def acw (x : M) : Option Str :=
 if x.Ab = 4 then some x.Ac
 else if x.Ab = 5 then some ([104, 101, 97, 100, 101, 114, 58] ++ x.Ac)
 else if x.Ab = 6 then some ([118, 97, 114, 121, 58] ++ x.Ac)
 else if x.Ab = 7 then some [116, 97, 103]
 else if x.Ab = 8 then some [116, 116, 108]
 else if x.Ab = 9 then some [100, 101, 110, 121]
 else if x.Ab = 10 then some [112, 97, 115, 115]
 else if x.Ab = 11 then some [116, 111, 107, 101, 110]
 else none
def acs (x : M) : List I := match acw x with
 | some w => [⟨11, 0, w⟩]
 | none => []
theorem qu3 (x : M) : (acs x).length ≤ 1 := by unfold acs; split <;> simp
def foldC (g : Sg → Int → Nat → M → List I × Int × Sg) : Sg → Int → Nat → List M → List I × Int
 | _, k, _, [] => ([], k)
 | σ, k, b, x :: l => ((g σ k b x).1 ++ (foldC g (g σ k b x).2.2 (g σ k b x).2.1 (b + (g σ k b x).1.length) l).1, (foldC g (g σ k b x).2.2 (g σ k b x).2.1 (b + (g σ k b x).1.length) l).2)
def upd (σ : Sg) (s : Str) (k : Int) : Sg := fun q => if s = q then some k else σ q
def if2 (b : Nat) (A T : List I) : List I := A ++ ⟨10, (b + A.length + 1 + T.length : Nat), []⟩ :: T
def if3 (b : Nat) (A T O : List I) : List I := A ++ ⟨10, (b + A.length + 1 + T.length + 1 : Nat), []⟩ :: (T ++ ⟨9, (b + A.length + 1 + T.length + 1 + O.length : Nat), []⟩ :: O)
def hdC (d : Nat) (σ : Sg) (b : Nat) : List M → List I
 | [] => []
 | e :: _ => cE d σ b e
def cS : Nat → Sg → Int → Nat → M → List I × Int × Sg
 | 0, σ, k, _, _ => ([], k, σ)
 | d + 1, σ, k, b, x =>
  if x.Ab = 2 then match x.Aa with
   | [e, t] => (if2 b (cE d σ b e) (foldC (cS d) σ k (b + (cE d σ b e).length + 1) t.Aa).1, (foldC (cS d) σ k (b + (cE d σ b e).length + 1) t.Aa).2, σ)
   | [e, t, o] => (if3 b (cE d σ b e) (foldC (cS d) σ k (b + (cE d σ b e).length + 1) t.Aa).1 (foldC (cS d) σ (foldC (cS d) σ k (b + (cE d σ b e).length + 1) t.Aa).2 (b + (cE d σ b e).length + 1 + (foldC (cS d) σ k (b + (cE d σ b e).length + 1) t.Aa).1.length + 1) (brn o)).1,
     (foldC (cS d) σ (foldC (cS d) σ k (b + (cE d σ b e).length + 1) t.Aa).2 (b + (cE d σ b e).length + 1 + (foldC (cS d) σ k (b + (cE d σ b e).length + 1) t.Aa).1.length + 1) (brn o)).2, σ)
   | _ => ([], k, σ)
  else if x.Ab = 3 then (hdC d σ b x.Aa ++ [⟨4, k, []⟩], k + 1, upd σ x.Ac k)
  else (hdC d σ b x.Aa ++ acs x, k, σ)
theorem cS_2 {d b : Nat} {σ : Sg} {k : Int} {x e t : M} (h : x.Ab = 2) (hk : x.Aa = [e, t]) {T : List I × Int} (hT : foldC (cS d) σ k (b + (cE d σ b e).length + 1) t.Aa = T) : cS (d + 1) σ k b x = (if2 b (cE d σ b e) T.1, T.2, σ) := by
 rw [cS, qA1 h, hk]; simp only; rw [hT]
theorem cS_3 {d b : Nat} {σ : Sg} {k : Int} {x e t o : M} (h : x.Ab = 2) (hk : x.Aa = [e, t, o]) {T O : List I × Int} (hT : foldC (cS d) σ k (b + (cE d σ b e).length + 1) t.Aa = T)
  (hO : foldC (cS d) σ T.2 (b + (cE d σ b e).length + 1 + T.1.length + 1) (brn o) = O) : cS (d + 1) σ k b x = (if3 b (cE d σ b e) T.1 O.1, O.2, σ) := by
 rw [cS, qA1 h, hk]; simp only; rw [hT, hO]
theorem cS_let {d b : Nat} {σ : Sg} {k : Int} {x : M} (h : x.Ab = 3) : cS (d + 1) σ k b x = (hdC d σ b x.Aa ++ [⟨4, k, []⟩], k + 1, upd σ x.Ac k) := by
 rw [cS, qA0 (by omega), qA1 h]
theorem cS_act {d b : Nat} {σ : Sg} {k : Int} {x : M} (h2 : x.Ab ≠ 2) (h3 : x.Ab ≠ 3) : cS (d + 1) σ k b x = (hdC d σ b x.Aa ++ acs x, k, σ) := by
 rw [cS, qA0 h2, qA0 h3]
theorem qpp {d b : Nat} {σ : Sg} : ∀ (l : List M), (hdC d σ b l).length ≤ 6 * cntL d l
 | [] => by simp [hdC]
 | e :: l => by
  have := qcs (σ := σ) d b e
  rw [hdC, cntL_cons]; omega
theorem foldC_len {d : Nat} {g : Sg → Int → Nat → M → List I × Int × Sg} : ∀ (l : List M) (σ : Sg) (k : Int) (b : Nat), (∀ x ∈ l, ∀ σ k b, (g σ k b x).1.length ≤ 6 * cnt d x ∧ k ≤ (g σ k b x).2.1 ∧ (g σ k b x).2.1 ≤ k + cnt d x) → (foldC g σ k b l).1.length ≤ 6 * cntL d l ∧ k ≤ (foldC g σ k b l).2 ∧ (foldC g σ k b l).2 ≤ k + cntL d l
 | [], σ, k, b, _ => by simp [foldC, cntL]
 | x :: l, σ, k, b, h => by
  obtain ⟨h1, h2, h3⟩ := h x (by simp) σ k b
  obtain ⟨g1, g2, g3⟩ := foldC_len (d := d) l (g σ k b x).2.2 (g σ k b x).2.1 (b + (g σ k b x).1.length) fun q hq => h q (by simp [hq])
  rw [foldC, cntL_cons]
  simp only [List.length_append]
  omega
theorem cS_len : ∀ (d : Nat) (x : M), Ok d x → ∀ (σ : Sg) (k : Int) (b : Nat), (cS d σ k b x).1.length ≤ 6 * cnt d x ∧ k ≤ (cS d σ k b x).2.1 ∧ (cS d σ k b x).2.1 ≤ k + cnt d x
 | 0, x, h, _, _, _ => h.elim
 | d + 1, x, h, σ, k, b => by
  obtain ⟨h1, h2, h3⟩ := h
  rw [cnt_eq]
  have kidsL : ∀ t ∈ x.Aa, ∀ (σ : Sg) (k : Int) (b : Nat), (foldC (cS d) σ k b t.Aa).1.length ≤ 6 * cnt d t ∧ k ≤ (foldC (cS d) σ k b t.Aa).2 ∧ (foldC (cS d) σ k b t.Aa).2 ≤ k + cnt d t := fun t ht σ k b => by
   have hok := h3 t ht
   cases d with
   | zero => exact hok.elim
   | succ d =>
    obtain ⟨g1, g2, g3⟩ := foldC_len (d := d + 1) (g := cS (d + 1)) t.Aa σ k b fun q hq => cS_len (d + 1) q (hok.2.2 q hq).succ
    have e : cntL (d + 1) t.Aa = cntL d t.Aa := by
     unfold cntL
     congr 1
     exact List.map_congr_left fun q hq => qis (hok.2.2 q hq)
    rw [cnt_eq]
    rw [e] at g1 g3
    omega
  have brL : ∀ t ∈ x.Aa, ∀ (σ : Sg) (k : Int) (b : Nat), (foldC (cS d) σ k b (brn t)).1.length ≤ 6 * cnt d t ∧ k ≤ (foldC (cS d) σ k b (brn t)).2 ∧ (foldC (cS d) σ k b (brn t)).2 ≤ k + cnt d t := fun t ht σ k b => by
   obtain ⟨o1, o2⟩ := brn_ok (h3 t ht)
   obtain ⟨g1, g2, g3⟩ := foldC_len (d := d) (g := cS d) (brn t) σ k b fun q hq => cS_len d q (o1 q hq)
   omega
  by_cases q2 : x.Ab = 2
  ·rw [cS, qA1 q2]
   split
   ·rename_i e t hk
    have hA := qcs (σ := σ) d b e
    obtain ⟨t1, t2, t3⟩ := kidsL t (by rw [hk]; simp) σ k (b + (cE d σ b e).length + 1)
    rw [hk, cntL_cons, cntL_cons]
    simp only [if2, List.length_append, List.length_cons]
    omega
   ·rename_i e t o hk
    have hA := qcs (σ := σ) d b e
    obtain ⟨t1, t2, t3⟩ := kidsL t (by rw [hk]; simp) σ k (b + (cE d σ b e).length + 1)
    obtain ⟨o1, o2, o3⟩ := brL o (by rw [hk]; simp) σ (foldC (cS d) σ k (b + (cE d σ b e).length + 1) t.Aa).2 (b + (cE d σ b e).length + 1 + (foldC (cS d) σ k (b + (cE d σ b e).length + 1) t.Aa).1.length + 1)
    rw [hk, cntL_cons, cntL_cons, cntL_cons]
    simp only [if3, List.length_append, List.length_cons]
    omega
   ·simp; omega
  ·have hA := qpp (σ := σ) (d := d) (b := b) x.Aa
   by_cases q3 : x.Ab = 3
   ·rw [cS_let q3]
    simp only [List.length_append, List.length_cons, List.length_nil]
    omega
   ·rw [cS_act q2 q3]
    have := qu3 x
    simp only [List.length_append]
    omega
def HB (d : Nat) (f : Cp → List M → Option Cp) : Prop := ∀ (C : List I) (nm : List Ji) (z : Int) (l : List M) (ρ ρ' : Env), (∀ x ∈ l, Gd d x) → foldS (stm d) ρ l = .ok ρ' → l.length ≤ 700 → nm.length + 701 * (d + 1) ≤ 90000 → C.length + 6 * cntL d l ≤ 700000 → 0 ≤ z → z + cntL d l ≤ 1000000 →
 f ⟨C, nm, z⟩ l = some ⟨C ++ (foldC (cS d) (sgP nm) z C.length l).1, nm, (foldC (cS d) (sgP nm) z C.length l).2⟩
theorem qr4 (nm : List Ji) (s : Str) (k : Int) : sgP (nm ++ [⟨s, k⟩]) = upd (sgP nm) s k := by
 funext q
 unfold sgP upd
 rw [List.reverse_append, List.reverse_cons, List.reverse_nil, List.nil_append, List.cons_append, List.find?_cons]
 by_cases h : s = q
 ·rw [decide_eq_true h, qA1 h]; rfl
 ·rw [decide_eq_false h, qA0 h]; rfl
theorem if_kids {m : Nat} {x : M} (hk : x.Ab = 2) (h : Jz (m + 1) x = some true) : ∃ e t, t.Ab = 12 ∧ (x.Aa = [e, t] ∨ ∃ o, (o.Ab = 12 ∨ o.Ab = 2) ∧ x.Aa = [e, t, o]) := by
 obtain ⟨l3, k1⟩ := qh2 hk h
 have k2 := qpm hk h
 obtain ⟨m', e, _, hv⟩ := qbs h
 cases e
 obtain ⟨l2, _⟩ := hv hk
 match hx : x.Aa, l2, l3 with
 | [e, t], _, _ => exact ⟨e, t, k1 t (by rw [hx]; rfl), .inl rfl⟩
 | [e, t, o], _, _ =>
  refine ⟨e, t, k1 t (by rw [hx]; rfl), .inr ⟨o, ?_, rfl⟩⟩
  by_cases q : o.Ab = 12
  ·exact .inl q
  ·exact .inr (k2 o (by rw [hx]; simp) q)
 | [], h, _ => simp at h
 | [a], h, _ => simp at h
 | a :: b :: c :: e :: l, _, h => simp at h
theorem brn12 {t : M} (h : t.Ab = 12) : brn t = t.Aa := by unfold brn; rw [qA1 h]
theorem brn2 {t : M} (h : t.Ab = 2) : brn t = [t] := by unfold brn; rw [qA0 (by omega)]
set_option maxRecDepth 100000 in
theorem qpq {f : Cp → List M → Option Cp} : ∀ (d n : Nat) (C : List I) (nm : List Ji) (z : Int) (x : M) (ρ ρ' : Env), (∀ e, e ≤ d → HB e f) → x.Ab = 2 → Gd (d + 1) x → stm (d + 1) ρ x = .ok ρ' → d + 250000 ≤ n → nm.length + 701 * (d + 1) ≤ 90000 → C.length + 6 * cnt (d + 1) x ≤ 700000 → 0 ≤ z → z + cnt (d + 1) x ≤ 1000000 →
  J8 f n ⟨C, nm, z⟩ x = some ⟨C ++ (cS (d + 1) (sgP nm) z C.length x).1, nm, (cS (d + 1) (sgP nm) z C.length x).2.1⟩
 | d, 0, _, _, _, _, _, _, _, _, _, _, hn, _, _, _, _ => by omega
 | d, n + 1, C, nm, z, x, ρ, ρ', hf, q2, hg, hs, hn, hnm, hC, hz, hz2 => by
  obtain ⟨⟨h1, h2, h3⟩, m, hm⟩ := hg
  obtain ⟨m, rfl, hv0, hv2⟩ := qbs hm
  obtain ⟨l2, hb⟩ := hv2 q2
  obtain ⟨e, t, ht12, hk⟩ := if_kids q2 hm
  rw [cnt_eq] at hC hz2
  have hex : ∃ ks, x.Aa = e :: t :: ks := by rcases hk with hk | ⟨o, _, hk⟩ <;> exact ⟨_, hk⟩
  obtain ⟨ks, hks⟩ := hex
  obtain ⟨te, hte, hst⟩ := qee hks hs
  rcases hst with ⟨q, _⟩ | ⟨_, rfl, hbr⟩ | ⟨_, q, _⟩
  ·omega
  ·have hE : XE ρ' d e := XE_of (h3 e (by rw [hks]; simp)) (hv0 e (by rw [hks]; rfl)) hte
   have hT := qe3 hbr
   have gd : ∀ k ∈ t :: ks, (∀ q ∈ brn k, Gd d q) ∧ (brn k).length ≤ 700 := fun k hk1 => by
    have hk2 : k ∈ x.Aa := by rw [hks]; simp at hk1 ⊢; exact .inr hk1
    obtain ⟨l', e1, e2, e3⟩ := qc6 (h3 k hk2) ((hb k (by rw [hks]; simpa using hk1)).imp (fun h => ⟨h.1, fun q hq => ⟨m, h.2 q hq⟩⟩) fun h => ⟨h.1, m, h.2⟩)
    rw [qf0] at e1
    cases e1
    exact ⟨e3, e2⟩
   have hAl := qcs (σ := sgP nm) d C.length e
   rw [hks, cntL_cons, cntL_cons] at hC hz2
   have eA := qk4 (z := z) (by omega) d n C e hE (by omega) (by omega) (nm := nm)
   obtain ⟨gt, lt⟩ := gd t (by simp)
   obtain ⟨ρt, hρt⟩ := hT t (by simp)
   obtain ⟨okt, ct⟩ := brn_ok (h3 t (by rw [hks]; simp))
   rw [brn12 ht12] at gt lt hρt okt ct
   have lT := foldC_len (d := d) (g := cS d) t.Aa (sgP nm) z (C.length + (cE d (sgP nm) C.length e).length + 1) fun q hq => cS_len d q (okt q hq)
   have eT := hf d (Nat.le_refl _) (C ++ cE d (sgP nm) C.length e ++ [⟨10, 0, []⟩]) nm z t.Aa ρ' ρt gt hρt lt (by omega) (by simp only [List.length_append, List.length_cons, List.length_nil]; omega) hz (by omega)
   simp only [List.length_append, List.length_cons, List.length_nil, Nat.zero_add] at eT
   rw [J8, hks, ix0, qAz, eA, qAz, qa8 (by simp only [List.length_append]; omega), qAz, ix1, qAz]
   simp only
   rw [eT, qAz]
   generalize hTT : foldC (cS d) (sgP nm) z (C.length + (cE d (sgP nm) C.length e).length + 1) t.Aa = T at lT ⊢
   generalize hAA : cE d (sgP nm) C.length e = A at hAl hTT ⊢
   rcases hk with hk | ⟨o, ho, hk⟩
   ·rw [hks] at hk
    cases hk
    rw [qA1 (by simp), qef (C := C ++ A) (i := ⟨10, 0, []⟩) (D := T.1) (C.length + A.length + 1 + T.1.length) (by simp) (by simp) (by simp <;> omega), qAz, cS_2 (T := T) q2 hks (by rw [hAA]; exact hTT), hAA]
    simp [if2]
   ·rw [hks] at hk
    cases hk
    have hot : (∀ q ∈ brn o, Gd d q) ∧ (brn o).length ≤ 700 := gd o (by simp)
    obtain ⟨go, lo⟩ := hot
    obtain ⟨ρo, hρo⟩ := hT o (by simp)
    obtain ⟨oko, co⟩ := brn_ok (h3 o (by rw [hks]; simp))
    rw [cntL_cons] at hC hz2
    rw [qA0 (by simp <;> omega), qa8 (by simp only [List.length_append, List.length_cons, List.length_nil]; omega), qAz]
    simp only
    rw [qef (C := C ++ A) (i := ⟨10, 0, []⟩) (D := T.1 ++ [⟨9, 0, []⟩]) (C.length + A.length + 1 + T.1.length + 1) (by simp) (by simp) (by simp; omega), qAz, show ix [e, t, o] 2 = some o from rfl, qAz, qAz]
    have eO : (if decide (o.Ab = 2) = true then (J8 f n ⟨C ++ A ++ (⟨10, (C.length + A.length + 1 + T.1.length + 1 : Nat), []⟩ : I) :: (T.1 ++ [⟨9, 0, []⟩]), nm, T.2⟩ o) else f ⟨C ++ A ++ (⟨10, (C.length + A.length + 1 + T.1.length + 1 : Nat), []⟩ : I) :: (T.1 ++ [⟨9, 0, []⟩]), nm, T.2⟩ o.Aa) =
      some ⟨C ++ A ++ (⟨10, (C.length + A.length + 1 + T.1.length + 1 : Nat), []⟩ : I) :: (T.1 ++ [⟨9, 0, []⟩]) ++ (foldC (cS d) (sgP nm) T.2 (C.length + A.length + 1 + T.1.length + 1) (brn o)).1, nm, (foldC (cS d) (sgP nm) T.2 (C.length + A.length + 1 + T.1.length + 1) (brn o)).2⟩ := by
     have len : (C ++ A ++ (⟨10, (C.length + A.length + 1 + T.1.length + 1 : Nat), []⟩ : I) :: (T.1 ++ [⟨9, 0, []⟩])).length = C.length + A.length + 1 + T.1.length + 1 := by simp; omega
     by_cases qo : o.Ab = 2
     ·rw [qA1 (by simpa using qo), brn2 qo]
      rw [brn2 qo] at go hρo
      obtain ⟨ρ2, ho1, _⟩ := qcm hρo
      have hgo := go o (by simp)
      cases d with
      | zero => exact hgo.1.elim
      | succ d =>
       have := qpq d n (C ++ A ++ (⟨10, (C.length + A.length + 1 + T.1.length + 1 : Nat), []⟩ : I) :: (T.1 ++ [⟨9, 0, []⟩])) nm T.2 o ρ' ρ2 (fun e he => hf e (by omega)) qo hgo ho1 (by omega) (by omega) (by rw [len]; omega) (by omega) (by omega)
       rw [this, len]
       simp [foldC]
     ·have q12 : o.Ab = 12 := by omega
      rw [qA0 (by simpa using qo), brn12 q12]
      rw [brn12 q12] at go lo hρo oko co
      have := hf d (Nat.le_refl _) (C ++ A ++ (⟨10, (C.length + A.length + 1 + T.1.length + 1 : Nat), []⟩ : I) :: (T.1 ++ [⟨9, 0, []⟩])) nm T.2 o.Aa ρ' ρo go hρo lo (by omega) (by rw [len]; omega) (by omega) (by omega)
      rw [this, len]
    have lO := foldC_len (d := d) (g := cS d) (brn o) (sgP nm) T.2 (C.length + A.length + 1 + T.1.length + 1) fun q hq => cS_len d q (oko q hq)
    generalize hOO : foldC (cS d) (sgP nm) T.2 (C.length + A.length + 1 + T.1.length + 1) (brn o) = O at eO lO
    have fin : JA ⟨C ++ A ++ (⟨10, (C.length + A.length + 1 + T.1.length + 1 : Nat), []⟩ : I) :: (T.1 ++ [⟨9, 0, []⟩]) ++ O.1, nm, O.2⟩ (((C ++ A ++ [(⟨10, 0, []⟩ : I)] ++ T.1).length : Nat) : Int) = some ⟨C ++ (cS (d + 1) (sgP nm) z C.length x).1, nm, (cS (d + 1) (sgP nm) z C.length x).2.1⟩ := by
     rw [qef (C := C ++ A ++ (⟨10, (C.length + A.length + 1 + T.1.length + 1 : Nat), []⟩ : I) :: T.1) (i := ⟨9, 0, []⟩) (D := O.1) (C.length + A.length + 1 + T.1.length + 1 + O.1.length) (by simp) (by simp <;> omega) (by simp <;> omega), cS_3 (T := T) (O := O) q2 hks (by rw [hAA]; exact hTT) (by rw [hAA]; exact hOO), hAA]
     simp [if3]
    by_cases qo : o.Ab = 2
    ·rw [qA1 (by simpa using qo)] at eO ⊢
     rw [eO, qAz, fin, qAz]
    ·rw [qA0 (by simpa using qo)] at eO ⊢
     rw [qAz, eO, qAz, fin, qAz]
  ·omega
theorem stm_other {d : Nat} {ρ ρ' : Env} {x : M} (h : stm (d + 1) ρ x = .ok ρ') : (∃ e ks, x.Aa = e :: ks ∧ ∃ t, tyE d ρ e = .ok t) ∨ x.Aa = [] := by
 cases hk : x.Aa with
 | nil => exact .inr rfl
 | cons e ks =>
  obtain ⟨t, ht, _⟩ := qee hk h
  exact .inl ⟨e, ks, rfl, t, ht⟩
theorem qti {C : List I} {nm : List Ji} {z : Int} {x : M} (hC : C.length ≤ 900000) (ht : x.Ac.length ≤ 3000) (q3 : x.Ab ≠ 3) {P : Option Cp} :
  (if decide (x.Ab = 3) = true then P else if decide (x.Ab = 4) then (Jd ⟨C, nm, z⟩ 11 0 x.Ac).bind fun x58 => some x58.2 else
   if decide (x.Ab = 5) then (chk (([104, 101, 97, 100, 101, 114, 58] : Str).length + x.Ac.length ≤ lim)).bind fun _ => (Jd ⟨C, nm, z⟩ 11 0 (([104, 101, 97, 100, 101, 114, 58] : Str) ++ x.Ac)).bind fun x65 => some x65.2 else
   if decide (x.Ab = 6) then (chk (([118, 97, 114, 121, 58] : Str).length + x.Ac.length ≤ lim)).bind fun _ => (Jd ⟨C, nm, z⟩ 11 0 (([118, 97, 114, 121, 58] : Str) ++ x.Ac)).bind fun x72 => some x72.2 else
   if decide (x.Ab = 7) then (Jd ⟨C, nm, z⟩ 11 0 ([116, 97, 103] : Str)).bind fun x76 => some x76.2 else
   if decide (x.Ab = 8) then (Jd ⟨C, nm, z⟩ 11 0 ([116, 116, 108] : Str)).bind fun x80 => some x80.2 else
   if decide (x.Ab = 9) then (Jd ⟨C, nm, z⟩ 11 0 ([100, 101, 110, 121] : Str)).bind fun x84 => some x84.2 else
   if decide (x.Ab = 10) then (Jd ⟨C, nm, z⟩ 11 0 ([112, 97, 115, 115] : Str)).bind fun x88 => some x88.2 else
   if decide (x.Ab = 11) then (Jd ⟨C, nm, z⟩ 11 0 ([116, 111, 107, 101, 110] : Str)).bind fun x92 => some x92.2 else some ⟨C, nm, z⟩) = some ⟨C ++ acs x, nm, z⟩ := by
 unfold acs acw
 rw [qA0 (by simpa using q3)]
 by_cases q4 : x.Ab = 4
 ·rw [qA1 (by simpa using q4), qa8 (by omega), qAz, qA1 q4]
 rw [qA0 (by simpa using q4), qA0 q4]
 by_cases q5 : x.Ab = 5
 ·rw [qA1 (by simpa using q5), qaa (by simp [lim]; omega), qa8 (by omega), qAz, qA1 q5]
 rw [qA0 (by simpa using q5), qA0 q5]
 by_cases q6 : x.Ab = 6
 ·rw [qA1 (by simpa using q6), qaa (by simp [lim]; omega), qa8 (by omega), qAz, qA1 q6]
 rw [qA0 (by simpa using q6), qA0 q6]
 by_cases q7 : x.Ab = 7
 ·rw [qA1 (by simpa using q7), qa8 (by omega), qAz, qA1 q7]
 rw [qA0 (by simpa using q7), qA0 q7]
 by_cases q8 : x.Ab = 8
 ·rw [qA1 (by simpa using q8), qa8 (by omega), qAz, qA1 q8]
 rw [qA0 (by simpa using q8), qA0 q8]
 by_cases q9 : x.Ab = 9
 ·rw [qA1 (by simpa using q9), qa8 (by omega), qAz, qA1 q9]
 rw [qA0 (by simpa using q9), qA0 q9]
 by_cases q10 : x.Ab = 10
 ·rw [qA1 (by simpa using q10), qa8 (by omega), qAz, qA1 q10]
 rw [qA0 (by simpa using q10), qA0 q10]
 by_cases q11 : x.Ab = 11
 ·rw [qA1 (by simpa using q11), qa8 (by omega), qAz, qA1 q11]
 rw [qA0 (by simpa using q11), qA0 q11]
 simp
set_option maxRecDepth 100000 in
theorem qzf {f : Cp → List M → Option Cp} {d n : Nat} {C : List I} {nm : List Ji} {z : Int} {x : M} {ρ ρ' : Env} (hf : ∀ e, e ≤ d → HB e f) (hg : Gd (d + 1) x) (hs : stm (d + 1) ρ x = .ok ρ') (hn : d + 250000 ≤ n) (hnm : nm.length + 701 * (d + 1) ≤ 90000) (hC : C.length + 6 * cnt (d + 1) x ≤ 700000) (hz : 0 ≤ z) (hz2 : z + cnt (d + 1) x ≤ 1000000) :
  ∃ nm', Jay f n ⟨C, nm, z⟩ x = some ⟨C ++ (cS (d + 1) (sgP nm) z C.length x).1, nm ++ nm', (cS (d + 1) (sgP nm) z C.length x).2.1⟩ ∧ nm'.length ≤ 1 ∧ sgP (nm ++ nm') = (cS (d + 1) (sgP nm) z C.length x).2.2 := by
 unfold Jay
 by_cases q2 : x.Ab = 2
 ·rw [qA1 (by simpa using q2), qpq d n C nm z x ρ ρ' hf q2 hg hs hn hnm hC hz hz2, qAz]
  refine ⟨[], by simp, by simp, ?_⟩
  rw [List.append_nil, cS, qA1 q2]
  split <;> rfl
 ·rw [qA0 (by simpa using q2)]
  obtain ⟨⟨h1, h2, h3⟩, m, hm⟩ := hg
  obtain ⟨m, rfl, hv0, hv2⟩ := qbs hm
  rw [cnt_eq] at hC hz2
  have key : ∀ (C' : List I), C'.length ≤ 800000 → C' = C ++ hdC d (sgP nm) C.length x.Aa → ∃ nm', (if decide (x.Ab = 3) = true then (Jd ⟨C', nm, z⟩ 4 (⟨C', nm, z⟩ : Cp).Ap ([] : Str)).bind fun x29 =>
    (chk (x29.2.names.length + [(⟨x.Ac, x29.2.Ap⟩ : Ji)].length ≤ lim)).bind fun _ => (chk (InI (x29.2.Ap + 1))).bind fun _ =>
    some (⟨x29.2.code, (x29.2.names ++ [(⟨x.Ac, x29.2.Ap⟩ : Ji)]), (x29.2.Ap + 1)⟩ : Jb) else some ⟨C' ++ acs x, nm, z⟩) = some ⟨C ++ (cS (d + 1) (sgP nm) z C.length x).1, nm ++ nm', (cS (d + 1) (sgP nm) z C.length x).2.1⟩ ∧ nm'.length ≤ 1 ∧ sgP (nm ++ nm') = (cS (d + 1) (sgP nm) z C.length x).2.2 := fun C' hl e => by
   by_cases q3 : x.Ab = 3
   ·rw [qA1 (by simpa using q3), qa8 (by omega), qAz]
    simp only
    rw [qaa (by simp only [lim, List.length_cons, List.length_nil]; omega), qaa (by constructor <;> omega), cS_let q3, e]
    exact ⟨[⟨x.Ac, z⟩], by simp, by simp, qr4 _ _ _⟩
   ·rw [qA0 (by simpa using q3), cS_act q2 q3, e]
    exact ⟨[], by simp, by simp, by simp⟩
  have hl := qpp (σ := sgP nm) (d := d) (b := C.length) x.Aa
  rcases stm_other hs with ⟨e, ks, hk, t, ht⟩ | hk
  ·have hE : XE ρ d e := XE_of (h3 e (by rw [hk]; simp)) (hv0 e (by rw [hk]; rfl)) ht
   have hc : cnt d e ≤ cntL d x.Aa := by rw [hk, cntL_cons]; omega
   have hAl := qcs (σ := sgP nm) d C.length e
   have eA := qk4 (z := z) (by omega) d n C e hE (by omega) (by omega) (nm := nm)
   rw [qA1 (by rw [hk]; simp <;> omega), hk, ix0, qAz, eA, qAz]
   rw [hk] at hl key
   have k := key (C ++ cE d (sgP nm) C.length e) (by simp only [List.length_append]; omega) rfl
   by_cases q3 : x.Ab = 3
   ·rw [qA1 (by simpa using q3)] at k ⊢
    exact k
   ·rw [qti (by simp only [List.length_append]; omega) h1 q3]
    rw [qA0 (by simpa using q3)] at k
    exact k
  ·rw [qA0 (by rw [hk]; simp)]
   rw [hk] at key
   have k := key C (by omega) (by simp [hdC])
   by_cases q3 : x.Ab = 3
   ·rw [qA1 (by simpa using q3)] at k ⊢
    exact k
   ·rw [qti (by omega) h1 q3]
    rw [qA0 (by simpa using q3)] at k
    exact k
set_option maxRecDepth 100000 in
theorem qjt {f : Cp → List M → Option Cp} {d n : Nat} (hf : ∀ e, e ≤ d → HB e f) (hn : d + 250000 ≤ n) : ∀ (l : List M) (i : Nat) (C : List I) (nm : List Ji) (z : Int) (ρ ρ' : Env), (∀ x ∈ l, Gd (d + 1) x) → foldS (stm (d + 1)) ρ l = .ok ρ' → nm.length + l.length + 701 * (d + 1) ≤ 90000 → C.length + 6 * cntL (d + 1) l ≤ 700000 → 0 ≤ z → z + cntL (d + 1) l ≤ 1000000 →
  ∃ nm', JQ f n l i ⟨C, nm, z⟩ = some ⟨C ++ (foldC (cS (d + 1)) (sgP nm) z C.length l).1, nm ++ nm', (foldC (cS (d + 1)) (sgP nm) z C.length l).2⟩
 | [], i, C, nm, z, ρ, ρ', _, _, _, _, _, _ => ⟨[], by simp [JQ, foldC]⟩
 | x :: l, i, C, nm, z, ρ, ρ', hg, hs, hnm, hC, hz, hz2 => by
  obtain ⟨ρ1, hs1, hs2⟩ := qcm hs
  rw [cntL_cons] at hC hz2
  simp only [List.length_cons] at hnm
  have hgx := hg x (by simp)
  obtain ⟨nm1, e1, e2, e3⟩ := qzf hf hgx hs1 hn (by omega) (C := C) (by omega) hz (by omega) (nm := nm)
  obtain ⟨c1, c2, c3⟩ := cS_len (d + 1) x hgx.1 (sgP nm) z C.length
  obtain ⟨nm2, g⟩ := qjt hf hn l (i + 1) (C ++ (cS (d + 1) (sgP nm) z C.length x).1) (nm ++ nm1) (cS (d + 1) (sgP nm) z C.length x).2.1 ρ1 ρ' (fun q hq => hg q (by simp [hq])) hs2 (by simp only [List.length_append]; omega) (by simp only [List.length_append]; omega) (by omega) (by omega)
  refine ⟨nm1 ++ nm2, ?_⟩
  rw [JQ, e1, qAz, g, e3, foldC]
  simp only [List.append_assoc, List.length_append]
set_option maxRecDepth 100000 in
theorem qtj : ∀ (d n : Nat), d + 300000 ≤ n → HB d (JR n)
 | d, 0, h => by omega
 | 0, n + 1, _ => fun C nm z l ρ ρ' hg hs hl hnm hC hz hz2 => by
  cases l with
  | nil =>
   rw [JR, qaa (by simp [qau]), JQ, qAz]
   simp only
   rw [qaa (by omega)]
   simp only [foldC, List.append_nil]
   rw [show subL nm (0 : Int) (nm.length : Int) = nm by simp [subL]]
  | cons x l => exact (hg x (by simp)).1.elim
 | d + 1, n + 1, hn => fun C nm z l ρ ρ' hg hs hl hnm hC hz hz2 => by
  obtain ⟨nm', e⟩ := qjt (f := JR n) (d := d) (n := n) (fun e he => qtj e n (by omega)) (by omega) l 0 C nm z ρ ρ' hg hs (by omega) hC hz hz2
  rw [JR, qaa (by simp only [qau]; omega), e, qAz]
  simp only
  rw [qaa (by simp only [List.length_append]; omega)]
  rw [show subL (nm ++ nm') (0 : Int) (nm.length : Int) = nm by simp [subL]]
def haltI : I := ⟨12, 0, []⟩
def prog (d : Nat) (l : List M) : List I := (foldC (cS d) (fun _ => none) 0 0 l).1 ++ [haltI]
set_option maxRecDepth 100000 in
theorem Compile_pure {n d : Nat} {y : M} {b : Bool} (hy : Ok (d + 1) y) (hd : d ≤ 100) (hn : 400000 ≤ n) (hc : cntL d y.Aa ≤ 10000) (hv : Jah n y = some b) :
  Ja1 n y = some (if b = true then (match foldS (stm d) base y.Aa with
   | .ok _ => if (prog d y.Aa).length ≤ 2048 then (prog d y.Aa, none) else ([], some 5)
   | .error e => ([], some e.2)) else ([], some 2)) := by
 unfold Ja1
 rw [qd2 (d := d) hy (by omega) (by omega) hv, qAz]
 cases b with
 | false => rfl
 | true =>
  simp only [if_true]
  unfold qwc
  cases q : foldS (stm d) base y.Aa with
  | error e => rw [qA1 (by simp)]
  | ok ρ =>
   obtain ⟨o1, o2, o3⟩ := hy
   have hv := qdu hv
   have hg : ∀ k ∈ y.Aa, Gd d k := fun k hk => ⟨o3 k hk, n, hv k hk⟩
   have h := qtj d n (by omega) [] [] 0 y.Aa base ρ hg q o2 (by simp only [List.length_nil]; omega) (by simp only [List.length_nil]; omega) (by omega) (by omega)
   rw [qA0 (by simp), h, qAz]
   obtain ⟨l1, l2, l3⟩ := foldC_len (d := d) (g := cS d) y.Aa (fun _ => none) 0 0 fun q hq => cS_len d q (o3 q hq)
   have e : sgP [] = fun _ => none := rfl
   simp only [List.nil_append, List.length_nil, e]
   rw [qa8 (by omega), qAz]
   simp only
   unfold prog haltI
   by_cases q2 : ((foldC (cS d) (fun _ => none) 0 0 y.Aa).1 ++ [(⟨12, 0, []⟩ : I)]).length ≤ 2048
   ·rw [qA0 (by simp only [decide_eq_true_eq]; omega), qA1 q2]
   ·rw [qA1 (by simp only [decide_eq_true_eq]; omega), qA0 q2]
def SF (x : M) : Prop :=
 x.Ab = 2 ∨ (x.Ab = 3 ∧ x.Aa.length = 1) ∨ (x.Ab = 4 ∧ x.Aa.length = 1 ∧ (x.Ac = [112, 97, 116, 104] ∨ x.Ac = [113, 117, 101, 114, 121])) ∨ (x.Ab = 5 ∧ x.Aa.length = 1 ∧ prt x.Ac = true) ∨ (x.Ab = 6 ∧ x.Aa.length = 0 ∧ prt x.Ac = true) ∨
 ((x.Ab = 7 ∨ x.Ab = 8 ∨ x.Ab = 9) ∧ x.Aa.length = 1) ∨ ((x.Ab = 10 ∨ x.Ab = 11) ∧ x.Aa.length = 0)
theorem qfk {m : Nat} {x : M} (h : (if decide ((x.Aa.length : Int) = 1) = true then (ix x.Aa 0).bind fun x121 => (Js m x121).bind fun x123 => some x123 else some false).bind (fun x124 => some x124) = some true) : x.Aa.length = 1 := by
 by_cases q : (x.Aa.length : Int) = 1
 ·omega
 ·rw [qA0 (by simpa using q)] at h; cases h
theorem stated_form {m : Nat} {x : M} (ht : x.Ac.length ≤ 3000) (h : Jz (m + 1) x = some true) : SF x := by
 unfold SF
 by_cases q2 : x.Ab = 2
 ·exact .inl q2
 rw [Jz, qA0 (by simpa using q2)] at h
 by_cases q6 : x.Ab = 6
 ·rw [qA1 (by simpa using q6), qdv (by omega), qAz] at h
  simp only [Option.some.injEq, Bool.and_eq_true, decide_eq_true_eq] at h
  exact .inr (.inr (.inr (.inr (.inl ⟨q6, by omega, h.1⟩))))
 rw [qA0 (by simpa using q6)] at h
 by_cases q10 : x.Ab = 10
 ·rw [qA1 (by simpa using q10)] at h
  simp only [Option.some.injEq, Bool.and_eq_true, decide_eq_true_eq] at h
  exact .inr (.inr (.inr (.inr (.inr (.inr ⟨.inl q10, by omega⟩)))))
 rw [qA0 (by simpa using q10)] at h
 by_cases q11 : x.Ab = 11
 ·rw [qA1 (by simpa using q11)] at h
  simp only [Option.some.injEq, Bool.and_eq_true, decide_eq_true_eq] at h
  exact .inr (.inr (.inr (.inr (.inr (.inr ⟨.inr q11, by omega⟩)))))
 rw [qA0 (by simpa using q11)] at h
 by_cases q3 : x.Ab = 3
 ·rw [qA1 (by simpa using q3)] at h
  obtain ⟨b, hb, h⟩ := bnd h
  cases b with
  | false => rw [qA1 (by simp)] at h; cases h
  | true => rw [qA0 (by simp)] at h; exact .inr (.inl ⟨q3, qfk h⟩)
 rw [qA0 (by simpa using q3)] at h
 by_cases q4 : x.Ab = 4
 ·rw [qA1 (by simpa using q4)] at h
  cases q : (decide (x.Ac ≠ ([112, 97, 116, 104] : Str)) && decide (x.Ac ≠ ([113, 117, 101, 114, 121] : Str))) with
  | true => rw [q, qA1 rfl] at h; cases h
  | false =>
   rw [q, qA0 (by simp)] at h
   refine .inr (.inr (.inl ⟨q4, qfk h, ?_⟩))
   simp only [Bool.and_eq_false_iff, decide_eq_false_iff_not, ne_eq, Classical.not_not] at q
   exact q
 rw [qA0 (by simpa using q4)] at h
 by_cases q5 : x.Ab = 5
 ·rw [qA1 (by simpa using q5), qdv (by omega), qAz] at h
  cases q : prt x.Ac with
  | false => rw [q, qA1 (by simp)] at h; cases h
  | true => rw [q, qA0 (by simp)] at h; exact .inr (.inr (.inr (.inl ⟨q5, qfk h, rfl⟩)))
 rw [qA0 (by simpa using q5)] at h
 by_cases q7 : x.Ab = 7
 ·rw [qA1 (by simpa using q7)] at h
  split at h
  ·cases h
  ·exact .inr (.inr (.inr (.inr (.inr (.inl ⟨.inl q7, qfk h⟩)))))
 rw [qA0 (by simpa using q7)] at h
 by_cases q8 : x.Ab = 8
 ·rw [qA1 (by simpa using q8)] at h
  split at h
  ·cases h
  ·exact .inr (.inr (.inr (.inr (.inr (.inl ⟨.inr (.inl q8), qfk h⟩)))))
 rw [qA0 (by simpa using q8)] at h
 by_cases q9 : x.Ab = 9
 ·rw [qA1 (by simpa using q9)] at h
  split at h
  ·cases h
  ·exact .inr (.inr (.inr (.inr (.inr (.inl ⟨.inr (.inr q9), qfk h⟩)))))
 rw [qA0 (by simpa using q9)] at h
 cases h
def isJ (i : I) : Bool := decide (i.Op = 9) || decide (i.Op = 10)
def Bd (b : Nat) (l : List I) : Prop := ∀ i ∈ l, isJ i = true → (b : Int) ≤ i.N ∧ i.N ≤ b + l.length
theorem Bd.append {b : Nat} {l k : List I} (h1 : Bd b l) (h2 : Bd (b + l.length) k) : Bd b (l ++ k) := fun i hi hj => by
 rw [List.length_append]
 rcases List.mem_append.1 hi with h | h
 ·have := h1 i h hj; omega
 ·have := h2 i h hj; omega
theorem Bd.nil (b : Nat) : Bd b [] := fun i hi _ => by cases hi
theorem Bd.one {b : Nat} {i : I} (h : isJ i = false) : Bd b [i] := fun j hj hx => by
 rw [List.mem_singleton.1 hj, h] at hx; cases hx
theorem Bd.no {b : Nat} {l : List I} (h : l.all (fun i => !isJ i) = true) : Bd b l := fun i hi hj => by
 have := List.all_eq_true.1 h i hi
 rw [hj] at this; cases this
theorem Bd.jump {b t : Nat} {o : Int} {l : List I} (h : Bd (b + 1) l) (h1 : b ≤ t) (h2 : t ≤ b + 1 + l.length) : Bd b (⟨o, (t : Int), []⟩ :: l) := fun i hi hj => by
 rw [List.length_cons]
 rcases List.mem_cons.1 hi with rfl | hi
 ·simp only; omega
 ·have := h i hi hj; omega
def InV (vis : List Int) (names : List Str) : Prop := ∀ i ∈ vis, 0 ≤ i ∧ i < names.length
structure Cov (ρ : Env) (σ : Sg) : Prop where
 known : ∀ s, ρ s ≠ 0 → pre s = false → (σ s).isSome = true
 fixed : ∀ s, pre s = true → σ s = none ∧ ρ s ≠ 0
theorem Cov.let {ρ : Env} {σ : Sg} (h : Cov ρ σ) {s : Str} (hs : ρ s = 0) (t k : Int) : Cov (ext ρ s t) (upd σ s k) := by
 have hp : pre s = false := by
  cases q : pre s with
  | false => rfl
  | true => exact absurd hs (h.fixed s q).2
 refine ⟨fun q hq hn => ?_, fun q hq => ?_⟩
 ·unfold upd
  by_cases e : s = q
  ·rw [qA1 e]; rfl
  ·rw [qA0 e]
   refine h.known q ?_ hn
   unfold ext at hq
   rw [qA0 e] at hq
   exact hq
 ·have e : s ≠ q := fun e => by rw [e, hq] at hp; cases hp
  unfold upd ext
  rw [qA0 e, qA0 e]
  exact h.fixed q hq
theorem InV.more {vis : List Int} {names : List Str} (hv : InV vis names) (more : List Str) : InV vis (names ++ more) := fun i hi => by
 have := hv i hi
 rw [List.length_append]; omega
theorem InV.let {vis : List Int} {names : List Str} (hv : InV vis names) (s : Str) : InV (vis ++ [(names.length : Int)]) (names ++ [s]) := fun i hi => by
 rw [List.length_append, List.length_singleton]
 rcases List.mem_append.1 hi with h | h
 ·have := hv i h; omega
 ·rw [List.mem_singleton.1 h]; omega
theorem qf1 {e : Int} {f : M → Int → Int → Option (Bool × Int)} {d : Nat} (hf : ∀ k z m, f k z (e - 1) = some (true, m) → m + cnt d k ≤ z ∧ 0 ≤ m) : ∀ (l : List M) (i : Nat) (y : Int) (r : Fl (Bool × Int) Int), JaE e f l i y = some r → (∀ m, r = Fl.go m → m + cntL d l ≤ y ∧ (0 ≤ y → 0 ≤ m)) ∧ ∀ z, r = Fl.ret z → z.1 = false
 | [], i, y, r, h => by
  cases h
  exact ⟨fun m e => by cases e; simp [cntL], fun z e => by cases e⟩
 | k :: l, i, y, r, h => by
  rw [JaE] at h
  obtain ⟨_, h⟩ := qa2 h
  obtain ⟨x, hx, h⟩ := bnd h
  obtain ⟨b, m⟩ := x
  cases b with
  | false =>
   rw [qA1 (by simp)] at h
   cases h
   exact ⟨fun m e => (by cases e), fun z e => by cases e; rfl⟩
  | true =>
   rw [qA0 (by simp)] at h
   obtain ⟨h1, h2⟩ := hf k y m hx
   obtain ⟨g1, g2⟩ := qf1 hf l (i + 1) m r h
   refine ⟨fun m' e => ?_, g2⟩
   obtain ⟨a1, a2⟩ := g1 m' e
   rw [cntL_cons]
   exact ⟨by omega, fun _ => a2 h2⟩
theorem qju : ∀ (n d : Nat) (x : M) (z e m : Int), JaC n x z e = some (true, m) → m + cnt d x ≤ z ∧ 0 ≤ m
 | 0, d, x, z, e, m, h => by rw [JaC] at h; cases h
 | n + 1, d, x, z, e, m, h => by
  rw [JaC] at h
  obtain ⟨_, h⟩ := qa2 h
  split at h
  ·cases h
  ·rename_i hq
   simp only [Bool.or_eq_true, decide_eq_true_eq, not_or] at hq
   obtain ⟨_, h⟩ := qa2 h
   obtain ⟨r, hr, h⟩ := bnd h
   have key : ∀ d', (∀ m, r = Fl.go m → m + cntL d' x.Aa ≤ z - 1 ∧ (0 ≤ z - 1 → 0 ≤ m)) ∧ ∀ z, r = Fl.ret z → z.1 = false := fun d' => qf1 (d := d') (fun k z m hk => qju n d' k z _ m hk) x.Aa 0 (z - 1) r hr
   cases r with
   | ret q =>
    rw [el_ret] at h
    have := (key 0).2 q rfl
    cases h
    cases this
   | go q =>
    rw [el_go] at h
    cases h
    cases d with
    | zero =>
     have h0 := (key 0).1 m rfl
     have hc : cnt 0 x = 0 := rfl
     rw [hc]
     have : (0 : Int) ≤ cntL 0 x.Aa := by omega
     exact ⟨by omega, h0.2 (by omega)⟩
    | succ d =>
     have h1 := (key d).1 m rfl
     rw [cnt_eq]
     exact ⟨by omega, h1.2 (by omega)⟩
theorem Valid_small {n : Nat} {x : M} (h : Jah n x = some true) (d : Nat) : cnt d x ≤ 512 := by
 unfold Jah at h
 split at h
 ·cases h
 ·obtain ⟨s, hs, h⟩ := bnd h
  obtain ⟨b, m⟩ := s
  cases b with
  | false => rw [qA1 (by simp)] at h; cases h
  | true =>
   have := qju n d x 512 32 m hs
   omega
def NL : Nat → M → Prop
 | 0, _ => True
 | d + 1, x => x.Ab ≠ 3 ∧ ∀ k ∈ x.Aa, NL d k
theorem NL.kid {x k : M} (h : ∀ e, NL e x) (hk : k ∈ x.Aa) : ∀ e, NL e k := fun e => (h (e + 1)).2 k hk
theorem NL.up : ∀ {d : Nat} {x : M}, Ok d x → NL d x → ∀ e, NL e x
 | 0, _, h, _, _ => h.elim
 | d + 1, x, _, _, 0 => trivial
 | d + 1, x, h, hn, e + 1 => ⟨hn.1, fun k hk => (NL.up (h.2.2 k hk) (hn.2 k hk)) e⟩
abbrev S8 := JaH
abbrev PS := Jm
def wl (W : S8) : List Int := [W.f0, W.f1, W.f2, W.f3, W.f4, W.f5, W.f6, W.f7]
def W64 (x : Int) : Prop := 0 ≤ x ∧ x < 18446744073709551616
def WOK (W : S8) : Prop := W64 W.f0 ∧ W64 W.f1 ∧ W64 W.f2 ∧ W64 W.f3 ∧ W64 W.f4 ∧ W64 W.f5 ∧ W64 W.f6 ∧ W64 W.f7
def qk5 (W : S8) (n : Int) : Bool := ((wl W).getD (n.toNat / 64) 0).toNat.testBit (n.toNat % 64)
theorem qe5 {x : Int} (h : W64 x) : (BitVec.ofInt 64 x).toNat = x.toNat := by
 obtain ⟨h0, h1⟩ := h
 rw [BitVec.toNat_ofInt]
 rw [Int.emod_eq_of_lt h0 (by simpa using h1)]
theorem qz9 {n : Nat} (h : n < 18446744073709551616) : W64 (n : Int) := ⟨by omega, by omega⟩
theorem qg6 {x y : Int} (hx : W64 x) (hy : W64 y) : u64and x y = ((x.toNat &&& y.toNat : Nat) : Int) := by
 unfold u64and
 rw [BitVec.toNat_and, qe5 hx, qe5 hy]
theorem qr5 {x y : Int} (hx : W64 x) (hy : W64 y) : u64or x y = ((x.toNat ||| y.toNat : Nat) : Int) := by
 unfold u64or
 rw [BitVec.toNat_or, qe5 hx, qe5 hy]
theorem qch {x y : Int} (hx : W64 x) (hy : W64 y) : W64 (u64and x y) := by
 rw [qg6 hx hy]
 obtain ⟨h0, h1⟩ := hx
 have : x.toNat &&& y.toNat ≤ x.toNat := Nat.and_le_left
 exact ⟨by omega, by omega⟩
theorem qr6 {x y : Int} : W64 (u64or x y) := by
 unfold u64or
 have := (BitVec.ofInt 64 x ||| BitVec.ofInt 64 y).isLt
 exact ⟨by omega, by omega⟩
theorem qw3 {k : Nat} (h : k < 64) : u64shl 1 (k : Int) = ((2 ^ k : Nat) : Int) := by
 have : ∀ k : Nat, k < 64 → u64shl 1 (k : Int) = ((2 ^ k : Nat) : Int) := by decide
 exact this k h
theorem qw4 {k : Nat} (h : k < 64) : W64 ((2 ^ k : Nat) : Int) := by
 have : ∀ k : Nat, k < 64 → (2 ^ k : Nat) < 18446744073709551616 := by decide
 exact qz9 (this k h)
theorem qtk {x : Int} (hx : W64 x) {k : Nat} (h : k < 64) : u64shr x (k : Int) = ((x.toNat >>> k : Nat) : Int) := by
 unfold u64shr
 rw [Int.toNat_natCast, Nat.min_eq_left (by omega), Nat.shiftRight_eq_div_pow]
 obtain ⟨h0, h1⟩ := hx
 have e : x = (x.toNat : Int) := by omega
 have e2 : ((2 : Int) ^ k) = ((2 ^ k : Nat) : Int) := by simp
 rw [e2]
 conv => lhs; rw [e]
 rw [Int.fdiv_eq_ediv_of_nonneg _ (Int.natCast_nonneg _)]
 exact (Int.natCast_ediv _ _).symm
theorem qw5 {x : Int} (hx : W64 x) {k : Nat} (h : k < 64) : decide (u64and (u64shr x (k : Int)) 1 = 1) = x.toNat.testBit k := by
 have h2 : W64 (u64shr x (k : Int)) := by
  rw [qtk hx h]
  obtain ⟨h0, h1⟩ := hx
  have : x.toNat >>> k ≤ x.toNat := by rw [Nat.shiftRight_eq_div_pow]; exact Nat.div_le_self _ _
  refine qz9 (Nat.lt_of_le_of_lt this ?_)
  omega
 have e : (u64and (u64shr x (k : Int)) 1 = 1) ↔ (x.toNat >>> k) % 2 = 1 := by
  rw [qg6 h2 ⟨by decide, by decide⟩, qtk hx h, Int.toNat_natCast, show ((1 : Int)).toNat = 1 from rfl, Nat.and_one_is_mod]
  generalize (x.toNat >>> k) % 2 = q
  omega
 rw [show decide (u64and (u64shr x (k : Int)) 1 = 1) = decide ((x.toNat >>> k) % 2 = 1) from decide_eq_decide.2 e, Nat.testBit, Nat.and_comm, Nat.and_one_is_mod]
 have : (x.toNat >>> k) % 2 < 2 := Nat.mod_lt _ (by omega)
 rcases (show (x.toNat >>> k) % 2 = 0 ∨ (x.toNat >>> k) % 2 = 1 by omega) with e | e <;> simp [e]
theorem qpr {W : S8} (h : WOK W) (i : Nat) : W64 ((wl W).getD i 0) := by
 obtain ⟨h0, h1, h2, h3, h4, h5, h6, h7⟩ := h
 have hz : W64 0 := ⟨by decide, by decide⟩
 match i with
 | 0 => exact h0
 | 1 => exact h1
 | 2 => exact h2
 | 3 => exact h3
 | 4 => exact h4
 | 5 => exact h5
 | 6 => exact h6
 | 7 => exact h7
 | i + 8 => simpa [wl] using hz
theorem qw6 {s : PS} {n : Int} (h : WOK s.Av) (h0 : 0 ≤ n) (h1 : n ≤ 511) : Jbe s n = some (qk5 s.Av n) := by
 obtain ⟨k, rfl⟩ : ∃ k : Nat, n = (k : Int) := ⟨n.toNat, by omega⟩
 have e1 : Int.tdiv (k : Int) 64 = ((k / 64 : Nat) : Int) := by rw [Int.tdiv_eq_ediv_of_nonneg h0]; omega
 have e2 : Int.tmod (k : Int) 64 = ((k % 64 : Nat) : Int) := by rw [Int.tmod_eq_emod_of_nonneg h0]; omega
 have hk : k / 64 < 8 := by omega
 unfold Jbe
 rw [e1, e2, qaa ⟨by decide, by omega, by omega⟩, qaa (by omega), qaa (by omega)]
 rw [Int.toNat_natCast]
 have := qw5 (qpr h (k / 64)) (k := k % 64) (by omega)
 unfold qk5
 rw [Int.toNat_natCast, ← this]
 rfl
def qyw (A B : S8) : S8 := ⟨u64and A.f0 B.f0, u64and A.f1 B.f1, u64and A.f2 B.f2, u64and A.f3 B.f3, u64and A.f4 B.f4, u64and A.f5 B.f5, u64and A.f6 B.f6, u64and A.f7 B.f7⟩
theorem qu4 {A B : S8} (hA : WOK A) (hB : WOK B) : WOK (qyw A B) := by
 obtain ⟨a0, a1, a2, a3, a4, a5, a6, a7⟩ := hA
 obtain ⟨b0, b1, b2, b3, b4, b5, b6, b7⟩ := hB
 exact ⟨qch a0 b0, qch a1 b1, qch a2 b2, qch a3 b3, qch a4 b4, qch a5 b5, qch a6 b6, qch a7 b7⟩
theorem qu5 {A B : S8} (i : Nat) : (wl (qyw A B)).getD i 0 = if i < 8 then u64and ((wl A).getD i 0) ((wl B).getD i 0) else 0 := by
 match i with
 | 0 | 1 | 2 | 3 | 4 | 5 | 6 | 7 => rfl
 | i + 8 => rw [qA0 (by omega)]; simp [wl]
theorem qr7 {A B : S8} (hA : WOK A) (hB : WOK B) {n : Int} (h0 : 0 ≤ n) (h1 : n ≤ 511) : qk5 (qyw A B) n = (qk5 A n && qk5 B n) := by
 unfold qk5
 rw [qu5, qA1 (by omega), qg6 (qpr hA _) (qpr hB _), Int.toNat_natCast, Nat.testBit_and]
theorem qw7 {l : List PS} {k n : Nat} {e t : PS} (h : l[k]? = some e) : Jo k t (n + 1) 0 l = Jo k t n 1 (l.set k ⟨e.Aw, e.depth, ⟨u64and e.Av.f0 t.Av.f0, e.Av.f1, e.Av.f2, e.Av.f3, e.Av.f4, e.Av.f5, e.Av.f6, e.Av.f7⟩⟩) := by
 rw [Jo, qaa (by decide), h, qAz, qaa (by decide), qaa (by decide), qAz]
 rfl
theorem qw8 {l : List PS} {k n : Nat} {e t : PS} (h : l[k]? = some e) : Jo k t (n + 1) 1 l = Jo k t n 2 (l.set k ⟨e.Aw, e.depth, ⟨e.Av.f0, u64and e.Av.f1 t.Av.f1, e.Av.f2, e.Av.f3, e.Av.f4, e.Av.f5, e.Av.f6, e.Av.f7⟩⟩) := by
 rw [Jo, qaa (by decide), h, qAz, qaa (by decide), qaa (by decide), qAz]
 rfl
theorem qw9 {l : List PS} {k n : Nat} {e t : PS} (h : l[k]? = some e) : Jo k t (n + 1) 2 l = Jo k t n 3 (l.set k ⟨e.Aw, e.depth, ⟨e.Av.f0, e.Av.f1, u64and e.Av.f2 t.Av.f2, e.Av.f3, e.Av.f4, e.Av.f5, e.Av.f6, e.Av.f7⟩⟩) := by
 rw [Jo, qaa (by decide), h, qAz, qaa (by decide), qaa (by decide), qAz]
 rfl
theorem qxa {l : List PS} {k n : Nat} {e t : PS} (h : l[k]? = some e) : Jo k t (n + 1) 3 l = Jo k t n 4 (l.set k ⟨e.Aw, e.depth, ⟨e.Av.f0, e.Av.f1, e.Av.f2, u64and e.Av.f3 t.Av.f3, e.Av.f4, e.Av.f5, e.Av.f6, e.Av.f7⟩⟩) := by
 rw [Jo, qaa (by decide), h, qAz, qaa (by decide), qaa (by decide), qAz]
 rfl
theorem qxb {l : List PS} {k n : Nat} {e t : PS} (h : l[k]? = some e) : Jo k t (n + 1) 4 l = Jo k t n 5 (l.set k ⟨e.Aw, e.depth, ⟨e.Av.f0, e.Av.f1, e.Av.f2, e.Av.f3, u64and e.Av.f4 t.Av.f4, e.Av.f5, e.Av.f6, e.Av.f7⟩⟩) := by
 rw [Jo, qaa (by decide), h, qAz, qaa (by decide), qaa (by decide), qAz]
 rfl
theorem qxc {l : List PS} {k n : Nat} {e t : PS} (h : l[k]? = some e) : Jo k t (n + 1) 5 l = Jo k t n 6 (l.set k ⟨e.Aw, e.depth, ⟨e.Av.f0, e.Av.f1, e.Av.f2, e.Av.f3, e.Av.f4, u64and e.Av.f5 t.Av.f5, e.Av.f6, e.Av.f7⟩⟩) := by
 rw [Jo, qaa (by decide), h, qAz, qaa (by decide), qaa (by decide), qAz]
 rfl
theorem qxd {l : List PS} {k n : Nat} {e t : PS} (h : l[k]? = some e) : Jo k t (n + 1) 6 l = Jo k t n 7 (l.set k ⟨e.Aw, e.depth, ⟨e.Av.f0, e.Av.f1, e.Av.f2, e.Av.f3, e.Av.f4, e.Av.f5, u64and e.Av.f6 t.Av.f6, e.Av.f7⟩⟩) := by
 rw [Jo, qaa (by decide), h, qAz, qaa (by decide), qaa (by decide), qAz]
 rfl
theorem qxe {l : List PS} {k n : Nat} {e t : PS} (h : l[k]? = some e) : Jo k t (n + 1) 7 l = Jo k t n 8 (l.set k ⟨e.Aw, e.depth, ⟨e.Av.f0, e.Av.f1, e.Av.f2, e.Av.f3, e.Av.f4, e.Av.f5, e.Av.f6, u64and e.Av.f7 t.Av.f7⟩⟩) := by
 rw [Jo, qaa (by decide), h, qAz, qaa (by decide), qaa (by decide), qAz]
 rfl
theorem jel {l : List PS} {k : Nat} {s t : PS} (h : l[k]? = some s) : Jo k t 8 0 l = some (l.set k ⟨s.Aw, s.depth, qyw s.Av t.Av⟩) := by
 have hk : k < l.length := (List.getElem?_eq_some_iff.1 h).1
 have hs : ∀ z : PS, (l.set k z)[k]? = some z := fun z => by simp [hk]
 rw [qw7 h, qw8 (hs _), List.set_set, qw9 (hs _), List.set_set, qxa (hs _), List.set_set, qxb (hs _), List.set_set, qxc (hs _), List.set_set, qxd (hs _), List.set_set, qxe (hs _), List.set_set, Jo]
 rfl
def orW (W : S8) (k : Nat) : S8 :=
 let m := (wl W).set (k / 64) (u64or ((wl W).getD (k / 64) 0) (u64shl 1 ((k % 64 : Nat) : Int)))
 ⟨m.getD 0 0, m.getD 1 0, m.getD 2 0, m.getD 3 0, m.getD 4 0, m.getD 5 0, m.getD 6 0, m.getD 7 0⟩
theorem qtl {W : S8} {k i : Nat} (hk : k < 512) (hi : i < 8) : (wl (orW W k)).getD i 0 = if i = k / 64 then u64or ((wl W).getD (k / 64) 0) (u64shl 1 ((k % 64 : Nat) : Int)) else (wl W).getD i 0 := by
 have hl : (wl W).length = 8 := rfl
 have key : (wl (orW W k)).getD i 0 = ((wl W).set (k / 64) (u64or ((wl W).getD (k / 64) 0) (u64shl 1 ((k % 64 : Nat) : Int)))).getD i 0 := by
  match i, hi with
  | 0, _ | 1, _ | 2, _ | 3, _ | 4, _ | 5, _ | 6, _ | 7, _ => rfl
  | i + 8, h => omega
 rw [key, List.getD_eq_getElem?_getD, List.getElem?_set]
 by_cases q : k / 64 = i
 ·rw [qA1 q, qA1 (by omega), qA1 q.symm]; rfl
 ·rw [qA0 q, qA0 (by omega), ← List.getD_eq_getElem?_getD]
theorem qxf {W : S8} (h : WOK W) {k : Nat} (hk : k < 512) : WOK (orW W k) := by
 have key : ∀ i, i < 8 → W64 ((wl (orW W k)).getD i 0) := fun i hi => by
  rw [qtl hk hi]
  split
  ·exact qr6
  ·exact qpr h i
 exact ⟨key 0 (by omega), key 1 (by omega), key 2 (by omega), key 3 (by omega), key 4 (by omega), key 5 (by omega), key 6 (by omega), key 7 (by omega)⟩
theorem qu6 {W : S8} (h : WOK W) {k : Nat} (hk : k < 512) {n : Int} (h0 : 0 ≤ n) (h1 : n ≤ 511) : qk5 (orW W k) n = (decide (n = (k : Int)) || qk5 W n) := by
 unfold qk5
 rw [qtl hk (by omega)]
 by_cases q : n.toNat / 64 = k / 64
 ·rw [qA1 q, qw3 (by omega), qr5 (qpr h _) (qw4 (by omega)), Int.toNat_natCast, Int.toNat_natCast, Nat.testBit_or, Nat.testBit_two_pow, q, Bool.or_comm]
  congr 1
  rw [decide_eq_decide]
  omega
 ·rw [qA0 q, decide_eq_false (by omega), Bool.false_or]
def acts1 : List Str := [[112, 97, 116, 104], [113, 117, 101, 114, 121], [116, 97, 103], [116, 116, 108], [100, 101, 110, 121]]
def acts0 : List Str := [[112, 97, 115, 115], [116, 111, 107, 101, 110]]
def sHeader : Str := [104, 101, 97, 100, 101, 114, 58]
def sVary : Str := [118, 97, 114, 121, 58]
def hp (s p : Str) : Bool := decide (s.length ≥ p.length) && decide (s.take p.length = p)
def actK (s : Str) : Option Int :=
 if s ∈ acts1 then some 1 else if s ∈ acts0 then some 0 else if hp s sHeader = true then (if prt s = true then some 1 else none) else if (hp s sVary && prt s) = true then some 0 else none
def eff (x : I) : Option (Int × Int) :=
 if x.Op = 1 then (if x.S = [] ∧ 0 ≤ x.N ∧ x.N ≤ 999999999 then some (0, 1) else none)
 else if x.Op = 2 then (if x.N = 0 ∧ prt x.S = true then some (0, 1) else none)
 else if x.Op = 3 then (if x.S = [] ∧ 0 ≤ x.N ∧ x.N ≤ 511 then some (0, 1) else none)
 else if x.Op = 4 then (if x.S = [] ∧ 0 ≤ x.N ∧ x.N ≤ 511 then some (1, 0) else none)
 else if x.Op = 5 then (if x.N = 0 ∧ x.S ∈ Jad then some (0, 1) else none)
 else if x.Op = 6 then (if x.N = 0 ∧ x.S ∈ Jak then some (1, 1) else none)
 else if x.Op = 7 then (if x.N = 0 ∧ x.S ∈ Jaa then some (2, 1) else none)
 else if x.Op = 8 then (if x.N = 0 ∧ x.S = [] then some (1, 1) else none)
 else if x.Op = 9 then (if x.S = [] then some (0, 0) else none)
 else if x.Op = 10 then (if x.S = [] then some (1, 0) else none)
 else if x.Op = 11 then (if x.N = 0 then (actK x.S).map fun t => (t, 0) else none)
 else if x.Op = 12 then (if x.N = 0 ∧ x.S = [] then some (0, 0) else none)
 else none
def Ef (x : I) (r : Option (Int × Int × Bool)) : Prop := ∃ t l, r = some (t, l, (eff x).isSome) ∧ ∀ a b, eff x = some (a, b) → t = a ∧ l = b
theorem Ef.mk' {x : I} {t l : Int} {b : Bool} {c : Prop} [Decidable c] (he : eff x = if c then some (t, l) else none) (hb : b = decide c) : Ef x (some (t, l, b)) := by
 refine ⟨t, l, ?_, fun a b h => ?_⟩
 ·rw [he, hb]
  by_cases q : c
  ·simp [q]
  ·simp [q]
 ·rw [he] at h
  split at h <;> cases h
  exact ⟨rfl, rfl⟩
theorem qps {s : Str} (h : s.length ≤ 100000) : JaT s = some (prt s) := by
 obtain ⟨r, hr, g1, g2⟩ := qdg s 0 [34] (by simp <;> omega)
 unfold JaT JbM
 rw [qaa (by simp only [qau]; omega), hr, qAz]
 cases q : prt s with
 | false => rw [g2 q, el_ret]; rfl
 | true =>
  obtain ⟨z, rfl, hz⟩ := g1 q
  rw [el_go, qaa (by simp only [lim, List.length_cons, List.length_nil]; omega)]; rfl
theorem qg7 (v : Str) : ∀ (l : List Str) (i : Nat), ∃ r, J2 v l i = some r ∧ (v ∈ l → ∃ j : Nat, r = Fl.ret (j : Int)) ∧ (v ∉ l → r = Fl.go ())
 | [], i => ⟨_, rfl, fun h => (by cases h), fun _ => rfl⟩
 | a :: l, i => by
  rw [J2]
  by_cases q : v = a
  ·rw [qA1 (by simpa using q)]
   exact ⟨_, rfl, fun _ => ⟨i, rfl⟩, fun h => absurd (by simp [q]) h⟩
  ·rw [qA0 (by simpa using q)]
   obtain ⟨r, hr, h1, h2⟩ := qg7 v l (i + 1)
   exact ⟨r, hr, fun h => h1 (by simpa [q] using h), fun h => h2 (by simpa [q] using h)⟩
theorem cont_eq {l : List Str} {v : Str} (h : l.length ≤ 3000) : JL l v = some (decide (v ∈ l)) := by
 unfold JL Jbs
 obtain ⟨r, hr, h1, h2⟩ := qg7 v l 0
 rw [qaa (by simp only [qau]; omega), hr, qAz]
 by_cases q : v ∈ l
 ·obtain ⟨j, rfl⟩ := h1 q
  rw [el_ret, qAz, decide_eq_true q, decide_eq_true (by omega)]
 ·rw [h2 q, el_go, qAz, decide_eq_false q]; rfl
theorem sub0 (s : Str) (k : Nat) : subL s (0 : Int) (k : Int) = s.take k := by
 unfold subL
 simp
theorem hp_eq (s p : Str) : (decide ((s.length : Int) ≥ (p.length : Int)) && decide (subL s (0 : Int) (p.length : Int) = p)) = hp s p := by
 rw [sub0]
 unfold hp
 congr 1
 rw [decide_eq_decide]; omega
theorem hp_app {s p : Str} (h : hp s p = true) : s = p ++ s.drop p.length := by
 simp only [hp, Bool.and_eq_true, decide_eq_true_eq] at h
 conv => lhs; rw [← List.take_append_drop p.length s, h.2]
theorem qfl (a b : Str) : prt (a ++ b) = (prt a && prt b) := by simp [prt]
theorem qdm (s p : Str) : Jbq s p = some (if hp s p = true then (s.drop p.length, true) else (s, false)) := by
 unfold Jbq JaJ
 have h0 := qew s p
 unfold JS at h0
 rw [hp_eq] at h0
 have h1 : J6 s p = some (hp s p) := by simpa using h0
 rw [h1, qAz]
 cases q : hp s p with
 | false => rw [qA1 (by simp), qAz, qA0 (by simp)]
 | true =>
  have hl : p.length ≤ s.length := by
   simp only [hp, Bool.and_eq_true, decide_eq_true_eq] at q
   exact q.1
  rw [qA0 (by simp), qaa (by omega), qAz, qA1 rfl]
  unfold subL
  rw [Int.toNat_natCast, List.take_of_length_le (by rw [List.length_drop]; omega)]
theorem qr8 {s : Str} (h : s.length ≤ 100000) : ∃ t b, JcA s = some (t, b) ∧ b = (actK s).isSome ∧ ∀ k, actK s = some k → t = k := by
 have key : ∀ (t : Int) (b : Bool), (actK s = if b = true then some t else none) → b = (actK s).isSome ∧ ∀ k, actK s = some k → t = k := fun t b h => by
  rw [h]
  cases b with
  | true => exact ⟨rfl, fun k hk => by cases hk; rfl⟩
  | false => exact ⟨rfl, fun k hk => by cases hk⟩
 unfold JcA
 by_cases q1 : s = [112, 97, 116, 104]
 ·subst q1; exact ⟨_, _, rfl, key _ _ (by decide)⟩
 rw [qA0 (by simpa using q1)]
 by_cases q2 : s = [113, 117, 101, 114, 121]
 ·subst q2; exact ⟨_, _, rfl, key _ _ (by decide)⟩
 rw [qA0 (by simpa using q2)]
 by_cases q3 : s = [116, 97, 103]
 ·subst q3; exact ⟨_, _, rfl, key _ _ (by decide)⟩
 rw [qA0 (by simpa using q3)]
 by_cases q4 : s = [116, 116, 108]
 ·subst q4; exact ⟨_, _, rfl, key _ _ (by decide)⟩
 rw [qA0 (by simpa using q4)]
 by_cases q5 : s = [100, 101, 110, 121]
 ·subst q5; exact ⟨_, _, rfl, key _ _ (by decide)⟩
 rw [qA0 (by simpa using q5)]
 by_cases q6 : s = [112, 97, 115, 115]
 ·subst q6; exact ⟨_, _, rfl, key _ _ (by decide)⟩
 rw [qA0 (by simpa using q6)]
 by_cases q7 : s = [116, 111, 107, 101, 110]
 ·subst q7; exact ⟨_, _, rfl, key _ _ (by decide)⟩
 rw [qA0 (by simpa using q7)]
 have n1 : s ∉ acts1 := by simp [acts1, q1, q2, q3, q4, q5]
 have n0 : s ∉ acts0 := by simp [acts0, q6, q7]
 have hd : ∀ p : Str, hp s p = true → prt p = true → prt (s.drop p.length) = prt s := fun p h hpp => by
  conv => rhs; rw [hp_app h]
  rw [qfl, hpp, Bool.true_and]
 rw [show ([104, 101, 97, 100, 101, 114, 58] : Str) = sHeader from rfl, show ([118, 97, 114, 121, 58] : Str) = sVary from rfl, qdm, qAz]
 cases q8 : hp s sHeader with
 | true =>
  rw [qA1 rfl, qA1 rfl, qps (by rw [List.length_drop]; omega), qAz, hd _ q8 (by decide)]
  exact ⟨_, _, rfl, key _ _ (by unfold actK; rw [qA0 n1, qA0 n0, qA1 q8])⟩
 | false =>
  rw [qA0 (by simp), qdm, qAz]
  cases q9 : hp s sVary with
  | true =>
   rw [qA1 rfl, qA1 rfl, qps (by rw [List.length_drop]; omega), qAz, qAz, hd _ q9 (by decide)]
   exact ⟨_, _, rfl, key _ _ (by unfold actK; rw [qA0 n1, qA0 n0, qA0 (by simp [q8]), q9, Bool.true_and])⟩
  | false =>
   rw [qA0 (by simp), qAz]
   exact ⟨_, _, rfl, key _ _ (by unfold actK; rw [qA0 n1, qA0 n0, qA0 (by simp [q8]), q9, Bool.false_and])⟩
theorem ifb {c : Bool} {o : Option Bool} {v : Bool} (h : o = some v) : (if c = true then o.bind (fun x => some x) else some false) = some (c && v) := by
 cases c with
 | true => rw [qA1 rfl, h, qAz, Bool.true_and]
 | false => rw [qA0 (by simp), Bool.false_and]
theorem qnx {x : I} (h : x.S.length ≤ 100000) : Ef x (Jb9 x) := by
 unfold Jb9
 by_cases q1 : x.Op = 1
 ·rw [qA1 (by simpa using q1)]; exact Ef.mk' (by unfold eff; rw [qA1 q1]) (by simp [Bool.and_assoc])
 by_cases q2 : x.Op = 2
 ·rw [qA0 (by simpa using q1), qA1 (by simpa using q2), ifb (qps h), qAz]; exact Ef.mk' (by unfold eff; rw [qA0 q1, qA1 q2]) (by simp)
 by_cases q3 : x.Op = 3
 ·rw [qA0 (by simpa using q1), qA0 (by simpa using q2), qA1 (by simpa using q3)]; exact Ef.mk' (by unfold eff; rw [qA0 q1, qA0 q2, qA1 q3]) (by simp [Bool.and_assoc])
 by_cases q4 : x.Op = 4
 ·rw [qA0 (by simpa using q1), qA0 (by simpa using q2), qA0 (by simpa using q3), qA1 (by simpa using q4)]; exact Ef.mk' (by unfold eff; rw [qA0 q1, qA0 q2, qA0 q3, qA1 q4]) (by simp [Bool.and_assoc])
 rw [qA0 (by simpa using q1), qA0 (by simpa using q2), qA0 (by simpa using q3), qA0 (by simpa using q4)]
 by_cases q5 : x.Op = 5
 ·rw [qA1 (by simpa using q5), ifb (cont_eq (by decide)), qAz]; exact Ef.mk' (by unfold eff; rw [qA0 q1, qA0 q2, qA0 q3, qA0 q4, qA1 q5]) (by simp)
 by_cases q6 : x.Op = 6
 ·rw [qA0 (by simpa using q5), qA1 (by simpa using q6), ifb (cont_eq (by decide)), qAz]; exact Ef.mk' (by unfold eff; rw [qA0 q1, qA0 q2, qA0 q3, qA0 q4, qA0 q5, qA1 q6]) (by simp)
 by_cases q7 : x.Op = 7
 ·rw [qA0 (by simpa using q5), qA0 (by simpa using q6), qA1 (by simpa using q7), ifb (cont_eq (by decide)), qAz]; exact Ef.mk' (by unfold eff; rw [qA0 q1, qA0 q2, qA0 q3, qA0 q4, qA0 q5, qA0 q6, qA1 q7]) (by simp)
 rw [qA0 (by simpa using q5), qA0 (by simpa using q6), qA0 (by simpa using q7)]
 by_cases q8 : x.Op = 8
 ·rw [qA1 (by simpa using q8)]; exact Ef.mk' (by unfold eff; rw [qA0 q1, qA0 q2, qA0 q3, qA0 q4, qA0 q5, qA0 q6, qA0 q7, qA1 q8]) (by simp)
 by_cases q9 : x.Op = 9
 ·rw [qA0 (by simpa using q8), qA1 (by simpa using q9)]; exact Ef.mk' (by unfold eff; rw [qA0 q1, qA0 q2, qA0 q3, qA0 q4, qA0 q5, qA0 q6, qA0 q7, qA0 q8, qA1 q9]) (by simp)
 by_cases q10 : x.Op = 10
 ·rw [qA0 (by simpa using q8), qA0 (by simpa using q9), qA1 (by simpa using q10)]; exact Ef.mk' (by unfold eff; rw [qA0 q1, qA0 q2, qA0 q3, qA0 q4, qA0 q5, qA0 q6, qA0 q7, qA0 q8, qA0 q9, qA1 q10]) (by simp)
 rw [qA0 (by simpa using q8), qA0 (by simpa using q9), qA0 (by simpa using q10)]
 by_cases q11 : x.Op = 11
 ·obtain ⟨t, b, e1, e2, e3⟩ := qr8 h
  rw [qA1 (by simpa using q11), e1, qAz]
  have ee : eff x = if x.N = 0 then (actK x.S).map fun t => (t, 0) else none := by unfold eff; rw [qA0 q1, qA0 q2, qA0 q3, qA0 q4, qA0 q5, qA0 q6, qA0 q7, qA0 q8, qA0 q9, qA0 q10, qA1 q11]
  refine ⟨t, 0, ?_, fun a c hc => ?_⟩
  ·rw [ee, e2]
   by_cases q : x.N = 0
   ·rw [qA1 q, decide_eq_true q, Bool.true_and, Option.isSome_map]
   ·rw [qA0 q, decide_eq_false q, Bool.false_and]; rfl
  ·rw [ee] at hc
   by_cases q : x.N = 0
   ·rw [qA1 q] at hc
    obtain ⟨k, hk, hk2⟩ := Option.map_eq_some_iff.1 hc
    cases hk2
    exact ⟨e3 _ hk, rfl⟩
   ·rw [qA0 q] at hc; cases hc
 by_cases q12 : x.Op = 12
 ·rw [qA0 (by simpa using q11), qA1 (by simpa using q12)]; exact Ef.mk' (by unfold eff; rw [qA0 q1, qA0 q2, qA0 q3, qA0 q4, qA0 q5, qA0 q6, qA0 q7, qA0 q8, qA0 q9, qA0 q10, qA0 q11, qA1 q12]) (by simp)
 ·rw [qA0 (by simpa using q11), qA0 (by simpa using q12)]
  have ee : eff x = none := by unfold eff; rw [qA0 q1, qA0 q2, qA0 q3, qA0 q4, qA0 q5, qA0 q6, qA0 q7, qA0 q8, qA0 q9, qA0 q10, qA0 q11, qA0 q12]
  exact ⟨0, 0, by rw [ee]; rfl, fun a b h => by rw [ee] at h; cases h⟩
theorem qzg {s p q : Str} (h : hp s p = true) (hn : ∀ t, hp (p ++ t) q = false) : hp s q = false := by
 rw [hp_app h]; exact hn _
theorem hdvary (s : Str) (h : hp s sVary = true) : hp s sHeader = false := by
 refine qzg h fun t => ?_
 unfold hp sVary sHeader
 simp
theorem qxg {s : Str} (h : hp s sVary = true) : s ∉ acts1 := by
 intro hs
 have : ∀ w ∈ acts1, hp w sVary = false := by decide
 rw [this s hs] at h; cases h
theorem qjv {s : Str} (h : hp s sHeader = true) : s ∉ acts0 := by
 intro hs
 have : ∀ w ∈ acts0, hp w sHeader = false := by decide
 rw [this s hs] at h; cases h
theorem qxh (s : Str) : Jba s = some ((fnc s).1, (fnc s).2, decide (s ∈ Jak)) ∧ ((fnc s).2 ≠ 0 ↔ s ∈ Jak) := by
 obtain ⟨h1, h2⟩ := qpl s
 have h3 : decide ((fnc s).2 ≠ 0) = decide (s ∈ Jak) := by
  have e : (Jba s).map (fun r => r.2.2) = some (decide (s ∈ Jak)) := by
   unfold Jba Jak
   by_cases q1 : s = [104, 101, 97, 100, 101, 114]; · subst q1; rfl
   by_cases q2 : s = [97, 114, 103]; · subst q2; rfl
   by_cases q3 : s = [108, 111, 119, 101, 114]; · subst q3; rfl
   by_cases q4 : s = [104, 97, 115]; · subst q4; rfl
   by_cases q5 : s = [108, 101, 110]; · subst q5; rfl
   by_cases q6 : s = [110, 117, 109, 98, 101, 114]; · subst q6; rfl
   by_cases q7 : s = [112, 97, 114, 116]; · subst q7; rfl
   by_cases q8 : s = [116, 101, 120, 116]; · subst q8; rfl
   simp [q1, q2, q3, q4, q5, q6, q7, q8]
  rw [h1] at e
  simpa using e
 rw [h3] at h1
 exact ⟨h1, decide_eq_decide.1 h3⟩
abbrev AS := Option (Int × (Int → Bool))
abbrev AB := Nat → AS
def joinA (a : AS) (d : Int) (σ : Int → Bool) : Option AS := match a with
 | none => some (some (d, σ))
 | some (d0, σ0) => if d0 = d then some (some (d0, fun n => σ0 n && σ n)) else none
def updA (B : AB) (i : Nat) (a : AS) : AB := fun j => if j = i then a else B j
def nxt (x : I) (σ : Int → Bool) : Int → Bool := if x.Op = 4 then (fun n => decide (n = x.N) || σ n) else σ
def far (len i : Nat) (x : I) (B : AB) (d : Int) (σ : Int → Bool) : Option AB :=
 if isJ x = true then (if x.N ≤ i ∨ x.N ≥ len then none else (joinA (B x.N.toNat) d σ).map fun a => updA B x.N.toNat a) else some B
def near (i : Nat) (x : I) (B : AB) (d : Int) (σ : Int → Bool) : Option AB :=
 if x.Op = 9 then some B else (joinA (B (i + 1)) d σ).map fun a => updA B (i + 1) a
def stA (len i : Nat) (x : I) (B : AB) (g : Int) : Option (AB × Int) :=
 match eff x, B i with
 | some (t, l), some (d, σ) =>
  if d < t ∨ ¬ ((x.Op = 12) ↔ (i + 1 = len)) ∨ (x.Op = 3 ∧ σ x.N = false) then none
  else if x.Op = 12 then (if d = 0 then some (B, max (max g d) (d + (l - t))) else none)
  else (far len i x B (d + (l - t)) (nxt x σ)).bind fun B1 => (near i x B1 (d + (l - t)) (nxt x σ)).map fun B2 => (B2, max (max g d) (d + (l - t)))
 | _, _ => none
def wk (len : Nat) : Nat → List I → AB → Int → Option Int
 | _, [], _, g => some g
 | i, x :: l, B, g => (stA len i x B g).bind fun r => wk len (i + 1) l r.1 r.2
def B0 : AB := fun i => if i = 0 then some (0, fun _ => false) else none
def depthOf (c : List I) : Option Int := if c.length < 1 ∨ c.length > 2048 then none else wk c.length 0 c B0 0
structure PR (len : Nat) (L : List PS) (B : AB) : Prop where
 len : L.length = len
 bits : ∀ i s, L[i]? = some s → s.Aw = (B i).isSome ∧ ∀ d σ, B i = some (d, σ) → s.depth = d ∧ 0 ≤ d ∧ d ≤ i ∧ WOK s.Av ∧ ∀ n : Int, 0 ≤ n → n ≤ 511 → qk5 s.Av n = σ n
structure TR (t : PS) (d : Int) (σ : Int → Bool) : Prop where
 Aw : t.Aw = true
 depth : t.depth = d
 ok : WOK t.Av
 bits : ∀ n : Int, 0 ≤ n → n ≤ 511 → qk5 t.Av n = σ n
theorem qxi {len k : Nat} {L : List PS} {B : AB} {t : PS} {d : Int} {σ : Int → Bool} (h : PR len L B) (hk : k < len) (ht : TR t d σ) (hd : 0 ≤ d ∧ d ≤ k) :
  ∃ b L', Jao L k t = some (b, L') ∧ match joinA (B k) d σ with
   | none => b = false
   | some a => b = true ∧ PR len L' (updA B k a) := by
 obtain ⟨s, hs⟩ : ∃ s, L[k]? = some s := ⟨L[k]'(by rw [h.len]; exact hk), List.getElem?_eq_getElem _⟩
 obtain ⟨h1, h2⟩ := h.bits k s hs
 have hk' : k < L.length := by rw [h.len]; exact hk
 have up : ∀ (a : AS) (s' : PS), (s'.Aw = a.isSome ∧ ∀ d σ, a = some (d, σ) → s'.depth = d ∧ 0 ≤ d ∧ d ≤ k ∧ WOK s'.Av ∧ ∀ n : Int, 0 ≤ n → n ≤ 511 → qk5 s'.Av n = σ n) → PR len (L.set k s') (updA B k a) := fun a s' ha =>
  ⟨by rw [List.length_set]; exact h.len, fun i z hz => by
   unfold updA
   by_cases q : i = k
   ·subst q
    rw [List.getElem?_set_self hk'] at hz
    cases hz
    simp only [if_true]
    exact ha
   ·rw [List.getElem?_set_ne (fun e => q e.symm)] at hz
    simp only [qA0 q]
    exact h.bits i z hz⟩
 unfold Jao
 rw [hs, qAz]
 cases hB : B k with
 | none =>
  rw [hB] at h1
  have h1 : s.Aw = false := h1
  rw [qA1 (by simp [h1])]
  refine ⟨_, _, rfl, rfl, ?_⟩
  have := up (some (d, σ)) t ⟨ht.Aw, fun d' σ' e => by cases e; exact ⟨ht.depth, hd.1, hd.2, ht.ok, ht.bits⟩⟩
  exact this
 | some p =>
  obtain ⟨d0, σ0⟩ := p
  rw [hB] at h1
  have h1 : s.Aw = true := h1
  obtain ⟨g1, g2, g3, g4, g5⟩ := h2 d0 σ0 hB
  rw [qA0 (by simp [h1]), qaa (by decide), show ((8 : Int)).toNat = 8 from rfl, jel hs, qAz, List.getElem?_set_self hk', qAz]
  refine ⟨_, _, rfl, ?_⟩
  simp only [joinA]
  by_cases q : d0 = d
  ·rw [qA1 q]
   simp only
   refine ⟨by simp [g1, q, ht.depth], up _ _ ⟨h1, fun d' σ' e => ?_⟩⟩
   cases e
   exact ⟨g1, g2, g3, qu4 g4 ht.ok, fun n n0 n1 => by rw [qr7 g4 ht.ok n0 n1, g5 n n0 n1, ht.bits n n0 n1]⟩
  ·rw [qA0 q]
   simp [g1, ht.depth, q]
theorem eff_bd {x : I} {t l : Int} (h : eff x = some (t, l)) : 0 ≤ t ∧ t ≤ 2 ∧ 0 ≤ l ∧ l ≤ 1 ∧ (x.Op = 12 → t = 0 ∧ l = 0) ∧ ((x.Op = 3 ∨ x.Op = 4) → 0 ≤ x.N ∧ x.N ≤ 511) := by
 unfold eff at h
 have go : ∀ {c : Prop} [Decidable c] {a b : Int}, (if c then some (a, b) else none) = some (t, l) → c ∧ a = t ∧ b = l := fun {c} _ {a b} h => by
  split at h
  ·rename_i hc; cases h; exact ⟨hc, rfl, rfl⟩
  ·cases h
 by_cases q1 : x.Op = 1
 ·rw [qA1 q1] at h; obtain ⟨_, rfl, rfl⟩ := go h; exact ⟨by omega, by omega, by omega, by omega, fun h => by omega, fun h => by omega⟩
 rw [qA0 q1] at h
 by_cases q2 : x.Op = 2
 ·rw [qA1 q2] at h; obtain ⟨_, rfl, rfl⟩ := go h; exact ⟨by omega, by omega, by omega, by omega, fun h => by omega, fun h => by omega⟩
 rw [qA0 q2] at h
 by_cases q3 : x.Op = 3
 ·rw [qA1 q3] at h; obtain ⟨hc, rfl, rfl⟩ := go h; exact ⟨by omega, by omega, by omega, by omega, fun h => by omega, fun _ => hc.2⟩
 rw [qA0 q3] at h
 by_cases q4 : x.Op = 4
 ·rw [qA1 q4] at h; obtain ⟨hc, rfl, rfl⟩ := go h; exact ⟨by omega, by omega, by omega, by omega, fun h => by omega, fun _ => hc.2⟩
 rw [qA0 q4] at h
 have no : ¬ (x.Op = 3 ∨ x.Op = 4) := by omega
 by_cases q5 : x.Op = 5
 ·rw [qA1 q5] at h; obtain ⟨_, rfl, rfl⟩ := go h; exact ⟨by omega, by omega, by omega, by omega, fun h => by omega, fun h => absurd h no⟩
 rw [qA0 q5] at h
 by_cases q6 : x.Op = 6
 ·rw [qA1 q6] at h; obtain ⟨_, rfl, rfl⟩ := go h; exact ⟨by omega, by omega, by omega, by omega, fun h => by omega, fun h => absurd h no⟩
 rw [qA0 q6] at h
 by_cases q7 : x.Op = 7
 ·rw [qA1 q7] at h; obtain ⟨_, rfl, rfl⟩ := go h; exact ⟨by omega, by omega, by omega, by omega, fun h => by omega, fun h => absurd h no⟩
 rw [qA0 q7] at h
 by_cases q8 : x.Op = 8
 ·rw [qA1 q8] at h; obtain ⟨_, rfl, rfl⟩ := go h; exact ⟨by omega, by omega, by omega, by omega, fun h => by omega, fun h => absurd h no⟩
 rw [qA0 q8] at h
 by_cases q9 : x.Op = 9
 ·rw [qA1 q9] at h; obtain ⟨_, rfl, rfl⟩ := go h; exact ⟨by omega, by omega, by omega, by omega, fun h => by omega, fun h => absurd h no⟩
 rw [qA0 q9] at h
 by_cases q10 : x.Op = 10
 ·rw [qA1 q10] at h; obtain ⟨_, rfl, rfl⟩ := go h; exact ⟨by omega, by omega, by omega, by omega, fun h => by omega, fun h => absurd h no⟩
 rw [qA0 q10] at h
 by_cases q11 : x.Op = 11
 ·rw [qA1 q11] at h
  split at h
  ·obtain ⟨k, hk, e⟩ := Option.map_eq_some_iff.1 h
   cases e
   have : t = 0 ∨ t = 1 := by
    unfold actK at hk
    split at hk
    ·cases hk; simp
    ·split at hk
     ·cases hk; simp
     ·split at hk
      ·split at hk
       ·cases hk; simp
       ·cases hk
      ·split at hk
       ·cases hk; simp
       ·cases hk
   exact ⟨by omega, by omega, by omega, by omega, fun h => by omega, fun h => absurd h no⟩
  ·cases h
 rw [qA0 q11] at h
 by_cases q12 : x.Op = 12
 ·rw [qA1 q12] at h; obtain ⟨_, rfl, rfl⟩ := go h; exact ⟨by omega, by omega, by omega, by omega, fun h => ⟨rfl, rfl⟩, fun h => absurd h no⟩
 rw [qA0 q12] at h
 cases h
def qhf (x : I) (W : S8) : S8 := if x.Op = 4 then orW W x.N.toNat else W
theorem qxj {x : I} {W : S8} (hx : x.Op = 4 → 0 ≤ x.N ∧ x.N ≤ 511) :
  (if decide (x.Op = 4) = true then
   (chk ((64 : Int) ≠ 0 ∧ InI (Int.tdiv x.N 64))).bind fun _ => (chk (0 ≤ (Int.tdiv x.N 64) ∧ (Int.tdiv x.N 64) < 8)).bind fun _ => (chk (0 ≤ (Int.tmod x.N 64))).bind fun _ => (chk (0 ≤ (Int.tdiv x.N 64) ∧ (Int.tdiv x.N 64) < 8)).bind fun _ =>
   (some (List.set [W.f0, W.f1, W.f2, W.f3, W.f4, W.f5, W.f6, W.f7] (Int.toNat (Int.tdiv x.N 64)) (u64or (List.getD [W.f0, W.f1, W.f2, W.f3, W.f4, W.f5, W.f6, W.f7] (Int.toNat (Int.tdiv x.N 64)) 0) (u64shl 1 (Int.tmod x.N 64))))).bind fun m5_ =>
   some ((List.getD m5_ 0 0), (List.getD m5_ 1 0), (List.getD m5_ 2 0), (List.getD m5_ 3 0), (List.getD m5_ 4 0), (List.getD m5_ 5 0), (List.getD m5_ 6 0), (List.getD m5_ 7 0))
  else some (W.f0, W.f1, W.f2, W.f3, W.f4, W.f5, W.f6, W.f7) : Option (Int × Int × Int × Int × Int × Int × Int × Int)) = some ((qhf x W).f0, (qhf x W).f1, (qhf x W).f2, (qhf x W).f3, (qhf x W).f4, (qhf x W).f5, (qhf x W).f6, (qhf x W).f7) := by
 unfold qhf
 by_cases q : x.Op = 4
 ·obtain ⟨h0, h1⟩ := hx q
  obtain ⟨k, hk⟩ : ∃ k : Nat, x.N = (k : Int) := ⟨x.N.toNat, by omega⟩
  rw [hk] at h0 h1 ⊢
  have e1 : Int.tdiv (k : Int) 64 = ((k / 64 : Nat) : Int) := by rw [Int.tdiv_eq_ediv_of_nonneg h0]; omega
  have e2 : Int.tmod (k : Int) 64 = ((k % 64 : Nat) : Int) := by rw [Int.tmod_eq_emod_of_nonneg h0]; omega
  have hd : k / 64 < 8 := by omega
  rw [qA1 (by simpa using q), e1, e2, qaa ⟨by decide, by omega, by omega⟩, qaa (by omega), qaa (by omega), qaa (by omega), qAz, qA1 q, Int.toNat_natCast, Int.toNat_natCast]
  rfl
 ·rw [qA0 (by simpa using q), qA0 q]
theorem qu7 {x : I} {W : S8} (h : WOK W) (hx : x.Op = 4 → 0 ≤ x.N ∧ x.N ≤ 511) : WOK (qhf x W) := by
 unfold qhf
 split
 ·rename_i q; have := hx q; exact qxf h (by omega)
 ·exact h
theorem qpt {x : I} {W : S8} {σ : Int → Bool} (h : WOK W) (hx : x.Op = 4 → 0 ≤ x.N ∧ x.N ≤ 511) (hb : ∀ n : Int, 0 ≤ n → n ≤ 511 → qk5 W n = σ n) : ∀ n : Int, 0 ≤ n → n ≤ 511 → qk5 (qhf x W) n = nxt x σ n := fun n h0 h1 => by
 unfold qhf nxt
 by_cases q : x.Op = 4
 ·have := hx q
  rw [qA1 q, qA1 q, qu6 h (by omega) h0 h1, hb n h0 h1]
  congr 1
  rw [decide_eq_decide]; omega
 ·rw [qA0 q, qA0 q, hb n h0 h1]
theorem wk_cons {len i : Nat} {x : I} {l : List I} {B : AB} {g : Int} : wk len i (x :: l) B g = (stA len i x B g).bind fun r => wk len (i + 1) l r.1 r.2 := rfl
theorem qAs {len i : Nat} {x : I} {L : List PS} {B : AB} {t : PS} {d : Int} {σ : Int → Bool} (h : PR len L B) (hl : len ≤ 2048) (ht : TR t d σ) (hd : 0 ≤ d ∧ d ≤ i + 1) :
  ∃ r, (if (decide (x.Op = 9) || decide (x.Op = 10)) = true then
   if (decide (x.N ≤ (i : Int)) || decide (x.N ≥ (len : Int))) = true then some (Fl.ret (0, false)) else
   (ix L x.N).bind fun x135 => (Jao L ((x.N).toNat) t).bind fun x137 => if (!x137.1) = true then some (Fl.ret (0, false)) else some (Fl.go x137.2)
   else some (Fl.go L) : Option (Fl (Int × Bool) (List PS))) = some r ∧ match far len i x B d σ with
   | none => r = Fl.ret (0, false)
   | some B1 => ∃ L1, r = Fl.go L1 ∧ PR len L1 B1 := by
 have hj : (decide (x.Op = 9) || decide (x.Op = 10)) = isJ x := rfl
 rw [hj]
 unfold far
 cases q : isJ x with
 | false => rw [qA0 (by simp), qA0 (by simp)]; exact ⟨_, rfl, L, rfl, h⟩
 | true =>
  rw [qA1 rfl, qA1 rfl]
  by_cases q2 : x.N ≤ i ∨ x.N ≥ len
  ·rw [qA1 (by simpa using q2), qA1 q2]; exact ⟨_, rfl, rfl⟩
  ·rw [qA0 (by simpa using q2), qA0 q2]
   have hk : x.N.toNat < len := by omega
   have hkL : x.N.toNat < L.length := by rw [h.len]; exact hk
   have e : ix L x.N = some L[x.N.toNat] := by unfold ix; rw [qA1 (by omega), List.getElem?_eq_getElem hkL]
   obtain ⟨b, L', e1, e2⟩ := qxi h hk ht ⟨hd.1, by omega⟩
   rw [e, qAz, e1, qAz]
   cases q3 : joinA (B x.N.toNat) d σ with
   | none =>
    rw [q3] at e2
    have e2 : b = false := e2
    rw [e2, qA1 (by simp)]
    exact ⟨_, rfl, rfl⟩
   | some a =>
    rw [q3] at e2
    obtain ⟨e2, e3⟩ := e2
    rw [e2, qA0 (by simp)]
    exact ⟨_, rfl, L', rfl, e3⟩
def PG (c : List I) (i : Nat) (g : Int) (L : List PS) (B : AB) : Prop :=
 ∃ G b, Ja0 c (c.drop i) i g L = some (Fl.ret (G, b)) ∧ match wk c.length i (c.drop i) B g with
  | some G' => b = true ∧ G = G'
  | none => b = false
set_option maxRecDepth 100000 in
theorem qxk {c : List I} (hc : c.length ≤ 2048) (hS : ∀ x ∈ c, x.S.length ≤ 100000) {i : Nat} {g : Int} {L : List PS} {B : AB} (hlt : i < c.length) (hR : PR c.length L B) (ih : i + 1 < c.length → ∀ g L B, PR c.length L B → PG c (i + 1) g L B) : PG c i g L B := by
 unfold PG at ih ⊢
 obtain ⟨s, hs⟩ : ∃ s, L[i]? = some s := ⟨L[i]'(by rw [hR.len]; exact hlt), List.getElem?_eq_getElem _⟩
 have hsx : ix L (i : Int) = some s := by unfold ix; rw [qA1 (by omega), Int.toNat_natCast]; exact hs
 obtain ⟨r1, r2⟩ := hR.bits i s hs
 rw [List.drop_eq_getElem_cons hlt]
 have hxS := hS c[i] (List.getElem_mem hlt)
 obtain ⟨t, l, e1, e2⟩ := qnx (x := c[i]) hxS
 generalize hx : c[i] = x at *
 rw [Ja0, hsx, qAz, e1, qAz, qaa (by constructor <;> omega), wk_cons]
 have hlast : decide ((i : Int) = ((c.length : Int) - 1)) = decide (i + 1 = c.length) := by rw [decide_eq_decide]; omega
 rw [hlast]
 have fail : ∀ {o : Option Int}, o = none → ∃ G b, some (Fl.ret (0, false)) = (some (Fl.ret (G, b)) : Option (Fl (Int × Bool) (Int × List PS))) ∧ match o with
  | some G' => b = true ∧ G = G'
  | none => b = false := fun h => ⟨0, false, rfl, by rw [h]⟩
 cases he : eff x with
 | none =>
  rw [qA1 (by simp)]
  exact fail (by simp [stA, he])
 | some tl =>
 obtain ⟨t', l'⟩ := tl
 obtain ⟨rfl, rfl⟩ := e2 t' l' he
 obtain ⟨b1, b2, b3, b4, b5, b6⟩ := eff_bd he
 cases hB : B i with
 | none =>
  rw [hB] at r1
  have r1 : s.Aw = false := r1
  rw [qA1 (by simp [r1])]
  exact fail (by simp [stA, he, hB])
 | some p =>
 obtain ⟨d, σ⟩ := p
 rw [hB] at r1
 have r1 : s.Aw = true := r1
 obtain ⟨h1, h2, h3, h4, h5⟩ := r2 d σ hB
 by_cases q1 : d < t
 ·rw [qA1 (by simp [h1, q1])]
  exact fail (by simp [stA, he, hB, q1])
 by_cases q2 : (x.Op = 12) ↔ (i + 1 = c.length)
 ·have e : (decide (x.Op = 12) == decide (i + 1 = c.length)) = true := by
   by_cases w2 : i + 1 = c.length
   ·simp [q2.2 w2, w2]
   ·have w1 : ¬ x.Op = 12 := fun w => w2 (q2.1 w)
    simp [w1, w2]
  rw [qA0 (by rw [e]; simp [r1, h1, q1])]
  have hload : (if decide (x.Op = 3) = true then (Jbe s x.N).bind fun x77 => some (!x77) else some false) = some (decide (x.Op = 3 ∧ σ x.N = false)) := by
   by_cases w : x.Op = 3
   ·have := b6 (.inl w)
    rw [qA1 (by simpa using w), qw6 h4 this.1 this.2, qAz, h5 x.N this.1 this.2]
    cases σ x.N <;> simp [w]
   ·rw [qA0 (by simpa using w)]; simp [w]
  rw [hload, qAz]
  by_cases q3 : x.Op = 3 ∧ σ x.N = false
  ·rw [qA1 (by simpa using q3)]
   exact fail (by simp [stA, he, hB, q3])
  rw [qA0 (by simpa using q3), qaa (by simp only; constructor <;> omega), qaa (by simp only; constructor <;> omega), qxj (fun w => b6 (.inr w)), qAz]
  have hd : 0 ≤ d + (l - t) ∧ d + (l - t) ≤ i + 1 := by omega
  have hT : TR ⟨s.Aw, s.depth + (l - t), ⟨(qhf x s.Av).f0, (qhf x s.Av).f1, (qhf x s.Av).f2, (qhf x s.Av).f3, (qhf x s.Av).f4, (qhf x s.Av).f5, (qhf x s.Av).f6, (qhf x s.Av).f7⟩⟩ (d + (l - t)) (nxt x σ) :=
   ⟨r1, by rw [h1], qu7 h4 (fun w => b6 (.inr w)), qpt h4 (fun w => b6 (.inr w)) h5⟩
  obtain ⟨r, hr, hr2⟩ := qAs (x := x) hR hc hT hd
  simp only
  rw [hr, qAz]
  have hst : stA c.length i x B g = if x.Op = 12 then (if d = 0 then some (B, max (max g d) (d + (l - t))) else none) else (far c.length i x B (d + (l - t)) (nxt x σ)).bind fun B1 => (near i x B1 (d + (l - t)) (nxt x σ)).map fun B2 => (B2, max (max g d) (d + (l - t))) := by
   unfold stA
   rw [he, hB]
   simp only
   rw [qA0]
   rintro (w | w | w)
   ·exact q1 w
   ·exact w q2
   ·exact q3 w
  rw [hst]
  by_cases q4 : i + 1 = c.length
  ·have q12 := q2.2 q4
   obtain ⟨rfl, rfl⟩ := b5 q12
   have hf : far c.length i x B (d + (0 - 0)) (nxt x σ) = some B := by unfold far isJ; rw [qA0 (by simp [q12])]
   rw [hf] at hr2
   obtain ⟨L1, rfl, _⟩ := hr2
   rw [el_go, qA1 (by simpa using q4), qA1 q12, h1]
   refine ⟨_, _, rfl, ?_⟩
   by_cases q5 : d = 0
   ·rw [qA1 q5, qAz]
    have : List.drop (i + 1) c = [] := List.drop_eq_nil_of_le (by omega)
    simp only
    rw [this]
    simp [wk, q5]
   ·rw [qA0 q5]
    simp [q5]
  ·have q12 : ¬ x.Op = 12 := fun w => q4 (q2.1 w)
   rw [qA0 q12]
   cases hfar : far c.length i x B (d + (l - t)) (nxt x σ) with
   | none =>
    rw [hfar] at hr2
    have hr2 : r = Fl.ret (0, false) := hr2
    rw [hr2, el_ret]
    exact ⟨_, _, rfl, rfl⟩
   | some B1 =>
    rw [hfar] at hr2
    obtain ⟨L1, rfl, hR1⟩ := hr2
    rw [el_go, qA0 (by simpa using q4), qAz]
    unfold near
    by_cases q9 : x.Op = 9
    ·rw [qA0 (by simpa using q9), qA1 q9]
     simp only [Option.map_some, qAz]
     have := ih (by omega) (max (max g d) (d + (l - t))) L1 B1 hR1
     rw [h1]
     exact this
    ·rw [qA1 (by simpa using q9), qA0 q9]
     have hk : i + 1 < c.length := by omega
     have hkL : i + 1 < L1.length := by rw [hR1.len]; exact hk
     have e3 : ix L1 ((i : Int) + 1) = some L1[i + 1] := by
      have := ixn (s := L1) hkL
      rw [← this]; congr 1
     obtain ⟨b, L2, e4, e5⟩ := qxi hR1 hk hT ⟨hd.1, by omega⟩
     have e6 : (((i : Int) + 1)).toNat = i + 1 := by omega
     rw [e3, qAz, e6, e4, qAz]
     cases q6 : joinA (B1 (i + 1)) (d + (l - t)) (nxt x σ) with
     | none =>
      rw [q6] at e5
      have e5 : b = false := e5
      rw [e5, qA1 (by simp)]
      exact ⟨_, _, rfl, rfl⟩
     | some a =>
      rw [q6] at e5
      obtain ⟨e5, e7⟩ := e5
      rw [e5, qA0 (by simp)]
      simp only [Option.map_some, qAz]
      have := ih (by omega) (max (max g d) (d + (l - t))) L2 (updA B1 (i + 1) a) e7
      rw [h1]
      exact this
 ·have e : (decide (x.Op = 12) == decide (i + 1 = c.length)) = false := by
   by_cases w1 : x.Op = 12
   ·by_cases w2 : i + 1 = c.length
    ·exact absurd (by simp [w1, w2]) q2
    ·simp [w1, w2]
   ·by_cases w2 : i + 1 = c.length
    ·simp [w1, w2]
    ·exact absurd (by simp [w1, w2]) q2
  rw [qA1 (by rw [e]; simp)]
  exact fail (by simp [stA, he, hB, q2])
theorem qxl {c : List I} (hc : c.length ≤ 2048) (hS : ∀ x ∈ c, x.S.length ≤ 100000) : ∀ (m i : Nat) (g : Int) (L : List PS) (B : AB), i + (m + 1) = c.length → PR c.length L B → PG c i g L B
 | 0, i, g, L, B, hi, hR => qxk hc hS (by omega) hR fun h => by omega
 | m + 1, i, g, L, B, hi, hR => qxk hc hS (by omega) hR fun h g L B hR => qxl hc hS m (i + 1) g L B (by omega) hR
theorem qpu {c : List I} (hS : ∀ x ∈ c, x.S.length ≤ 100000) : ∃ G b, Jcm c = some (G, b) ∧ match depthOf c with
  | some G' => b = true ∧ G = G'
  | none => b = false := by
 unfold Jcm depthOf
 by_cases q : c.length < 1 ∨ c.length > 2048
 ·have e : (decide ((c.length : Int) < 1) || decide ((c.length : Int) > 2048)) = true := by
   simp only [Bool.or_eq_true, decide_eq_true_eq]; omega
  rw [qA1 e, qA1 q]
  exact ⟨_, _, rfl, rfl⟩
 ·have e : (decide ((c.length : Int) < 1) || decide ((c.length : Int) > 2048)) = false := by
   simp only [Bool.or_eq_false_iff, decide_eq_false_iff_not]; omega
  rw [qA0 (by rw [e]; simp), qA0 q]
  obtain ⟨m, hm⟩ : ∃ m, c.length = m + 1 := ⟨c.length - 1, by omega⟩
  have hz : ix (List.replicate (Int.toNat (c.length : Int)) ((⟨false, 0, (⟨0, 0, 0, 0, 0, 0, 0, 0⟩ : JaH)⟩ : Jm) : Jm)) 0 = some ⟨false, 0, ⟨0, 0, 0, 0, 0, 0, 0, 0⟩⟩ := by
   rw [Int.toNat_natCast, hm]; rfl
  rw [qaa (by simp only [lim]; omega), hz, qAz, qaa (by simp only [qau]; omega)]
  have hR : PR c.length ((List.replicate (Int.toNat (c.length : Int)) ((⟨false, 0, (⟨0, 0, 0, 0, 0, 0, 0, 0⟩ : JaH)⟩ : Jm) : Jm)).set ((0 : Int).toNat) ⟨true, 0, ⟨0, 0, 0, 0, 0, 0, 0, 0⟩⟩) B0 := by
   rw [Int.toNat_natCast]
   refine ⟨by simp, fun i s hs => ?_⟩
   rw [show ((0 : Int)).toNat = 0 from rfl] at hs
   unfold B0
   by_cases q0 : i = 0
   ·subst q0
    rw [List.getElem?_set_self (by simp; omega)] at hs
    cases hs
    refine ⟨rfl, fun d σ h => ?_⟩
    simp only [if_true] at h
    cases h
    refine ⟨rfl, by omega, by omega, ?_, fun n _ _ => ?_⟩
    ·have z : W64 0 := ⟨by decide, by decide⟩
     exact ⟨z, z, z, z, z, z, z, z⟩
    ·have : ∀ k, (wl ⟨0, 0, 0, 0, 0, 0, 0, 0⟩).getD k 0 = 0 := fun k => by
      match k with
      | 0 | 1 | 2 | 3 | 4 | 5 | 6 | 7 => rfl
      | k + 8 => simp [wl]
     unfold qk5
     rw [this]
     simp
   ·rw [List.getElem?_set_ne (fun e => q0 e.symm)] at hs
    have := List.mem_of_getElem? hs
    rw [List.mem_replicate] at this
    rw [this.2, qA0 q0]
    exact ⟨rfl, fun d σ h => by cases h⟩
  obtain ⟨G, b, h1, h2⟩ := qxl (by omega) hS m 0 0 _ B0 (by omega) hR
  rw [List.drop_zero] at h1 h2
  rw [h1, qAz, el_ret]
  exact ⟨G, b, rfl, h2⟩
theorem Check45_pure {c : List I} (hS : ∀ x ∈ c, x.S.length ≤ 100000) : Jca c = some (if (depthOf c).isSome = true then none else some 2) := by
 obtain ⟨G, b, h1, h2⟩ := qpu hS
 unfold Jca
 rw [h1, qAz]
 cases q : depthOf c with
 | none => rw [q] at h2; have h2 : b = false := h2; rw [h2]; rfl
 | some g => rw [q] at h2; rw [h2.1]; rfl
def Asc (l : List Int) : Prop := l.Pairwise (· < ·)
def wth (n : Int) : List Int → List Int
 | [] => [n]
 | e :: l => if n < e then n :: e :: l else if n = e then e :: l else e :: wth n l
theorem wth_mem {n m : Int} : ∀ {l : List Int}, m ∈ wth n l ↔ m = n ∨ m ∈ l
 | [] => by simp [wth]
 | e :: l => by
  rw [wth]
  split
  ·simp
  ·split
   ·rename_i h; subst h; simp
   ·rw [List.mem_cons, wth_mem, List.mem_cons]
    constructor
    ·rintro (h | h | h)
     ·exact .inr (.inl h)
     ·exact .inl h
     ·exact .inr (.inr h)
    ·rintro (h | h | h)
     ·exact .inr (.inl h)
     ·exact .inl h
     ·exact .inr (.inr h)
theorem qpv {n : Int} : ∀ {l : List Int}, Asc l → Asc (wth n l)
 | [], _ => by simp [wth, Asc]
 | e :: l, h => by
  obtain ⟨h1, h2⟩ := List.pairwise_cons.1 h
  rw [wth]
  split
  ·rename_i hn
   refine List.pairwise_cons.2 ⟨fun m hm => ?_, h⟩
   rcases List.mem_cons.1 hm with rfl | hm
   ·exact hn
   ·have := h1 m hm; omega
  ·split
   ·exact h
   ·refine List.pairwise_cons.2 ⟨fun m hm => ?_, qpv h2⟩
    rcases wth_mem.1 hm with rfl | hm
    ·omega
    ·exact h1 m hm
structure SL (l : List Int) (σ : Int → Bool) : Prop where
 asc : Asc l
 rng : ∀ n ∈ l, 0 ≤ n ∧ n ≤ 511
 mem : ∀ n : Int, 0 ≤ n → n ≤ 511 → (n ∈ l ↔ σ n = true)
theorem SL.both {a b : List Int} {σ τ : Int → Bool} (ha : SL a σ) (hb : SL b τ) : SL (a.filter (fun n => decide (n ∈ b))) (fun n => σ n && τ n) :=
 ⟨ha.asc.filter _, fun n hn => ha.rng n (List.mem_filter.1 hn).1, fun n h0 h1 => by
  rw [List.mem_filter, ha.mem n h0 h1, decide_eq_true_eq, hb.mem n h0 h1]; simp⟩
theorem SL.with {x : I} {l : List Int} {σ : Int → Bool} (h : SL l σ) (q : x.Op = 4) (hx : 0 ≤ x.N ∧ x.N ≤ 511) : SL (wth x.N l) (nxt x σ) :=
 ⟨qpv h.asc, fun n hn => by rcases wth_mem.1 hn with rfl | hn; exact hx; exact h.rng n hn, fun n h0 h1 => by
  unfold nxt
  rw [qA1 q, wth_mem, h.mem n h0 h1]; simp⟩
theorem qxm (e : Err) (w : Int) : Jdi e w = some (decide (e.getD 0 = w) && decide (w ≠ 0)) := by
 unfold Jdi
 rw [qpk, qAz]
abbrev St := Int → Bool
def cap (a b : St) : St := fun n => a n && b n
theorem qf9 (a : St) : cap a a = a := by funext n; simp [cap]
theorem qr9 (a b : St) : cap a b = cap b a := by funext n; simp [cap, Bool.and_comm]
theorem qpw (a b c : St) : cap (cap a b) c = cap a (cap b c) := by funext n; simp [cap, Bool.and_assoc]
theorem qd4 {b a : AS} {d : Int} {σ τ : St} (h : joinA b d σ = some a) : joinA a d τ = joinA b d (cap σ τ) := by
 cases b with
 | none => cases h; simp only [joinA, if_true]; rfl
 | some p =>
  obtain ⟨d0, σ0⟩ := p
  unfold joinA at h
  simp only at h
  split at h
  ·rename_i q
   subst q
   cases h
   simp only [joinA, if_true]
   exact congrArg some (congrArg some (Prod.ext rfl (qpw σ0 σ τ)))
  ·cases h
theorem qga {b : AS} {d : Int} (h : ∀ e, b = some e → e.1 = d) (σ : St) : ∃ τ, joinA b d σ = some (some (d, τ)) ∧ (b = none → τ = σ) := by
 cases b with
 | none => exact ⟨σ, rfl, fun _ => rfl⟩
 | some p =>
  obtain ⟨d0, σ0⟩ := p
  have := h _ rfl
  simp only at this
  subst this
  exact ⟨cap σ0 σ, by simp only [joinA, if_true]; rfl, fun e => by cases e⟩
def Sg1 (len b : Nat) (L : List I) (d δ : Int) (σ : St) (Q : St → Prop) : Prop :=
 ∀ (B : AB) (g : Int), B b = some (d, σ) → (∀ j, b < j → j < b + L.length → B j = none) → (∀ e, B (b + L.length) = some e → e.1 = d + δ) →
  ∃ σ' B' g', Q σ' ∧ (∀ R, wk len b (L ++ R) B g = wk len (b + L.length) R B' g') ∧ joinA (B (b + L.length)) (d + δ) σ' = some (B' (b + L.length)) ∧ ∀ j, b + L.length < j → B' j = B j
def Seg (len b : Nat) (L : List I) (d δ : Int) (σ : St) (Q : St → Prop) : Prop := (L = [] ∧ δ = 0 ∧ Q σ) ∨ (L ≠ [] ∧ Sg1 len b L d δ σ Q)
theorem Seg.mono {len b : Nat} {L : List I} {d δ : Int} {σ : St} {Q R : St → Prop} (h : Seg len b L d δ σ Q) (hq : ∀ τ, Q τ → R τ) : Seg len b L d δ σ R := by
 rcases h with ⟨h1, h2, h3⟩ | ⟨h1, h2⟩
 ·exact .inl ⟨h1, h2, hq _ h3⟩
 ·exact .inr ⟨h1, fun B g a b c => by obtain ⟨σ', B', g', k, r⟩ := h2 B g a b c; exact ⟨σ', B', g', hq _ k, r⟩⟩
theorem Seg.run {len b : Nat} {L : List I} {d δ : Int} {σ : St} {Q : St → Prop} (h : Seg len b L d δ σ Q) {B : AB} {g : Int} (hB : B b = some (d, σ)) (hn : ∀ j, b < j → j ≤ b + L.length → B j = none) :
  ∃ σ' B' g', Q σ' ∧ (∀ R, wk len b (L ++ R) B g = wk len (b + L.length) R B' g') ∧ B' (b + L.length) = some (d + δ, σ') ∧ ∀ j, b + L.length < j → B' j = B j := by
 rcases h with ⟨rfl, rfl, h3⟩ | ⟨h1, h2⟩
 ·exact ⟨σ, B, g, h3, fun R => rfl, by simpa using hB, fun j _ => rfl⟩
 ·have hl : 0 < L.length := List.length_pos_iff.2 h1
  have he : B (b + L.length) = none := hn _ (by omega) (Nat.le_refl _)
  obtain ⟨σ', B', g', k1, k2, k3, k4⟩ := h2 B g hB (fun j a b => hn j a (by omega)) fun e h => by rw [he] at h; cases h
  rw [he] at k3
  exact ⟨σ', B', g', k1, k2, (Option.some.inj k3).symm, k4⟩
theorem Seg.append {len b : Nat} {L M : List I} {d δ ε : Int} {σ : St} {Q R : St → Prop} (h : Seg len b L d δ σ Q) (h2 : ∀ τ, Q τ → Seg len (b + L.length) M (d + δ) ε τ R) (hM : M ≠ []) : Seg len b (L ++ M) d (δ + ε) σ R := by
 have hm : 0 < M.length := List.length_pos_iff.2 hM
 refine .inr ⟨by simp [hM], fun B g a1 a2 a3 => ?_⟩
 simp only [List.length_append] at a2 a3 ⊢
 obtain ⟨τ, B1, g1, q1, q2, q3, q4⟩ := h.run a1 fun j x y => a2 j x (by omega)
 rcases h2 τ q1 with ⟨e, _⟩ | ⟨_, k⟩
 ·exact absurd e hM
 ·rw [show b + (L.length + M.length) = b + L.length + M.length by omega] at a3 ⊢
  have e1 : B1 (b + L.length + M.length) = B (b + L.length + M.length) := q4 _ (by omega)
  obtain ⟨τ', B2, g2, p1, p2, p3, p4⟩ := k B1 g1 q3 (fun j x y => by rw [q4 j (by omega)]; exact a2 j (by omega) (by omega)) fun e h => by rw [e1] at h; rw [a3 e h]; omega
  refine ⟨τ', B2, g2, p1, fun R => by rw [List.append_assoc, q2, p2], ?_, fun j hj => by rw [p4 j hj, q4 j (by omega)]⟩
  rw [← p3, e1, show d + (δ + ε) = d + δ + ε by omega]
theorem Seg.one {len b : Nat} {x : I} {d t l : Int} {σ : St} (he : eff x = some (t, l)) (ht : t ≤ d) (hj : isJ x = false) (h12 : x.Op ≠ 12) (h3 : x.Op = 3 → σ x.N = true) (hb : b + 1 < len) : Seg len b [x] d (l - t) σ (fun τ => τ = nxt x σ) := by
 refine .inr ⟨by simp, fun B g a1 a2 a3 => ?_⟩
 simp only [List.length_cons, List.length_nil, Nat.zero_add] at a2 a3 ⊢
 obtain ⟨τ, ha, _⟩ := qga a3 (nxt x σ)
 refine ⟨nxt x σ, updA B (b + 1) (some (d + (l - t), τ)), max (max g d) (d + (l - t)), rfl, fun R => ?_, ?_, fun j hj => ?_⟩
 ·have h9 : x.Op ≠ 9 := by unfold isJ at hj; simp at hj; exact hj.1
  rw [List.cons_append, List.nil_append, wk_cons]
  unfold stA
  rw [he, a1]
  simp only
  have hno : ¬ (d < t ∨ ¬ ((x.Op = 12) ↔ (b + 1 = len)) ∨ (x.Op = 3 ∧ σ x.N = false)) := by
   intro h
   rcases h with h | h | h
   ·omega
   ·exact h ⟨fun q => absurd q h12, fun q => by omega⟩
   ·have := h3 h.1
    rw [h.2] at this
    cases this
  rw [qA0 hno, qA0 h12]
  unfold far near
  rw [qA0 (by simp [hj]), qAz, qA0 h9, ha]
  rfl
 ·rw [ha]; unfold updA; rw [qA1 rfl]
 ·unfold updA; rw [qA0 (by omega)]
theorem qtm {n : Int} : eff ⟨10, n, []⟩ = some (1, 0) := by simp [eff]
theorem qzh {n : Int} : eff ⟨9, n, []⟩ = some (0, 0) := by simp [eff]
theorem Seg.if2 {len b : Nat} {T : List I} {d : Int} {σ : St} {Q R : St → Prop} (hd : 1 ≤ d) (hT : Seg len (b + 1) T (d - 1) 0 σ Q) (hb : b + 1 + T.length < len) (hR : ∀ τ, Q τ → R (cap σ τ)) : Seg len b (⟨10, (b + 1 + T.length : Nat), []⟩ :: T) d (-1) σ R := by
 refine .inr ⟨by simp, fun B g a1 a2 a3 => ?_⟩
 simp only [List.length_cons] at a2 a3 ⊢
 rw [show b + (T.length + 1) = b + 1 + T.length by omega] at a2 a3 ⊢
 have a3' : ∀ e, B (b + 1 + T.length) = some e → e.1 = d - 1 := fun e h => by rw [a3 e h]; omega
 obtain ⟨τ, ha, _⟩ := qga a3' σ
 have st : ∀ B2, near b ⟨10, (b + 1 + T.length : Nat), []⟩ (updA B (b + 1 + T.length) (some (d - 1, τ))) (d - 1) σ = some B2 → ∀ R', wk len b ((⟨10, (b + 1 + T.length : Nat), []⟩ : I) :: R') B g = wk len (b + 1) R' B2 (max (max g d) (d - 1)) := fun B2 h R' => by
  rw [wk_cons]
  unfold stA
  rw [qtm, a1]
  simp only
  rw [qA0 (by simp; omega), qA0 (by simp)]
  unfold far
  rw [show isJ (⟨10, ((b + 1 + T.length : Nat) : Int), []⟩ : I) = true from rfl, qA1 rfl, qA0 (by simp only; omega)]
  simp only [Int.toNat_natCast]
  rw [show d + (0 - 1) = d - 1 by omega, show nxt (⟨10, ((b + 1 + T.length : Nat) : Int), []⟩ : I) σ = σ from by unfold nxt; simp, ha]
  simp only [Option.map_some, qAz]
  rw [h]
  simp
 rcases hT with ⟨rfl, _, hq⟩ | ⟨hT, hk⟩
 ·simp only [List.length_nil, Nat.add_zero] at a3 a3' ha st ⊢
  have ha2 : joinA (some (d - 1, τ)) (d - 1) σ = some (some (d - 1, cap τ σ)) := by simp only [joinA, if_true]; rfl
  refine ⟨σ, _, _, by have := hR _ hq; rwa [qf9] at this, fun R' => st (updA (updA B (b + 1) (some (d - 1, τ))) (b + 1) (some (d - 1, cap τ σ))) ?_ R', ?_, fun j hj => ?_⟩
  ·unfold near
   rw [qA0 (by simp), show updA B (b + 1) (some (d - 1, τ)) (b + 1) = some (d - 1, τ) from qA1 rfl, ha2]; rfl
  ·rw [show d + -1 = d - 1 by omega, show updA (updA B (b + 1) (some (d - 1, τ))) (b + 1) (some (d - 1, cap τ σ)) (b + 1) = some (d - 1, cap τ σ) from qA1 rfl, ← ha2, qd4 ha, qf9]
  ·unfold updA; rw [qA0 (by omega), qA0 (by omega)]
 ·have hl : 0 < T.length := List.length_pos_iff.2 hT
  have hnear : near b ⟨10, (b + 1 + T.length : Nat), []⟩ (updA B (b + 1 + T.length) (some (d - 1, τ))) (d - 1) σ = some (updA (updA B (b + 1 + T.length) (some (d - 1, τ))) (b + 1) (some (d - 1, σ))) := by
   unfold near
   rw [qA0 (by simp), show updA B (b + 1 + T.length) (some (d - 1, τ)) (b + 1) = none from by unfold updA; rw [qA0 (by omega)]; exact a2 _ (by omega) (by omega)]
   rfl
  obtain ⟨σ', B', g', k1, k2, k3, k4⟩ := hk (updA (updA B (b + 1 + T.length) (some (d - 1, τ))) (b + 1) (some (d - 1, σ))) (max (max g d) (d - 1)) (qA1 rfl)
   (fun j x y => by unfold updA; rw [qA0 (by omega), qA0 (by omega)]; exact a2 j (by omega) (by omega))
   (fun e h => by unfold updA at h; rw [qA0 (by omega), qA1 rfl] at h; cases h; simp)
  refine ⟨cap σ σ', B', g', hR _ k1, fun R' => by rw [List.cons_append, st _ hnear, k2], ?_, fun j hj => ?_⟩
  ·rw [show updA (updA B (b + 1 + T.length) (some (d - 1, τ))) (b + 1) (some (d - 1, σ)) (b + 1 + T.length) = some (d - 1, τ) from by unfold updA; rw [qA0 (by omega), qA1 rfl], show d - 1 + 0 = d - 1 by omega] at k3
   rw [← k3, qd4 ha, show d + -1 = d - 1 by omega]
  ·rw [k4 j hj]; unfold updA; rw [qA0 (by omega), qA0 (by omega)]
theorem Seg.if3 {len b : Nat} {T O : List I} {d δ : Int} {σ : St} {Q P R : St → Prop} (hd : 1 ≤ d) (hdB : 1 ≤ d + δ) (hT : Seg len (b + 1) T (d - 1) δ σ Q) (hO : Seg len (b + 1 + T.length + 1) O (d - 1) δ σ P) (hb : b + 1 + T.length + 1 + O.length < len) (hR : ∀ τ υ, Q τ → P υ → R (cap τ υ)) :
  Seg len b (⟨10, (b + 1 + T.length + 1 : Nat), []⟩ :: (T ++ ⟨9, (b + 1 + T.length + 1 + O.length : Nat), []⟩ :: O)) d (δ - 1) σ R := by
 refine .inr ⟨by simp, fun B g a1 a2 a3 => ?_⟩
 simp only [List.length_cons, List.length_append] at a2 a3 ⊢
 rw [show b + (T.length + (O.length + 1) + 1) = b + 1 + T.length + 1 + O.length by omega] at a2 a3 ⊢
 have a3' : ∀ e, B (b + 1 + T.length + 1 + O.length) = some e → e.1 = d - 1 + δ := fun e h => by rw [a3 e h]; omega
 have hq : ∀ e, B (b + 1 + T.length + 1) = some e → e.1 = d - 1 := fun e h => by
  rcases hO with ⟨rfl, e0, _⟩ | ⟨hO, _⟩
  ·rw [a3' e h]; omega
  ·have hl : 0 < O.length := List.length_pos_iff.2 hO
   rw [a2 _ (by omega) (by omega)] at h; cases h
 obtain ⟨τ, ha, hτ⟩ := qga hq σ
 have st : ∀ R', wk len b ((⟨10, (b + 1 + T.length + 1 : Nat), []⟩ : I) :: R') B g = wk len (b + 1) R' (updA (updA B (b + 1 + T.length + 1) (some (d - 1, τ))) (b + 1) (some (d - 1, σ))) (max (max g d) (d - 1)) := fun R' => by
  rw [wk_cons]
  unfold stA
  rw [qtm, a1]
  simp only
  rw [qA0 (by simp; omega), qA0 (by simp)]
  unfold far
  rw [show isJ (⟨10, ((b + 1 + T.length + 1 : Nat) : Int), []⟩ : I) = true from rfl, qA1 rfl, qA0 (by simp only; omega)]
  simp only [Int.toNat_natCast]
  rw [show d + (0 - 1) = d - 1 by omega, show nxt (⟨10, ((b + 1 + T.length + 1 : Nat) : Int), []⟩ : I) σ = σ from by unfold nxt; simp, ha]
  simp only [Option.map_some, qAz]
  unfold near
  rw [qA0 (by simp), show updA B (b + 1 + T.length + 1) (some (d - 1, τ)) (b + 1) = none from by unfold updA; rw [qA0 (by omega)]; exact a2 _ (by omega) (by omega)]
  simp [joinA]
 generalize hB2 : updA (updA B (b + 1 + T.length + 1) (some (d - 1, τ))) (b + 1) (some (d - 1, σ)) = B2 at st
 generalize max (max g d) (d - 1) = g2 at st
 have b1 : B2 (b + 1) = some (d - 1, σ) := by rw [← hB2]; exact qA1 rfl
 have b2 : B2 (b + 1 + T.length + 1) = some (d - 1, τ) := by rw [← hB2]; unfold updA; rw [qA0 (by omega), qA1 rfl]
 have b3 : ∀ j, b + 1 < j → j ≠ b + 1 + T.length + 1 → B2 j = B j := fun j x y => by rw [← hB2]; unfold updA; rw [qA0 (by omega), qA0 y]
 obtain ⟨σT, B3, g3, q1, q2, q3, q4⟩ := hT.run (g := g2) b1 fun j x y => by rw [b3 j x (by omega)]; exact a2 j (by omega) (by omega)
 have a4 : ∀ e, B3 (b + 1 + T.length + 1 + O.length) = some e → e.1 = d - 1 + δ := fun e h => by
  rw [q4 _ (by omega)] at h
  rcases hO with ⟨rfl, e0, _⟩ | ⟨hO, _⟩
  ·simp only [List.length_nil, Nat.add_zero] at h
   rw [b2] at h
   cases h
   simp only
   omega
  ·have hl : 0 < O.length := List.length_pos_iff.2 hO
   rw [b3 _ (by omega) (by omega)] at h
   exact a3' e h
 obtain ⟨υ, hu, _⟩ := qga a4 σT
 have st2 : ∀ R', wk len (b + 1 + T.length) ((⟨9, (b + 1 + T.length + 1 + O.length : Nat), []⟩ : I) :: R') B3 g3 = wk len (b + 1 + T.length + 1) R' (updA B3 (b + 1 + T.length + 1 + O.length) (some (d - 1 + δ, υ))) (max (max g3 (d - 1 + δ)) (d - 1 + δ)) := fun R' => by
  rw [wk_cons]
  unfold stA
  rw [qzh, q3]
  simp only
  rw [qA0 (by simp; omega), qA0 (by simp)]
  unfold far
  rw [show isJ (⟨9, ((b + 1 + T.length + 1 + O.length : Nat) : Int), []⟩ : I) = true from rfl, qA1 rfl, qA0 (by simp only; omega)]
  simp only [Int.toNat_natCast]
  rw [show d - 1 + δ + (0 - 0) = d - 1 + δ by omega, show nxt (⟨9, ((b + 1 + T.length + 1 + O.length : Nat) : Int), []⟩ : I) σT = σT from by unfold nxt; simp, hu]
  simp only [Option.map_some, qAz]
  unfold near
  rw [qA1 (by simp)]
  rfl
 generalize hB4 : updA B3 (b + 1 + T.length + 1 + O.length) (some (d - 1 + δ, υ)) = B4 at st2
 generalize max (max g3 (d - 1 + δ)) (d - 1 + δ) = g4 at st2
 have c1 : B4 (b + 1 + T.length + 1 + O.length) = some (d - 1 + δ, υ) := by rw [← hB4]; exact qA1 rfl
 have c2 : ∀ j, b + 1 + T.length < j → j ≠ b + 1 + T.length + 1 + O.length → B4 j = B2 j := fun j x y => by rw [← hB4]; unfold updA; rw [qA0 y, q4 j x]
 have run : ∀ R', wk len b ((⟨10, (b + 1 + T.length + 1 : Nat), []⟩ : I) :: (T ++ ⟨9, (b + 1 + T.length + 1 + O.length : Nat), []⟩ :: O) ++ R') B g = wk len (b + 1 + T.length + 1) (O ++ R') B4 g4 := fun R' => by
  rw [List.cons_append, st, List.append_assoc, q2, List.cons_append, st2]
 rcases hO with ⟨rfl, rfl, hp⟩ | ⟨hO, hk⟩
 ·simp only [List.length_nil, Nat.add_zero] at *
  rw [q4 _ (by omega), b2] at hu
  rw [show d - 1 + 0 = d - 1 by omega] at hu c1
  refine ⟨cap σT σ, B4, g4, hR _ _ q1 hp, fun R' => run R', ?_, fun j hj => by rw [c2 j (by omega) (by omega), b3 j (by omega) (by omega)]⟩
  rw [c1, qr9, show d + (0 - 1) = d - 1 by omega, ← qd4 ha, hu]
 ·have hl : 0 < O.length := List.length_pos_iff.2 hO
  rw [q4 _ (by omega), b3 _ (by omega) (by omega)] at hu
  have hn : B (b + 1 + T.length + 1) = none := a2 _ (by omega) (by omega)
  have hτ := hτ hn
  subst hτ
  obtain ⟨σO, B5, g5, k1, k2, k3, k4⟩ := hk B4 g4 (by rw [c2 _ (by omega) (by omega)]; exact b2) (fun j x y => by rw [c2 j (by omega) (by omega), b3 j (by omega) (by omega)]; exact a2 j (by omega) (by omega)) fun e h => by rw [c1] at h; cases h; rfl
  refine ⟨cap σT σO, B5, g5, hR _ _ q1 k1, fun R' => by rw [run, k2], ?_, fun j hj => by rw [k4 j hj, c2 j (by omega) (by omega), b3 j (by omega) (by omega)]⟩
  rw [c1] at k3
  rw [← k3, show d + (δ - 1) = d - 1 + δ by omega, qd4 hu]
def Rel (ρ : Env) (s : Sg) (σ : St) : Prop := (∀ q k, s q = some k → 0 ≤ k ∧ k ≤ 511 ∧ σ k = true) ∧ ∀ q, s q = none → ρ q ≠ 0 → q ∈ Jad
theorem Rel.mono {ρ : Env} {s : Sg} {σ τ : St} (h : Rel ρ s σ) (hs : ∀ n, σ n = true → τ n = true) : Rel ρ s τ :=
 ⟨fun q k e => by obtain ⟨a, b, c⟩ := h.1 q k e; exact ⟨a, b, hs _ c⟩, h.2⟩
theorem qu8 {s : Str} (h : base s ≠ 0) : s ∈ Jad := by
 unfold base pre at h
 split at h
 ·rename_i q
  unfold Jad
  simp only [Bool.or_eq_true, decide_eq_true_eq] at q
  rcases q with ((q | q) | q) | q <;> subst q <;> simp
 ·exact absurd rfl h
theorem Rel.nil : Rel Rt.base (fun _ => none) (fun _ => false) := ⟨fun q k e => (by cases e), fun q _ h => qu8 h⟩
theorem qu9 {s : Str} (h : cmp s = true) : s ∈ Jaa := by
 unfold cmp at h
 unfold Jaa
 simp only [Bool.or_eq_true, decide_eq_true_eq] at h
 rcases h with q | q | q | q | q | q | q <;> subst q <;> simp
theorem qxn {s : Str} (h : nmr s = true) : 0 ≤ num s ∧ num s ≤ 999999999 := by
 obtain ⟨h1, h2, h3⟩ := nmr_all h
 have go : ∀ (t : Str) (a : Int), t.all isD = true → 0 ≤ a → 0 ≤ t.foldl (fun n c => 10 * n + ((c.toNat : Int) - 48)) a ∧ t.foldl (fun n c => 10 * n + ((c.toNat : Int) - 48)) a + 1 ≤ (a + 1) * 10 ^ t.length := by
  intro t
  induction t with
  | nil => intro a _ ha; simp [ha]
  | cons c t ih =>
   intro a hc ha
   simp only [List.all_cons, Bool.and_eq_true] at hc
   have hd := hc.1
   simp only [isD, Bool.and_eq_true, decide_eq_true_eq] at hd
   rw [List.foldl_cons, List.length_cons]
   obtain ⟨g1, g2⟩ := ih (10 * a + ((c.toNat : Int) - 48)) hc.2 (by omega)
   refine ⟨g1, Int.le_trans g2 ?_⟩
   rw [Int.pow_succ, Int.mul_comm (10 ^ t.length) 10, ← Int.mul_assoc]
   exact Int.mul_le_mul_of_nonneg_right (by omega) (Int.le_of_lt (Int.pow_pos (by omega)))
 obtain ⟨g1, g2⟩ := go s 0 h1 (by omega)
 refine ⟨g1, ?_⟩
 unfold num
 have : s.length = 1 ∨ s.length = 2 ∨ s.length = 3 ∨ s.length = 4 ∨ s.length = 5 ∨ s.length = 6 ∨ s.length = 7 ∨ s.length = 8 ∨ s.length = 9 := by omega
 rcases this with e | e | e | e | e | e | e | e | e <;> rw [e] at g2 <;> omega
theorem qxo {x : I} {σ : St} (h : x.Op ≠ 4) : nxt x σ = σ := by unfold nxt; rw [qA0 h]
theorem Seg.one' {len b : Nat} {x : I} {d t l δ : Int} {σ : St} (he : eff x = some (t, l)) (ht : t ≤ d) (hj : isJ x = false) (h12 : x.Op ≠ 12) (h4 : x.Op ≠ 4) (h3 : x.Op = 3 → σ x.N = true) (hb : b + 1 < len) (hδ : δ = l - t) : Seg len b [x] d δ σ (fun τ => τ = σ) := by
 subst hδ
 have := Seg.one he ht hj h12 h3 hb
 rwa [qxo h4] at this
theorem qpx {len b : Nat} {d : Int} {σ : St} (v : Bool) (hd : 0 ≤ d) (hb : b + 3 < len) : Seg len b (tr v) d 1 σ (fun τ => τ = σ) := by
 have e1 : eff ⟨1, 0, []⟩ = some (0, 1) := by simp [eff]
 have e2 : eff ⟨1, if v then 0 else 1, []⟩ = some (0, 1) := by cases v <;> simp [eff]
 have e3 : eff ⟨7, 0, [61, 61]⟩ = some (2, 1) := by simp [eff, Jaa]
 have h1 : Seg len b [⟨1, 0, []⟩] d 1 σ (fun τ => τ = σ) := Seg.one' e1 (by omega) rfl (by simp) (by simp) (by simp) (by omega) (by omega)
 have h2 : Seg len (b + 1) [⟨1, if v then 0 else 1, []⟩] (d + 1) 1 σ (fun τ => τ = σ) := Seg.one' e2 (by omega) rfl (by simp) (by simp) (by simp) (by omega) (by omega)
 have h3 : Seg len (b + 2) [⟨7, 0, [61, 61]⟩] (d + 2) (-1) σ (fun τ => τ = σ) := Seg.one' e3 (by omega) rfl (by simp) (by simp) (by simp) (by omega) (by omega)
 have h12 := Seg.append h1 (fun τ e => by subst e; exact h2) (by simp)
 have h123 := Seg.append h12 (fun τ e => by subst e; rw [show d + (1 + 1) = d + 2 by omega]; exact h3) (by simp)
 exact h123
theorem qdi {len : Nat} {ρ : Env} {s : Sg} {σ : St} (hr : Rel ρ s σ) : ∀ (n b : Nat) (x : M) (d : Int), XE ρ n x → 0 ≤ d → b + (cE n s b x).length < len → Seg len b (cE n s b x) d 1 σ (fun τ => τ = σ)
 | 0, _, _, _, h, _, _ => h.elim
 | n + 1, b, x, d, ⟨hx, h⟩, hd, hb => by
  rcases h with ⟨q, hn, _⟩ | ⟨q, hp, _⟩ | ⟨q, _⟩ | ⟨q, hn, _⟩ | ⟨q, k, hk, hxk⟩ | ⟨q, k, l, hk, hxk, hxl⟩
  ·rw [cE_20 q] at hb ⊢
   obtain ⟨n0, n1⟩ := qxn hn
   exact Seg.one' (t := 0) (l := 1) (by simp [eff, n0, n1]) hd rfl (by simp) (by simp) (by simp) hb (by omega)
  ·rw [cE_21 q] at hb ⊢
   exact Seg.one' (t := 0) (l := 1) (by simp [eff, hp]) hd rfl (by simp) (by simp) (by simp) hb (by omega)
  ·rw [cE_22 q] at hb ⊢
   exact qpx _ hd (by simpa [tr_len] using hb)
  ·rw [cE_23 q] at hb ⊢
   unfold nmI at hb ⊢
   cases e : s x.Ac with
   | some k =>
    rw [e] at hb
    obtain ⟨k0, k1, k2⟩ := hr.1 _ _ e
    exact Seg.one' (t := 0) (l := 1) (by simp [eff, k0, k1]) hd rfl (by simp) (by simp) (fun _ => k2) hb (by omega)
   | none =>
    rw [e] at hb
    have := hr.2 _ e hn
    exact Seg.one' (t := 0) (l := 1) (by simp [eff, this]) hd rfl (by simp) (by simp) (by simp) hb (by omega)
  ·rcases q with ⟨q, hf⟩ | q
   ·rw [cE_24 q hk] at hb ⊢
    simp only [List.length_append, List.length_cons, List.length_nil] at hb
    have h1 := qdi (len := len) hr n b k d hxk hd (by omega)
    have hm := (qxh x.Ac).2.1 hf
    have := Seg.append h1 (M := [⟨6, 0, x.Ac⟩]) (ε := 0) (R := fun τ => τ = σ) (fun τ e => by subst e; exact Seg.one' (t := 1) (l := 1) (by simp [eff, hm]) (by omega) rfl (by simp) (by simp) (by simp) (by omega) (by omega)) (by simp)
    rwa [show (1 : Int) + 0 = 1 by omega] at this
   ·rw [cE_15 q hk] at hb ⊢
    simp only [List.length_append, List.length_cons, List.length_nil] at hb
    have h1 := qdi (len := len) hr n b k d hxk hd (by omega)
    have := Seg.append h1 (M := [⟨8, 0, []⟩]) (ε := 0) (R := fun τ => τ = σ) (fun τ e => by subst e; exact Seg.one' (t := 1) (l := 1) (by simp [eff]) (by omega) rfl (by simp) (by simp) (by simp) (by omega) (by omega)) (by simp)
    rwa [show (1 : Int) + 0 = 1 by omega] at this
  ·by_cases q14 : x.Ab = 14
   ·rw [cE_14 q14 hk] at hb ⊢
    simp only [List.length_append, List.length_cons, tr_len] at hb
    have h1 := qdi (len := len) hr n b k d hxk hd (by omega)
    have h2 := qdi (len := len) hr n (b + (cE n s b k).length + 1) l d hxl hd (by omega)
    have h3 := qpx (len := len) (b := b + (cE n s b k).length + 1 + (cE n s (b + (cE n s b k).length + 1) l).length + 1) (d := d) (σ := σ) false hd (by omega)
    have e1 : d + 1 - 1 = d := by omega
    have h4 := Seg.if3 (len := len) (b := b + (cE n s b k).length) (d := d + 1) (δ := 1) (Q := fun τ => τ = σ) (P := fun τ => τ = σ) (R := fun τ => τ = σ) (T := cE n s (b + (cE n s b k).length + 1) l) (O := tr false) (by omega) (by omega) (by rw [e1]; exact h2) (by rw [e1]; exact h3) (by rw [tr_len]; omega) (fun τ υ e1 e2 => by subst e1 e2; exact qf9 _)
    rw [tr_len] at h4
    have := Seg.append h1 (fun τ e => by subst e; exact h4) (by simp)
    exact this
   ·by_cases q13 : x.Ab = 13
    ·rw [cE_13 q13 hk] at hb ⊢
     simp only [List.length_append, List.length_cons, tr_len] at hb
     have h1 := qdi (len := len) hr n b k d hxk hd (by omega)
     have h2 := qdi (len := len) hr n (b + (cE n s b k).length + 5) l d hxl hd (by omega)
     have h3 := qpx (len := len) (b := b + (cE n s b k).length + 1) (d := d) (σ := σ) true hd (by omega)
     have e1 : d + 1 - 1 = d := by omega
     have h4 := Seg.if3 (len := len) (b := b + (cE n s b k).length) (d := d + 1) (δ := 1) (Q := fun τ => τ = σ) (P := fun τ => τ = σ) (R := fun τ => τ = σ) (T := tr true) (O := cE n s (b + (cE n s b k).length + 5) l) (by omega) (by omega) (by rw [e1]; exact h3) (by rw [e1, tr_len]; exact h2) (by rw [tr_len]; omega) (fun τ υ e1 e2 => by subst e1 e2; exact qf9 _)
     rw [tr_len] at h4
     have := Seg.append h1 (fun τ e => by subst e; exact h4) (by simp)
     exact this
    ·rw [cE_op (by omega) hk] at hb ⊢
     simp only [List.length_append, List.length_cons, List.length_nil] at hb
     have h1 := qdi (len := len) hr n b k d hxk hd (by omega)
     have h2 := qdi (len := len) hr n (b + (cE n s b k).length) l (d + 1) hxl (by omega) (by omega)
     have hm : opw x ∈ Jaa := by
      unfold opw
      by_cases q17 : x.Ab = 17
      ·rw [qA1 q17]; simp [Jaa]
      by_cases q18 : x.Ab = 18
      ·rw [qA0 q17, qA1 q18]; simp [Jaa]
      by_cases q19 : x.Ab = 19
      ·rw [qA0 q17, qA0 q18, qA1 q19]; simp [Jaa]
      rw [qA0 q17, qA0 q18, qA0 q19]
      rcases q with q | q | q | q | q | q
      ·exact absurd q q13
      ·exact absurd q q14
      ·exact absurd q q17
      ·exact absurd q q18
      ·exact absurd q q19
      ·exact qu9 q.2
     have h3 := Seg.append h2 (M := [⟨7, 0, opw x⟩]) (ε := -1) (R := fun τ => τ = σ) (fun τ e => by subst e; exact Seg.one' (t := 2) (l := 1) (by simp [eff, hm]) (by omega) rfl (by simp) (by simp) (by simp) (by omega) (by omega)) (by simp)
     have := Seg.append h1 (fun τ e => by subst e; exact h3) (by simp)
     rwa [show (1 : Int) + (1 + -1) = 1 by omega] at this
theorem qtn (p s : Str) : hp (p ++ s) p = true := by simp [hp]
theorem acs_eff {x : M} (h : SF x) (h2 : x.Ab ≠ 2) (h3 : x.Ab ≠ 3) : ∃ w, acs x = [⟨11, 0, w⟩] ∧ eff ⟨11, 0, w⟩ = some ((x.Aa.length : Int), 0) := by
 have go : ∀ w k, acw x = some w → actK w = some k → k = (x.Aa.length : Int) → ∃ w, acs x = [⟨11, 0, w⟩] ∧ eff ⟨11, 0, w⟩ = some ((x.Aa.length : Int), 0) := fun w k h1 h2 h3 => by
  subst h3
  refine ⟨w, by unfold acs; rw [h1], ?_⟩
  simp [eff, h2]
 rcases h with q | ⟨q, _⟩ | ⟨q, l, t⟩ | ⟨q, l, t⟩ | ⟨q, l, t⟩ | ⟨q, l⟩ | ⟨q, l⟩
 ·exact absurd q h2
 ·exact absurd q h3
 ·rcases t with t | t
  ·exact go _ 1 (by unfold acw; rw [qA1 q, t]) (by decide) (by rw [l]; rfl)
  ·exact go _ 1 (by unfold acw; rw [qA1 q, t]) (by decide) (by rw [l]; rfl)
 ·refine go (sHeader ++ x.Ac) 1 (by unfold acw; rw [qA0 (by omega), qA1 q]; rfl) ?_ (by rw [l]; rfl)
  have h0 := qtn sHeader x.Ac
  unfold actK
  rw [qA0 (fun m => ?_), qA0 (qjv h0), qA1 h0, qfl, t, qA1 (by decide)]
  ·revert m
   unfold acts1 sHeader
   simp
 ·refine go (sVary ++ x.Ac) 0 (by unfold acw; rw [qA0 (by omega), qA0 (by omega), qA1 q]; rfl) ?_ (by rw [l]; rfl)
  have h0 := qtn sVary x.Ac
  have h1 := hdvary _ h0
  unfold actK
  rw [qA0 (qxg h0), qA0 (fun m => ?_), qA0 (by rw [h1]; simp), h0, qfl, t, qA1 (by decide)]
  ·revert m
   unfold acts0 sVary
   simp
 ·rcases q with q | q | q
  ·exact go [116, 97, 103] 1 (by unfold acw; rw [qA0 (by omega), qA0 (by omega), qA0 (by omega), qA1 q]) (by decide) (by rw [l]; rfl)
  ·exact go [116, 116, 108] 1 (by unfold acw; rw [qA0 (by omega), qA0 (by omega), qA0 (by omega), qA0 (by omega), qA1 q]) (by decide) (by rw [l]; rfl)
  ·exact go [100, 101, 110, 121] 1 (by unfold acw; rw [qA0 (by omega), qA0 (by omega), qA0 (by omega), qA0 (by omega), qA0 (by omega), qA1 q]) (by decide) (by rw [l]; rfl)
 ·rcases q with q | q
  ·exact go [112, 97, 115, 115] 0 (by unfold acw; rw [qA0 (by omega), qA0 (by omega), qA0 (by omega), qA0 (by omega), qA0 (by omega), qA0 (by omega), qA1 q]) (by decide) (by rw [l]; rfl)
  ·exact go [116, 111, 107, 101, 110] 0 (by unfold acw; rw [qA0 (by omega), qA0 (by omega), qA0 (by omega), qA0 (by omega), qA0 (by omega), qA0 (by omega), qA0 (by omega), qA1 q]) (by decide) (by rw [l]; rfl)
def Up (σ τ : St) : Prop := ∀ m, σ m = true → τ m = true
def ES (len n : Nat) (x : M) : Prop := ∀ (ρ ρ' : Env) (s : Sg) (σ : St) (z : Int) (b : Nat), stm n ρ x = .ok ρ' → Rel ρ s σ → 0 ≤ z → (cS n s z b x).2.1 ≤ 512 → b + (cS n s z b x).1.length < len →
 Seg len b (cS n s z b x).1 0 0 σ (fun τ => Up σ τ ∧ Rel ρ' (cS n s z b x).2.2 τ)
def NE (n : Nat) (x : M) : Prop := ∀ (s : Sg) (z : Int) (b : Nat), (cS n s z b x).1 ≠ []
theorem qdw {len n : Nat} : ∀ (l : List M) (ρ ρ' : Env) (s : Sg) (σ : St) (z : Int) (b : Nat), (∀ x ∈ l, Ok n x ∧ NE n x ∧ ES len n x) → foldS (stm n) ρ l = .ok ρ' → Rel ρ s σ → 0 ≤ z → (foldC (cS n) s z b l).2 ≤ 512 → b + (foldC (cS n) s z b l).1.length < len →
  Seg len b (foldC (cS n) s z b l).1 0 0 σ (fun τ => Up σ τ)
 | [], ρ, ρ', s, σ, z, b, _, _, _, _, _, _ => .inl ⟨rfl, rfl, fun _ h => h⟩
 | x :: l, ρ, ρ', s, σ, z, b, hx, hs, hr, hz, hk, hb => by
  obtain ⟨ρ1, e1, e2⟩ := qcm hs
  obtain ⟨ok, ne, es⟩ := hx x (by simp)
  obtain ⟨c1, c2, c3⟩ := cS_len n x ok s z b
  obtain ⟨f1, f2, f3⟩ := foldC_len (d := n) (g := cS n) l (cS n s z b x).2.2 (cS n s z b x).2.1 (b + (cS n s z b x).1.length) fun q hq => cS_len n q (hx q (by simp [hq])).1
  rw [foldC] at hk hb ⊢
  simp only [List.length_append] at hk hb ⊢
  have h1 := es ρ ρ1 s σ z b e1 hr hz (by omega) (by omega)
  cases l with
  | nil =>
   rw [foldC, List.append_nil]
   exact h1.mono fun τ h => h.1
  | cons y l =>
   have h2 : ∀ τ, Up σ τ ∧ Rel ρ1 (cS n s z b x).2.2 τ → Seg len (b + (cS n s z b x).1.length) (foldC (cS n) (cS n s z b x).2.2 (cS n s z b x).2.1 (b + (cS n s z b x).1.length) (y :: l)).1 (0 + 0) 0 τ (fun υ => Up σ υ) := fun τ hτ =>
    (qdw (y :: l) ρ1 ρ' (cS n s z b x).2.2 τ (cS n s z b x).2.1 (b + (cS n s z b x).1.length) (fun q hq => hx q (by simp at hq ⊢; exact .inr hq)) e2 hτ.2 (by omega) hk (by omega)).mono fun υ hυ m hm => hυ m (hτ.1 m hm)
   have hy : (foldC (cS n) (cS n s z b x).2.2 (cS n s z b x).2.1 (b + (cS n s z b x).1.length) (y :: l)).1 ≠ [] := by
    rw [foldC]
    exact fun e => (hx y (by simp)).2.1 _ _ _ (List.append_eq_nil_iff.1 e).1
   exact Seg.append h1 h2 hy
theorem qxp : ∀ {n : Nat} {x : M}, Gd n x → NE n x
 | 0, x, h => h.1.elim
 | n + 1, x, ⟨⟨h1, h2, h3⟩, m, hm⟩ => fun s z b => by
  obtain ⟨m, rfl, hv0, hv2⟩ := qbs hm
  have sf := stated_form h1 hm
  by_cases q2 : x.Ab = 2
  ·obtain ⟨e, t, ht12, hk⟩ := if_kids q2 hm
   rcases hk with hk | ⟨o, _, hk⟩
   ·rw [cS_2 q2 hk rfl]; simp [if2]
   ·rw [cS_3 q2 hk rfl rfl]; simp [if3]
  ·by_cases q3 : x.Ab = 3
   ·rw [cS_let q3]; simp
   ·rw [cS_act q2 q3]
    obtain ⟨w, e, _⟩ := acs_eff sf q2 q3
    simp [e]
theorem qto {len : Nat} : ∀ (n : Nat) (x : M), Gd n x → ES len n x
 | 0, x, h => h.1.elim
 | n + 1, x, ⟨⟨h1, h2, h3⟩, m, hm⟩ => fun ρ ρ' s σ z b hs hr hz hk hb => by
  obtain ⟨m, rfl, hv0, hv2⟩ := qbs hm
  have sf := stated_form h1 hm
  by_cases q2 : x.Ab = 2
  ·obtain ⟨l2, hbr⟩ := hv2 q2
   obtain ⟨e, t, ht12, hkd⟩ := if_kids q2 hm
   have hex : ∃ ks, x.Aa = e :: t :: ks := by rcases hkd with hk | ⟨o, _, hk⟩ <;> exact ⟨_, hk⟩
   obtain ⟨ks, hks⟩ := hex
   obtain ⟨te, hte, hst⟩ := qee hks hs
   rcases hst with ⟨q, _⟩ | ⟨_, rfl, hbs⟩ | ⟨_, q, _⟩
   ·omega
   ·have hE : XE ρ' n e := XE_of (h3 e (by rw [hks]; simp)) (hv0 e (by rw [hks]; rfl)) hte
    have hT := qe3 hbs
    have gd : ∀ k ∈ t :: ks, ∀ q ∈ brn k, Gd n q := fun k hk1 => by
     have hk2 : k ∈ x.Aa := by rw [hks]; simp at hk1 ⊢; exact .inr hk1
     obtain ⟨l', e1, e2, e3⟩ := qc6 (h3 k hk2) ((hbr k (by rw [hks]; simpa using hk1)).imp (fun h => ⟨h.1, fun q hq => ⟨m, h.2 q hq⟩⟩) fun h => ⟨h.1, m, h.2⟩)
     rw [qf0] at e1
     cases e1
     exact e3
    have gs : ∀ k ∈ t :: ks, ∀ q ∈ brn k, Ok n q ∧ NE n q ∧ ES len n q := fun k hk1 q hq => ⟨(gd k hk1 q hq).1, qxp (gd k hk1 q hq), qto n q (gd k hk1 q hq)⟩
    have gt := gs t (by simp)
    obtain ⟨ρt, hρt⟩ := hT t (by simp)
    rw [brn12 ht12] at gt hρt
    have lT := foldC_len (d := n) (g := cS n) t.Aa s z (b + (cE n s b e).length + 1) fun q hq => cS_len n q (gt q hq).1
    rcases hkd with hkd | ⟨o, ho, hkd⟩
    ·rw [cS_2 q2 hkd rfl] at hk hb ⊢
     simp only [if2, List.length_append, List.length_cons] at hk hb ⊢
     have hA := qdi (len := len) hr n b e 0 hE (by omega) (by omega)
     have hTs := qdw t.Aa ρ' ρt s σ z (b + (cE n s b e).length + 1) gt hρt hr hz hk (by omega)
     have hI := Seg.if2 (len := len) (b := b + (cE n s b e).length) (d := 0 + 1) (R := fun τ => Up σ τ ∧ Rel ρ' s τ) (by omega) hTs (by omega) fun τ h => by
      have : Up σ (cap σ τ) := fun k hk => by unfold cap; rw [hk, h k hk]; rfl
      exact ⟨this, hr.mono this⟩
     have := Seg.append hA (fun τ e => by subst e; exact hI) (by simp)
     rwa [show (1 : Int) + -1 = 0 by omega] at this
    ·rw [hks] at hkd
     cases hkd
     obtain ⟨ρo, hρo⟩ := hT o (by simp)
     have go := gs o (by simp)
     rw [cS_3 q2 hks rfl rfl] at hk hb ⊢
     simp only [if3, List.length_append, List.length_cons] at hk hb ⊢
     have lO := foldC_len (d := n) (g := cS n) (brn o) s (foldC (cS n) s z (b + (cE n s b e).length + 1) t.Aa).2 (b + (cE n s b e).length + 1 + (foldC (cS n) s z (b + (cE n s b e).length + 1) t.Aa).1.length + 1) fun q hq => cS_len n q (go q hq).1
     have hA := qdi (len := len) hr n b e 0 hE (by omega) (by omega)
     have hTs := qdw (len := len) t.Aa ρ' ρt s σ z (b + (cE n s b e).length + 1) gt hρt hr hz (by omega) (by omega)
     have hOs := qdw (len := len) (brn o) ρ' ρo s σ (foldC (cS n) s z (b + (cE n s b e).length + 1) t.Aa).2 (b + (cE n s b e).length + 1 + (foldC (cS n) s z (b + (cE n s b e).length + 1) t.Aa).1.length + 1) go hρo hr (by omega) (by omega) (by omega)
     have hI := Seg.if3 (len := len) (b := b + (cE n s b e).length) (d := 0 + 1) (δ := 0) (R := fun τ => Up σ τ ∧ Rel ρ' s τ) (by omega) (by omega) hTs hOs (by omega) fun τ υ h h' => by
      have : Up σ (cap τ υ) := fun k hk => by unfold cap; rw [h k hk, h' k hk]; rfl
      exact ⟨this, hr.mono this⟩
     have := Seg.append hA (fun τ e => by subst e; exact hI) (by simp)
     rwa [show (1 : Int) + (0 - 1) = 0 by omega] at this
   ·exact absurd q2 q
  ·by_cases q3 : x.Ab = 3
   ·have l1 : x.Aa.length = 1 := by
     rcases sf with q | ⟨_, q⟩ | ⟨q, _⟩ | ⟨q, _⟩ | ⟨q, _⟩ | ⟨q, _⟩ | ⟨q, _⟩ <;> first | exact q | omega
    obtain ⟨e, he⟩ := qzd (l := x.Aa) (by rw [l1]; rfl)
    obtain ⟨te, hte, hst⟩ := qee he hs
    rcases hst with ⟨_, rfl⟩ | ⟨q, _⟩ | ⟨q, _⟩
    ·have hE : XE ρ n e := XE_of (h3 e (by rw [he]; simp)) (hv0 e (by rw [he]; rfl)) hte
     rw [cS_let q3, he] at hk hb ⊢
     simp only [hdC, List.length_append, List.length_cons, List.length_nil] at hk hb ⊢
     have hA := qdi (len := len) hr n b e 0 hE (by omega) (by omega)
     have hS : Seg len (b + (cE n s b e).length) [⟨4, z, []⟩] (0 + 1) (0 - 1) σ (fun τ => Up σ τ ∧ Rel (ext ρ x.Ac te) (upd s x.Ac z) τ) := by
      refine (Seg.one (x := ⟨4, z, []⟩) (t := 1) (l := 0) (by simp [eff]; omega) (by omega) rfl (by simp) (by simp) (by omega)).mono fun τ e => ?_
      subst e
      have up : Up σ (nxt ⟨4, z, []⟩ σ) := fun k hk => by unfold nxt; simp [hk]
      refine ⟨up, fun q k hq => ?_, fun q hq hq2 => ?_⟩
      ·unfold upd at hq
       by_cases w : x.Ac = q
       ·rw [qA1 w] at hq
        cases hq
        exact ⟨hz, by omega, by unfold nxt; simp⟩
       ·rw [qA0 w] at hq
        obtain ⟨a, b, c⟩ := hr.1 q k hq
        exact ⟨a, b, up k c⟩
      ·unfold upd at hq
       by_cases w : x.Ac = q
       ·rw [qA1 w] at hq; cases hq
       ·rw [qA0 w] at hq
        unfold ext at hq2
        rw [qA0 w] at hq2
        exact hr.2 q hq hq2
     have := Seg.append hA (fun τ e => by subst e; exact hS) (by simp)
     rwa [show (1 : Int) + (0 - 1) = 0 by omega] at this
    ·omega
    ·exact absurd q3 q
   ·obtain ⟨w, ew, ef⟩ := acs_eff sf q2 q3
    rw [cS_act q2 q3, ew] at hk hb ⊢
    simp only [List.length_append, List.length_cons, List.length_nil] at hk hb ⊢
    have act : ∀ (d : Int) (b : Nat), (x.Aa.length : Int) = d → b + 1 < len → Seg len b [⟨11, 0, w⟩] d (-d) σ (fun τ => τ = σ) := fun d b hd hb => by
     refine Seg.one' ef (by omega) rfl (by simp) (by simp) (by simp) hb (by omega)
    match hks : x.Aa with
    | [] =>
     have e : ρ' = ρ := by rw [stm, hks] at hs; cases hs; rfl
     subst e
     rw [hks] at act hb
     simp only [hdC, List.nil_append, List.length_nil] at hb ⊢
     exact (act 0 b rfl (by omega)).mono fun τ e => by subst e; exact ⟨fun _ h => h, hr⟩
    | e :: ks =>
     obtain ⟨te, hte, hst⟩ := qee hks hs
     have e1 : ks = [] := by
      have : x.Aa.length ≤ 1 := by
       rcases sf with q | ⟨_, q⟩ | ⟨_, q, _⟩ | ⟨_, q, _⟩ | ⟨_, q, _⟩ | ⟨_, q⟩ | ⟨_, q⟩ <;> omega
      rw [hks] at this
      simp only [List.length_cons] at this
      exact List.length_eq_zero_iff.1 (by omega)
     subst e1
     rcases hst with ⟨q, _⟩ | ⟨q, _⟩ | ⟨_, _, rfl⟩
     ·exact absurd q q3
     ·exact absurd q q2
     ·have hE : XE ρ' n e := XE_of (h3 e (by rw [hks]; simp)) (hv0 e (by rw [hks]; rfl)) hte
      rw [hks] at act hb
      simp only [hdC] at hb ⊢
      have hA := qdi (len := len) hr n b e 0 hE (by omega) (by omega)
      have := Seg.append hA (M := [⟨11, 0, w⟩]) (ε := -1) (R := fun τ => Up σ τ ∧ Rel ρ' s τ) (fun τ e => by subst e; exact (act 1 _ rfl (by omega)).mono fun τ e => by subst e; exact ⟨fun _ h => h, hr⟩) (by simp)
      rwa [show (1 : Int) + -1 = 0 by omega] at this
theorem qny {L : List I} (hl : (L ++ [haltI]).length ≤ 2048) {Q : St → Prop} (h : Seg (L ++ [haltI]).length 0 L 0 0 (fun _ => false) Q) : (depthOf (L ++ [haltI])).isSome = true := by
 obtain ⟨τ, B', g', _, k2, k3, _⟩ := h.run (B := B0) (g := 0) rfl fun j a b => by unfold B0; rw [qA0 (by omega)]
 unfold depthOf
 rw [qA0 (by simp only [List.length_append, List.length_cons, List.length_nil] at hl ⊢; omega), k2]
 have e : eff haltI = some (0, 0) := by decide
 simp only [Nat.zero_add] at k3 ⊢
 rw [wk_cons]
 unfold stA
 rw [e, k3]
 simp only
 rw [qA0 (by unfold haltI; simp), qA1 (show haltI.Op = 12 from rfl), qA1 (by omega)]
 rfl
theorem prog_depth {ys : List M} (hl : (prog 39 ys).length ≤ 2048) (hc : cntL 39 ys ≤ 511) (hg : ∀ k ∈ ys, Gd 39 k) {ρ : Env} (hs : foldS (stm 39) base ys = .ok ρ) : (depthOf (prog 39 ys)).isSome = true := by
 unfold prog at hl ⊢
 obtain ⟨l1, l2, l3⟩ := foldC_len (d := 39) (g := cS 39) ys (fun _ => none) 0 0 fun q hq => cS_len 39 q (hg q hq).1
 exact qny hl (qdw (len := ((foldC (cS 39) (fun _ => none) 0 0 ys).1 ++ [haltI]).length) ys base ρ (fun _ => none) (fun _ => false) 0 0 (fun q hq => ⟨(hg q hq).1, qxp (hg q hq), qto 39 q (hg q hq)⟩) hs Rel.nil (by omega) (by omega) (by simp))
theorem qzi {v : Bool} : ∀ i ∈ tr v, i.S.length ≤ 100000 := by simp [tr]
theorem qq1 {s : Sg} : ∀ (d b : Nat) (x : M), Ok d x → ∀ i ∈ cE d s b x, i.S.length ≤ 100000
 | 0, _, _, h => h.elim
 | d + 1, b, x, ⟨h1, h2, h3⟩ => by
  intro i hi
  rw [cE] at hi
  by_cases q20 : x.Ab = 20; · rw [qA1 q20] at hi; simp at hi; subst hi; simp
  by_cases q21 : x.Ab = 21; · rw [qA0 q20, qA1 q21] at hi; simp at hi; subst hi; simp only; omega
  by_cases q22 : x.Ab = 22; · rw [qA0 q20, qA0 q21, qA1 q22] at hi; exact qzi i hi
  by_cases q23 : x.Ab = 23
  ·rw [qA0 q20, qA0 q21, qA0 q22, qA1 q23] at hi
   simp at hi
   subst hi
   unfold nmI
   split
   ·simp
   ·simp only; omega
  rw [qA0 q20, qA0 q21, qA0 q22, qA0 q23] at hi
  split at hi
  ·rename_i k e
   rcases List.mem_append.1 hi with hi | hi
   ·exact qq1 d b k (h3 k (by rw [e]; simp)) i hi
   ·split at hi <;> simp at hi <;> subst hi <;> simp only [List.length_nil] <;> omega
  ·rename_i k l e
   have hk := h3 k (by rw [e]; simp)
   have hl := h3 l (by rw [e]; simp)
   split at hi
   ·simp only [List.mem_append, List.mem_cons] at hi
    rcases hi with hi | hi | hi | hi | hi
    ·exact qq1 _ _ _ hk i hi
    ·subst hi; simp
    ·exact qq1 _ _ _ hl i hi
    ·subst hi; simp
    ·exact qzi i hi
   ·split at hi
    ·simp only [List.mem_append, List.mem_cons] at hi
     rcases hi with hi | hi | hi | hi | hi
     ·exact qq1 _ _ _ hk i hi
     ·subst hi; simp
     ·exact qzi i hi
     ·subst hi; simp
     ·exact qq1 _ _ _ hl i hi
    ·simp only [List.mem_append, List.mem_cons, List.not_mem_nil, or_false] at hi
     rcases hi with hi | hi | hi
     ·exact qq1 _ _ _ hk i hi
     ·exact qq1 _ _ _ hl i hi
     ·subst hi
      unfold opw
      simp only
      split
      ·simp
      ·split
       ·simp
       ·split
        ·simp
        ·omega
  ·cases hi
theorem qxq {d b : Nat} {s : Sg} : ∀ (l : List M), (∀ k ∈ l, Ok d k) → ∀ i ∈ hdC d s b l, i.S.length ≤ 100000
 | [], _, i, hi => by cases hi
 | e :: l, h, i, hi => qq1 d b e (h e (by simp)) i hi
theorem acs_S {x : M} (h : x.Ac.length ≤ 3000) : ∀ i ∈ acs x, i.S.length ≤ 100000 := by
 intro i hi
 unfold acs acw at hi
 split at hi
 ·rename_i w hw
  simp only [List.mem_singleton] at hi
  subst hi
  show w.length ≤ 100000
  have go : ∀ v : Str, some v = some w → v.length ≤ 100000 → w.length ≤ 100000 := fun v e h => by cases e; exact h
  repeat' split at hw
  all_goals first | exact go _ hw (by simp only [List.length_append, List.length_cons, List.length_nil]; omega) | exact go _ hw (by omega) | cases hw
 ·cases hi
theorem qk6 {g : Sg → Int → Nat → M → List I × Int × Sg} : ∀ (l : List M) (s : Sg) (z : Int) (b : Nat), (∀ x ∈ l, ∀ s z b, ∀ i ∈ (g s z b x).1, i.S.length ≤ 100000) → ∀ i ∈ (foldC g s z b l).1, i.S.length ≤ 100000
 | [], s, z, b, _, i, hi => by cases hi
 | x :: l, s, z, b, h, i, hi => by
  rw [foldC] at hi
  rcases List.mem_append.1 hi with hi | hi
  ·exact h x (by simp) _ _ _ i hi
  ·exact qk6 l _ _ _ (fun q hq => h q (by simp [hq])) i hi
theorem qAa : ∀ (d : Nat) (x : M), Ok d x → ∀ (s : Sg) (z : Int) (b : Nat), ∀ i ∈ (cS d s z b x).1, i.S.length ≤ 100000
 | 0, x, h => h.elim
 | d + 1, x, ⟨h1, h2, h3⟩ => fun s z b i hi => by
  have hf : ∀ (l : List M) (s : Sg) (z : Int) (b : Nat), (∀ q ∈ l, Ok d q) → ∀ i ∈ (foldC (cS d) s z b l).1, i.S.length ≤ 100000 := fun l s z b h => qk6 l s z b fun q hq => qAa d q (h q hq)
  by_cases q2 : x.Ab = 2
  ·rw [cS, qA1 q2] at hi
   split at hi
   ·rename_i e t hk
    have ht := h3 t (by rw [hk]; simp)
    have kt : ∀ q ∈ t.Aa, Ok d q := fun q hq => by
     cases d with
     | zero => exact ht.elim
     | succ d => exact (ht.2.2 q hq).succ
    simp only [if2, List.mem_append, List.mem_cons] at hi
    rcases hi with hi | hi | hi
    ·exact qq1 _ _ _ (h3 e (by rw [hk]; simp)) i hi
    ·subst hi; simp
    ·exact hf _ _ _ _ kt i hi
   ·rename_i e t o hk
    have ht := h3 t (by rw [hk]; simp)
    have kt : ∀ q ∈ t.Aa, Ok d q := fun q hq => by
     cases d with
     | zero => exact ht.elim
     | succ d => exact (ht.2.2 q hq).succ
    have ko : ∀ q ∈ brn o, Ok d q := (brn_ok (h3 o (by rw [hk]; simp))).1
    simp only [if3, List.mem_append, List.mem_cons] at hi
    rcases hi with hi | hi | hi | hi | hi
    ·exact qq1 _ _ _ (h3 e (by rw [hk]; simp)) i hi
    ·subst hi; simp
    ·exact hf _ _ _ _ kt i hi
    ·subst hi; simp
    ·exact hf _ _ _ _ ko i hi
   ·cases hi
  ·by_cases q3 : x.Ab = 3
   ·rw [cS_let q3] at hi
    simp only [List.mem_append, List.mem_cons, List.not_mem_nil, or_false] at hi
    rcases hi with hi | hi
    ·exact qxq _ h3 i hi
    ·subst hi; simp
   ·rw [cS_act q2 q3] at hi
    simp only [List.mem_append] at hi
    rcases hi with hi | hi
    ·exact qxq _ h3 i hi
    ·exact acs_S h1 i hi
theorem prog_S {d : Nat} {l : List M} (h : ∀ k ∈ l, Ok d k) : ∀ i ∈ prog d l, i.S.length ≤ 100000 := by
 intro i hi
 unfold prog at hi
 rcases List.mem_append.1 hi with hi | hi
 ·exact qk6 l _ _ _ (fun q hq => qAa d q (h q hq)) i hi
 ·simp at hi; subst hi; simp [haltI]
theorem stA_inv {len i : Nat} {x : I} {B : AB} {g : Int} {r : AB × Int} (h : stA len i x B g = some r) : ∃ t l d σ, eff x = some (t, l) ∧ B i = some (d, σ) ∧ t ≤ d ∧ ((x.Op = 12) ↔ (i + 1 = len)) ∧ (x.Op = 3 → σ x.N = true) ∧ (x.Op = 12 → d = 0 ∧ r.1 = B) ∧
  (x.Op ≠ 12 → ∃ B1, far len i x B (d + (l - t)) (nxt x σ) = some B1 ∧ near i x B1 (d + (l - t)) (nxt x σ) = some r.1 ∧ r.2 = max (max g d) (d + (l - t))) := by
 unfold stA at h
 cases he : eff x with
 | none => rw [he] at h; cases h
 | some p =>
  obtain ⟨t, l⟩ := p
  cases hB : B i with
  | none => rw [he, hB] at h; cases h
  | some q =>
   obtain ⟨d, σ⟩ := q
   rw [he, hB] at h
   simp only at h
   split at h
   ·cases h
   ·rename_i hn
    have h1 : t ≤ d := by
     by_cases q : t ≤ d
     ·exact q
     ·exact absurd (.inl (by omega)) hn
    have h2 : (x.Op = 12) ↔ (i + 1 = len) := by
     by_cases q : (x.Op = 12) ↔ (i + 1 = len)
     ·exact q
     ·exact absurd (.inr (.inl q)) hn
    have h3 : x.Op = 3 → σ x.N = true := fun q => by
     cases e : σ x.N with
     | true => rfl
     | false => exact absurd (.inr (.inr ⟨q, e⟩)) hn
    split at h
    ·rename_i q12
     split at h
     ·rename_i d0
      cases h
      exact ⟨t, l, d, σ, rfl, rfl, h1, h2, h3, fun _ => ⟨d0, rfl⟩, fun q => absurd q12 q⟩
     ·cases h
    ·rename_i q12
     refine ⟨t, l, d, σ, rfl, rfl, h1, h2, h3, fun q => absurd q q12, fun _ => ?_⟩
     cases hf : far len i x B (d + (l - t)) (nxt x σ) with
     | none => rw [hf] at h; cases h
     | some B1 =>
      rw [hf, qAz] at h
      obtain ⟨B2, hn, e⟩ := Option.map_eq_some_iff.1 h
      cases e
      exact ⟨B1, rfl, hn, rfl⟩
end Rt.Rc
