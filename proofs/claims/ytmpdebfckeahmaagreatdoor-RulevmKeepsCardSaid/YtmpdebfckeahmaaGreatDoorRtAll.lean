import Derived.Test.YtmpdebfckeahmaaGreatDoorR
import Derived.Test.YtmpdebfckeahmaaGreatDoorPlain
import Derived.Test.YtmpdebfckeahmaaGreatDoorG2
import Derived.Test.YtmpdebfckeahmaaGreatDoorLS
set_option linter.unusedVariables false
set_option linter.unusedSimpArgs false
open Go Go.SL Go.Proofs Pl
namespace Rt
theorem el_go {ρ σ γ : Type} {y : σ} {f : ρ → Option γ} {g : σ → Option γ} : (Fl.go y : Fl ρ σ).el f g = g y := rfl
theorem el_ret {ρ σ γ : Type} {y : ρ} {f : ρ → Option γ} {g : σ → Option γ} : (Fl.ret y : Fl ρ σ).el f g = f y := rfl
theorem qcm {α : Type} {s : List α} {i : Int} (h0 : 0 ≤ i) (h1 : i < (s.length : Int)) : ∃ x, ix s i = some x := by
 unfold ix
 rw [qwx h0]
 exact ⟨s[i.toNat]'(by omega), List.getElem?_eq_getElem (by omega)⟩
theorem qap {α : Type} {b : Bool} {x y : Option α} (h1 : b = true → ∃ r, x = some r) (h2 : b = false → ∃ r, y = some r) : ∃ r, (if b = true then x else y) = some r := by
 cases b with
 | true => exact h1 rfl
 | false => exact h2 rfl
theorem qhs : ∀ (s : Str) (i : Nat) (y : Str), y.length + 2 * s.length ≤ 1000000 → ∃ r, Jal s i y = some r ∧ ∀ z, r = Fl.go z → z.length ≤ 1000000
 | [], i, y, h => ⟨_, rfl, fun z e => by cases e; simpa using h⟩
 | c :: s, i, y, h => by
  simp only [List.length_cons] at h
  rw [Jal]
  have e1 : ∃ b, (if decide ((c.toNat : Int) < 32) = true then some true else some (decide ((c.toNat : Int) > 126))) = some b := qap (fun _ => ⟨_, rfl⟩) (fun _ => ⟨_, rfl⟩)
  obtain ⟨b, hb⟩ := e1
  rw [hb, qwv]
  cases b with
  | true => exact ⟨_, qwx rfl, fun z e => by cases e⟩
  | false =>
   rw [qww (by simp)]
   have e2 : ∃ b, (if decide ((c.toNat : Int) = 34) = true then some true else some (decide ((c.toNat : Int) = 92))) = some b := qap (fun _ => ⟨_, rfl⟩) (fun _ => ⟨_, rfl⟩)
   obtain ⟨d, hd⟩ := e2
   rw [hd, qwv]
   cases d with
   | true =>
    rw [qwx rfl, qaa (by simp only [lim, List.length_cons, List.length_nil]; omega), qaa (by simp only [lim, List.length_append, List.length_cons, List.length_nil]; omega)]
    exact qhs s (i + 1) _ (by simp only [List.length_append, List.length_cons, List.length_nil]; omega)
   | false =>
    rw [qww (by simp), qaa (by simp only [lim, List.length_cons, List.length_nil]; omega)]
    exact qhs s (i + 1) _ (by simp only [List.length_append, List.length_cons, List.length_nil]; omega)
theorem qdk {s : Str} (h : s.length ≤ 3000) : ∃ b, Jah s = some b := by
 obtain ⟨r, hr, hl⟩ := qhs s 0 [34] (by simp <;> omega)
 unfold Jah JbN
 rw [qaa (by simp only [qav]; omega), hr, qwv]
 cases r with
 | ret z => rw [el_ret]; exact ⟨_, rfl⟩
 | go z =>
  have := hl z rfl
  rw [el_go, qaa (by simp only [lim, List.length_cons, List.length_nil]; omega)]; exact ⟨_, rfl⟩
theorem qf9 {s : Str} (hs : s.length ≤ 5000) : ∀ (n : Nat) (y : Str) (i : Int), 0 ≤ i → i ≤ (s.length : Int) → (s.length : Int) - i < n → (y.length : Int) + (s.length - i) ≤ 100000 → ∃ r, JaA s n y i = some r ∧ ∀ a b, r = Fl.ret (a, b) → a = 0 ∨ (0 < a ∧ a ≤ (s.length : Int))
 | 0, y, i, h0, h3, h1, h2 => by omega
 | n + 1, y, i, h0, h3, h1, h2 => by
  rw [JaA]
  by_cases hi : i < (s.length : Int)
  ·obtain ⟨c, hc⟩ := qcm h0 hi
   rw [qwx (by simpa using hi), hc, qwv]
   by_cases q : (c.toNat : Int) = 34
   ·rw [qwx (by simpa using q), qaa (by constructor <;> omega)]
    exact ⟨_, rfl, fun a b e => by cases e; right; omega⟩
   ·rw [qww (by simpa using q)]
    by_cases q2 : (c.toNat : Int) = 92
    ·rw [qwx (by simpa using q2), qaa (by constructor <;> omega)]
     by_cases q3 : i + 1 = (s.length : Int)
     ·rw [qwx (by simpa using q3)]; exact ⟨_, rfl, fun a b e => by cases e; left; rfl⟩
     ·obtain ⟨d, hd⟩ := qcm (s := s) (i := i + 1) (by omega) (by omega)
      rw [qww (by simpa using q3), hd, qwv]
      have e2 : ∃ b, (if decide ((d.toNat : Int) ≠ 34) = true then (some d).bind fun x40 => some (decide ((x40.toNat : Int) ≠ 92)) else some false) = some b := qap (fun _ => ⟨_, rfl⟩) (fun _ => ⟨_, rfl⟩)
      obtain ⟨b, hb⟩ := e2
      rw [hb, qwv]
      cases b with
      | true => exact ⟨_, qwx rfl, fun a b e => by cases e; left; rfl⟩
      | false =>
       rw [qww (by simp), qwv, qaa (by simp only [lim, List.length_cons, List.length_nil]; omega), qaa (by constructor <;> omega)]
       exact qf9 hs n _ _ (by omega) (by omega) (by omega) (by simp only [List.length_append, List.length_cons, List.length_nil]; omega)
    ·rw [qww (by simpa using q2)]
     refine (fun (h : ∀ b : Bool, b = (decide ((c.toNat : Int) < 32) || decide ((c.toNat : Int) > 126)) → _) => h _ rfl) fun b hb => ?_
     rw [← hb]
     cases b with
     | true => exact ⟨_, qwx rfl, fun a b e => by cases e; left; rfl⟩
     | false =>
      rw [qww (by simp), qaa (by simp only [lim, List.length_cons, List.length_nil]; omega), qaa (by constructor <;> omega)]
      exact qf9 hs n _ _ (by omega) (by omega) (by omega) (by simp only [List.length_append, List.length_cons, List.length_nil]; omega)
  ·rw [qww (by simpa using hi)]; exact ⟨_, rfl, fun a b e => by cases e⟩
theorem qkj {s : Str} (hs : s.length ≤ 5000) : ∀ (n : Nat) (i : Int), 0 < i → i ≤ (s.length : Int) → (s.length : Int) - i < n → ∃ r, JaW s n i = some r ∧ 0 < r ∧ r ≤ (s.length : Int)
 | 0, i, h0, h1, h2 => by omega
 | n + 1, i, h0, h1, h2 => by
  rw [JaW]
  by_cases hi : i < (s.length : Int)
  ·obtain ⟨c, hc⟩ := qcm (by omega) hi
   rw [qwx (by simpa using hi), hc, qwv]
   unfold JbD Jbi
   rw [qwv]
   have e : ∀ b : Bool, ∃ d, (if b = true then some true else (some c).bind fun x28 => (some (decide ((x28.toNat : Int) ≥ 48) && decide ((x28.toNat : Int) ≤ 57))).bind fun x29 => some x29) = some d := fun b => qap (fun _ => ⟨_, rfl⟩) (fun _ => ⟨_, rfl⟩)
   obtain ⟨d, hd⟩ := e _
   rw [hd, qwv]
   cases d with
   | true => rw [qwx rfl, qaa (by constructor <;> omega)]; exact qkj hs n (i + 1) (by omega) (by omega) (by omega)
   | false => exact ⟨i, qww (by simp), h0, h1⟩
  ·exact ⟨i, qww (by simpa using hi), h0, h1⟩
theorem qkk {s : Str} (hs : s.length ≤ 5000) : ∀ (n : Nat) (i : Int), 0 < i → i ≤ (s.length : Int) → (s.length : Int) - i < n → ∃ r, JaX s n i = some r ∧ 0 < r ∧ r ≤ (s.length : Int)
 | 0, i, h0, h1, h2 => by omega
 | n + 1, i, h0, h1, h2 => by
  rw [JaX]
  by_cases hi : i < (s.length : Int)
  ·obtain ⟨c, hc⟩ := qcm (by omega) hi
   rw [qwx (by simpa using hi), hc, qwv]
   unfold Jbi
   rw [qwv, qwv]
   refine (fun (h : ∀ b : Bool, b = (decide ((c.toNat : Int) ≥ 48) && decide ((c.toNat : Int) ≤ 57)) → _) => h _ rfl) fun b hb => ?_
   rw [← hb]
   cases b with
   | true => rw [qwx rfl, qaa (by constructor <;> omega)]; exact qkk hs n (i + 1) (by omega) (by omega) (by omega)
   | false => exact ⟨i, qww (by simp), h0, h1⟩
  ·rw [qww (by simpa using hi), qwv]
   exact ⟨i, qww (by simp), h0, h1⟩
theorem qga (s p : Str) : JV s p = some (decide ((s.length : Int) ≥ (p.length : Int)) && decide (subL s (0 : Int) (p.length : Int) = p)) := by
 unfold JV J5
 by_cases h : (s.length : Int) ≥ (p.length : Int)
 ·rw [qwx (by simpa using h), qaa (by omega)]; simp [h]
 ·rw [qww (by simpa using h)]
  have : ¬ p.length ≤ s.length := by omega
  simp [this]
theorem qkl {s : Str} : ∀ (k i : Nat), i + k = 14 → ∃ r, JaY s k i = some r ∧ ∀ a b c, r = Fl.ret (a, b, c) → 0 ≤ b ∧ b ≤ (s.length : Int)
 | 0, i, h => ⟨_, rfl, fun a b c e => by cases e⟩
 | k + 1, i, h => by
  rw [JaY]
  obtain ⟨p, hp⟩ := qcm (s := ([([61, 61] : Str), ([33, 61] : Str), ([60, 61] : Str), ([60] : Str), ([43] : Str), ([45] : Str), ([42] : Str), ([40] : Str), ([41] : Str), ([123] : Str), ([125] : Str), ([44] : Str), ([59] : Str), ([61] : Str)])) (i := (i : Int)) (by omega) (by simp; omega)
  rw [hp, qwv, qga, qwv]
  by_cases q : (decide ((s.length : Int) ≥ (p.length : Int)) && decide (subL s (0 : Int) (p.length : Int) = p)) = true
  ·rw [qwx q]
   simp only [Bool.and_eq_true, decide_eq_true_eq] at q
   exact ⟨_, rfl, fun a b c e => by cases e; omega⟩
  ·rw [qww q]; exact qkl k (i + 1) (by omega)
theorem qpo {n : Nat} {s : Str} (hn : 10000 ≤ n) (h0 : 0 < s.length) (hs : s.length ≤ 5000) : ∃ a b c, Jca n s = some (a, b, c) ∧ 0 ≤ b ∧ b ≤ (s.length : Int) := by
 unfold Jca
 obtain ⟨c, hc⟩ := qcm (s := s) (i := 0) (by omega) (by omega)
 rw [hc, qwv]
 unfold JbD
 rw [qwv]
 split
 ·obtain ⟨r, hr, h1, h2⟩ := qkj hs n 1 (by omega) (by omega) (by omega)
  rw [hr, qwv, qaa (by omega)]
  exact ⟨_, _, _, rfl, by omega, h2⟩
 ·unfold Jbi
  rw [qwv]
  split
  ·obtain ⟨r, hr, h1, h2⟩ := qkk hs n 1 (by omega) (by omega) (by omega)
   rw [hr, qwv]
   split
   ·exact ⟨_, _, _, rfl, by omega, by omega⟩
   ·rw [qaa (by omega)]; exact ⟨_, _, _, rfl, by omega, h2⟩
  ·split
   ·unfold Jcl
    obtain ⟨r, hr, h1⟩ := qf9 hs n [] 1 (by omega) (by omega) (by omega) (by simp; omega)
    rw [hr, qwv]
    cases r with
    | ret z =>
     obtain ⟨a, b⟩ := z
     rw [el_ret, qwv]
     have := h1 a b rfl
     exact ⟨_, _, _, rfl, by omega, by omega⟩
    | go z => rw [el_go, qwv]; exact ⟨_, _, _, rfl, by omega, by omega⟩
   ·obtain ⟨r, hr, h1⟩ := qkl (s := s) 14 0 rfl
    rw [qaa (by constructor <;> omega), show ((14 : Int)).toNat = 14 from rfl, hr, qwv]
    cases r with
    | ret z =>
     obtain ⟨a, b, c⟩ := z
     have := h1 a b c rfl
     exact ⟨_, _, _, rfl, this.1, this.2⟩
    | go z => exact ⟨_, _, _, rfl, by omega, by omega⟩
theorem qkm {s : Str} (hs : s.length ≤ 5000) : ∀ (n : Nat) (i : Int), 0 ≤ i → i ≤ (s.length : Int) → (s.length : Int) - i < n → ∃ r, JaZ s n i = some r ∧ i ≤ r ∧ r ≤ (s.length : Int) ∧ (∀ c, ix s i = some c → (c.toNat : Int) ≠ 10 → i < r)
 | 0, i, h0, h1, h2 => by omega
 | n + 1, i, h0, h1, h2 => by
  rw [JaZ]
  by_cases hi : i < (s.length : Int)
  ·obtain ⟨c, hc⟩ := qcm h0 hi
   rw [qwx (by simpa using hi), hc, qwv, qwv]
   by_cases q : (c.toNat : Int) = 10
   ·exact ⟨i, qww (by simpa using q), by omega, h1, fun d e => by cases e; exact fun h => absurd q h⟩
   ·obtain ⟨r, hr, h3, h4, _⟩ := qkm hs n (i + 1) (by omega) (by omega) (by omega)
    rw [qwx (by simpa using q), qaa (by constructor <;> omega)]
    exact ⟨r, hr, by omega, h4, fun _ _ _ => by omega⟩
  ·rw [qww (by simpa using hi), qwv]
   refine ⟨i, qww (by simp), by omega, h1, fun c e => ?_⟩
   unfold ix at e
   rw [qwx h0, List.getElem?_eq_none (by omega)] at e; cases e
theorem qc9 {s : Str} {m : Nat} (hm : 10000 ≤ m) (hs : s.length ≤ 5000) : ∀ (n : Nat) (y : List JA) (a b i : Int), 0 ≤ i → i ≤ (s.length : Int) → (s.length : Int) - i < n → (y.length : Int) + (s.length - i) ≤ 100000 → 0 ≤ a → a + (s.length - i) ≤ 100000 → 0 ≤ b → b ≤ i →
  ∃ r, JZ s m n y a b i = some r ∧ ∀ p q u v, r = Fl.go (p, q, u, v) → p.length ≤ 100000 ∧ 0 ≤ u ∧ u ≤ (s.length : Int)
 | 0, y, a, b, i, h0, h1, h2, h3, h4, h5, h6, h7 => by omega
 | n + 1, y, a, b, i, h0, h1, h2, h3, h4, h5, h6, h7 => by
  rw [JZ]
  by_cases hi : i < (s.length : Int)
  ·obtain ⟨c, hc⟩ := qcm h0 hi
   rw [qwx (by simpa using hi), hc, qwv]
   split
   ·rw [qaa (by constructor <;> omega), qaa (by constructor <;> omega)]
    exact qc9 hm hs n _ _ _ _ (by omega) (by omega) (by omega) (by omega) (by omega) (by omega) (by omega) (by omega)
   ·rename_i h10
    split
    ·rw [qaa (by constructor <;> omega)]
     exact qc9 hm hs n _ _ _ _ (by omega) (by omega) (by omega) (by omega) (by omega) (by omega) (by omega) (by omega)
    ·split
     ·rw [qaa (by constructor <;> omega)]
      exact qc9 hm hs n _ _ _ _ (by omega) (by omega) (by omega) (by omega) (by omega) (by omega) (by omega) (by omega)
     ·split
      ·rw [qaa (by constructor <;> omega)]
       exact qc9 hm hs n _ _ _ _ (by omega) (by omega) (by omega) (by omega) (by omega) (by omega) (by omega) (by omega)
      ·split
       ·obtain ⟨r, hr, g1, g2, g3⟩ := qkm hs m i h0 h1 (by omega)
        have := g3 c hc (by simpa using h10)
        rw [hr, qwv]
        exact qc9 hm hs n _ _ _ _ (by omega) (by omega) (by omega) (by omega) (by omega) (by omega) (by omega) (by omega)
       ·have hsl : (subL s i (s.length : Int)).length = s.length - i.toNat := by
         unfold subL
         rw [List.length_take, List.length_drop]; omega
        rw [qaa (by omega)]
        obtain ⟨u, v, w, hr, g1, g2⟩ := qpo (n := m) (s := subL s i (s.length : Int)) hm (by omega) (by omega)
        rw [hr, qwv]
        split
        ·exact ⟨_, rfl, fun p q u v e => by cases e⟩
        ·rename_i hz
         have hz' : v ≠ 0 := by simpa using hz
         rw [qaa (by constructor <;> omega), qaa (by constructor <;> omega), qaa (by simp only [lim, List.length_cons, List.length_nil]; omega), qaa (by constructor <;> simp only <;> omega)]
         exact qc9 hm hs n _ _ _ _ (by simp only; omega) (by simp only; omega) (by simp only; omega) (by simp only [List.length_append, List.length_cons, List.length_nil]; omega) (by omega) (by simp only; omega) (by omega) (by simp only; omega)
  ·rw [qww (by simpa using hi)]
   exact ⟨_, rfl, fun p q u v e => by cases e; omega⟩
theorem qfi {n : Nat} {s : Str} (hn : 10000 ≤ n) : ∃ r, Jcb n s = some r := by
 unfold Jcb
 by_cases h : (s.length : Int) > 4096
 ·exact ⟨_, qwx (by simpa using h)⟩
 ·obtain ⟨r, hr, h1⟩ := qc9 hn (s := s) (by omega) n [] 1 0 0 (by omega) (by omega) (by omega) (by simp; omega) (by omega) (by omega) (by omega) (by omega)
  rw [qww (by simpa using h), hr, qwv]
  cases r with
  | ret z => rw [el_ret]; exact ⟨_, rfl⟩
  | go z =>
   obtain ⟨p, q, u, v⟩ := z
   obtain ⟨g1, g2, g3⟩ := h1 p q u v rfl
   rw [el_go, qaa (by constructor <;> simp only <;> omega), qaa (by constructor <;> simp only <;> omega), qaa (by simp only [lim, List.length_cons, List.length_nil]; omega)]
   exact ⟨_, rfl⟩
theorem qkn (v : Str) : ∀ (l : List Str) (i : Nat), ∃ r, JR v l i = some r
 | [], i => ⟨_, rfl⟩
 | x :: l, i => by
  rw [JR]
  exact qap (fun _ => ⟨_, rfl⟩) (fun _ => qkn v l (i + 1))
theorem qlu (s : Str) : ∃ b, JbK s = some b := by
 obtain ⟨r, hr⟩ := qkn s gkw0 0
 unfold JbK JG Ja8
 rw [qaa (by decide), hr, qwv]
 cases r <;> exact ⟨_, rfl⟩
theorem qau {α β : Type} {o : Option α} {f : α → Option β} (h1 : ∃ a, o = some a) (h2 : ∀ a, o = some a → ∃ r, f a = some r) : ∃ r, o.bind f = some r := by
 obtain ⟨a, ha⟩ := h1
 rw [ha, qwv]; exact h2 a ha
theorem qht {n : Nat} (hn : 10000 ≤ n) (s : Str) : ∃ b, Jbp n s = some b := by
 unfold Jbp
 refine qau (qfi hn) fun r _ => ?_
 refine qau (qap (fun h => ?_) fun _ => ⟨_, rfl⟩) fun b hb => ?_
 ·simp only [Bool.and_eq_true, decide_eq_true_eq] at h
  exact qau (qcm (by omega) (by omega)) fun _ _ => ⟨_, rfl⟩
 ·refine qau (qap (fun h => ?_) fun _ => ⟨_, rfl⟩) fun d hd => ?_
  ·subst h
   cases q : (r.2.isNone && decide ((r.1.length : Int) = 2)) with
   | false => rw [q, qww (by simp)] at hb; cases hb
   | true =>
    simp only [Bool.and_eq_true, decide_eq_true_eq] at q
    exact qau (qcm (by omega) (by omega)) fun _ _ => ⟨_, rfl⟩
  ·refine qau (qap (fun h => qau (qlu s) fun _ _ => ⟨_, rfl⟩) fun _ => ⟨_, rfl⟩) fun d hd => ⟨_, rfl⟩
theorem qig : ∀ (s : Str) (i : Nat), ∃ r, Jag s i = some r
 | [], i => ⟨_, rfl⟩
 | c :: s, i => by
  rw [Jag]
  exact qau (qap (fun _ => ⟨_, rfl⟩) fun _ => ⟨_, rfl⟩) fun _ _ => qap (fun _ => ⟨_, rfl⟩) fun _ => qig s (i + 1)
theorem qnh {s : Str} (h : s.length ≤ 3000) : ∃ b, Ja9 s = some b := by
 obtain ⟨r, hr⟩ := qig s 0
 unfold Ja9
 rw [qaa (by simp only [qav]; omega), hr, qwv]
 cases r <;> exact ⟨_, rfl⟩
theorem qgb (k : Int) (s : Str) : ∃ b, Jao k s = some b := by
 unfold Jao
 repeat (refine qap (fun _ => ⟨_, rfl⟩) fun _ => ?_)
 exact ⟨_, rfl⟩
abbrev M := Ja
abbrev N := Jb
def Ok : Nat → M → Prop
 | 0, _ => False
 | d + 1, x => x.Ac.length ≤ 3000 ∧ x.Aa.length ≤ 700 ∧ ∀ k ∈ x.Aa, Ok d k
theorem Ok.succ : ∀ {d : Nat} {x : M}, Ok d x → Ok (d + 1) x
 | d + 1, x, h => ⟨h.1, h.2.1, fun k hk => (h.2.2 k hk).succ⟩
theorem qjo {n : Nat} (hn : 10000 ≤ n) {x : M} (ht : x.Ac.length ≤ 3000) : ∃ k, JM n x = some k ∧ (x.Ab = 16 → k = 2 ∨ k = -2) := by
 have st : ∀ {b : Bool} {p q : Option Int} {P : Int → Prop}, (b = true → ∃ k, p = some k ∧ P k) → (b = false → ∃ k, q = some k ∧ P k) → ∃ k, (if b = true then p else q) = some k ∧ P k := fun {b p q P} h1 h2 => by
  cases b with
  | true => exact h1 rfl
  | false => exact h2 rfl
 have bd : ∀ {β : Type} {o : Option β} {f : β → Option Int} {P : Int → Prop}, (∃ a, o = some a) → (∀ a, ∃ k, f a = some k ∧ P k) → ∃ k, o.bind f = some k ∧ P k := fun {β o f P} h1 h2 => by
  obtain ⟨a, ha⟩ := h1
  rw [ha, qwv]; exact h2 a
 have two : ∀ {b : Bool} {q : Int}, (x.Ab = 16 → q = 2) → ∃ k, (if b = true then some (-2) else some q : Option Int) = some k ∧ (x.Ab = 16 → k = 2 ∨ k = -2) := fun {b q} hq => st (fun _ => ⟨_, rfl, fun _ => .inr rfl⟩) fun _ => ⟨_, rfl, fun h => .inl (hq h)⟩
 unfold JM
 refine st (fun _ => two fun _ => rfl) fun _ => ?_
 refine st (fun _ => two fun _ => rfl) fun _ => ?_
 refine st (fun _ => two fun _ => rfl) fun _ => ?_
 refine st (fun _ => two fun _ => rfl) fun _ => ?_
 refine st (fun _ => two fun _ => rfl) fun _ => ?_
 refine st (fun h => two fun h2 => by have h := of_decide_eq_true h; omega) fun _ => ?_
 refine st (fun _ => bd (qgb 4 _) fun a => bd (qap (fun _ => ⟨_, rfl⟩) fun _ => qau (qgb 1 _) fun _ _ => ⟨_, rfl⟩) fun b => two fun _ => rfl) fun h16 => ?_
 have h16 : x.Ab ≠ 16 := of_decide_eq_false h16
 refine st (fun _ => bd (qnh ht) fun a => two fun h => absurd h h16) fun _ => ?_
 refine st (fun _ => bd (qdk ht) fun a => two fun h => absurd h h16) fun _ => ?_
 refine st (fun _ => two fun h => absurd h h16) fun _ => ?_
 refine st (fun _ => bd (qht hn _) fun a => two fun h => absurd h h16) fun _ => ?_
 refine st (fun _ => bd (qht hn _) fun a => two fun h => absurd h h16) fun _ => ?_
 exact ⟨_, rfl, fun _ => .inr rfl⟩
theorem qeh {f : M → Option Bool} : ∀ (l : List M) (i : Nat), (∀ k ∈ l, ∃ b, f k = some b) → ∃ r, JH f l i = some r
 | [], i, _ => ⟨_, rfl⟩
 | k :: l, i, h => by
  rw [JH]
  exact qau (h k (by simp)) fun _ _ => qap (fun _ => ⟨_, rfl⟩) fun _ => qeh l (i + 1) fun k hk => h k (by simp [hk])
theorem qei : ∀ (d n : Nat) (x : M), Ok d x → d + 10000 ≤ n → ∃ b, Jr n x = some b
 | d + 1, 0, x, h, hn => by omega
 | d + 1, n + 1, x, h, hn => by
  obtain ⟨h1, h2, h3⟩ := h
  obtain ⟨k, hk, _⟩ := qjo (n := n) (by omega) h1
  rw [Jr]
  rw [hk, qwv]
  refine qap (fun _ => ⟨_, rfl⟩) fun _ => qap (fun _ => ⟨_, rfl⟩) fun _ => ?_
  rw [qaa (by simp only [qav]; omega)]
  obtain ⟨r, hr⟩ := qeh (f := Jr n) x.Aa 0 fun c hc => qei d n c (h3 c hc) (by omega)
  rw [hr, qwv]
  cases r <;> exact ⟨_, rfl⟩
theorem qc3 {f : M → Option Bool} : ∀ (l : List M) (i : Nat), (JH f l i).bind (fun s0 => s0.el some fun t0 => some true) = some true → ∀ k ∈ l, f k = some true
 | [], i, _, k, hk => by cases hk
 | a :: l, i, h, k, hk => by
  rw [JH] at h
  cases ha : f a with
  | none => rw [ha] at h; cases h
  | some b =>
   rw [ha, qwv] at h
   cases b with
   | false => simp [Fl.el] at h
   | true =>
    rw [qww (by simp)] at h
    rcases List.mem_cons.1 hk with rfl | hk
    ·exact ha
    ·exact qc3 l (i + 1) h k hk
theorem qct {n : Nat} {x : M} (h : Jr n x = some true) : ∃ m k, n = m + 1 ∧ JM m x = some k ∧ k ≠ -2 ∧ (0 ≤ k → (x.Aa.length : Int) = k) ∧ ∀ c ∈ x.Aa, Jr m c = some true := by
 cases n with
 | zero => rw [Jr] at h; cases h
 | succ m =>
  rw [Jr] at h
  obtain ⟨k, hk, h⟩ := bnd h
  refine ⟨m, k, rfl, hk, ?_⟩
  cases q : decide (k = -2) with
  | true => rw [q, qwx rfl] at h; cases h
  | false =>
   rw [q, qww (by simp)] at h
   refine ⟨of_decide_eq_false q, ?_⟩
   cases q2 : (decide (k ≥ 0) && decide ((x.Aa.length : Int) ≠ k)) with
   | true => rw [q2, qwx rfl] at h; cases h
   | false =>
    rw [q2, qww (by simp)] at h
    obtain ⟨_, h⟩ := qa7 h
    refine ⟨fun h0 => ?_, qc3 x.Aa 0 h⟩
    simp only [Bool.and_eq_false_iff, decide_eq_false_iff_not] at q2
    omega
theorem qg6 {f : M → Option Bool} : ∀ (l : List M) (i : Nat), (∀ k ∈ l, ∃ b, f k = some b) → ∃ r, J8 f l i = some r
 | [], i, _ => ⟨_, rfl⟩
 | k :: l, i, h => by
  rw [J8]
  exact qau (h k (by simp)) fun _ _ => qap (fun _ => ⟨_, rfl⟩) fun _ => qg6 l (i + 1) fun k hk => h k (by simp [hk])
theorem qlv {f : M → Option Bool} {n : Nat} {x : M} (hl : x.Aa.length ≤ 700) (h : ∀ k ∈ x.Aa, ∃ b, f k = some b) : ∃ b, Jaz f n x = some b := by
 unfold Jaz
 refine qap (fun _ => ⟨_, rfl⟩) fun _ => ?_
 rw [qaa (by simp only [qav]; omega)]
 obtain ⟨r, hr⟩ := qg6 (f := f) x.Aa 0 h
 rw [hr, qwv]
 cases r <;> exact ⟨_, rfl⟩
theorem qdv {f : M → Option Bool} : ∀ (l : List M) (i : Nat), (J8 f l i).bind (fun s0 => s0.el some fun t0 => some true) = some true → ∀ k ∈ l, f k = some true
 | [], i, _, k, hk => by cases hk
 | a :: l, i, h, k, hk => by
  rw [J8] at h
  cases ha : f a with
  | none => rw [ha] at h; cases h
  | some b =>
   rw [ha, qwv] at h
   cases b with
   | false => simp [Fl.el] at h
   | true =>
    rw [qww (by simp)] at h
    rcases List.mem_cons.1 hk with rfl | hk
    ·exact ha
    ·exact qdv l (i + 1) h k hk
theorem qck {f : M → Option Bool} {n : Nat} {x : M} (h : Jaz f n x = some true) : x.Ab = 12 ∧ ∀ k ∈ x.Aa, f k = some true := by
 unfold Jaz at h
 cases q : (decide (x.Ab ≠ 12) || decide (x.Ac ≠ ([] : Str))) with
 | true => rw [q, qwx rfl] at h; cases h
 | false =>
  rw [q, qww (by simp)] at h
  obtain ⟨_, h⟩ := qa7 h
  simp only [Bool.or_eq_false_iff, decide_eq_false_iff_not, Classical.not_not] at q
  exact ⟨q.1, qdv x.Aa 0 h⟩
theorem qgc : ∀ (d n : Nat) (x : M), Ok d x → d + 10000 ≤ n → ∃ b, Jv n x = some b
 | d + 1, 0, x, h, hn => by omega
 | d + 1, n + 1, x, h, hn => by
  obtain ⟨h1, h2, h3⟩ := h
  have ex : ∀ c ∈ x.Aa, ∃ b, Jr n c = some b := fun c hc => qei d n c (h3 c hc) (by omega)
  have stt : ∀ c ∈ x.Aa, ∃ b, Jv n c = some b := fun c hc => qgc d n c (h3 c hc) (by omega)
  have bl : ∀ c ∈ x.Aa, ∃ b, Jaz (Jv n) n c = some b := fun c hc => by
   cases d with
   | zero => exact (h3 c hc).elim
   | succ e =>
    have hk := h3 c hc
    exact qlv hk.2.1 fun k hk2 => qgc e n k (hk.2.2 k hk2) (by omega)
  have mem : ∀ {i : Int} {c : M}, ix x.Aa i = some c → c ∈ x.Aa := fun {i c} h => by
   unfold ix at h
   split at h
   ·exact List.mem_of_getElem? h
   ·cases h
  have one : ∃ b, (if decide ((x.Aa.length : Int) = 1) then (ix x.Aa 0).bind fun x121 => (Jr n x121).bind fun x123 => some x123 else some false).bind (fun x124 => some x124) = some b :=
   qau (qap (fun h => qau (qcm (by omega) (by have := of_decide_eq_true h; omega)) fun c hc => qau (ex c (mem hc)) fun _ _ => ⟨_, rfl⟩) fun _ => ⟨_, rfl⟩) fun _ _ => ⟨_, rfl⟩
  rw [Jv]
  refine qap (fun _ => ?_) fun _ => ?_
  ·refine qau (qap (fun _ => ⟨_, rfl⟩) fun h => ?_) fun a ha => ?_
   ·simp only [Bool.or_eq_false_iff, decide_eq_false_iff_not] at h
    exact qau (qcm (by omega) (by omega)) fun c hc => qau (ex c (mem hc)) fun _ _ => ⟨_, rfl⟩
   ·have hlen : a = false → 2 ≤ x.Aa.length ∧ x.Aa.length ≤ 3 := fun e => by
     subst e
     cases q : ((decide (x.Ac ≠ ([] : Str)) || decide ((x.Aa.length : Int) < 2)) || decide ((x.Aa.length : Int) > 3)) with
     | true => rw [q, qwx rfl] at ha; cases ha
     | false => simp only [Bool.or_eq_false_iff, decide_eq_false_iff_not] at q; omega
    refine qau (qap (fun _ => ⟨_, rfl⟩) fun h => qau (qcm (by omega) (by have := hlen h; omega)) fun c hc => qau (bl c (mem hc)) fun _ _ => ⟨_, rfl⟩) fun b hb => ?_
    refine qap (fun _ => ⟨_, rfl⟩) fun hbf => ?_
    have ha' : a = false := by
     cases a with
     | false => rfl
     | true => rw [qwx rfl] at hb; cases hb; cases hbf
    have hl := hlen ha'
    refine qau (qap (fun _ => ⟨_, rfl⟩) fun h => qau (qcm (by omega) (by have := of_decide_eq_false h; omega)) fun c hc => qau (bl c (mem hc)) fun _ _ => ⟨_, rfl⟩) fun e he => ?_
    refine qap (fun _ => ⟨_, rfl⟩) fun hef => ?_
    have h3' : x.Aa.length = 3 := by
     cases q : decide ((x.Aa.length : Int) = 2) with
     | true => rw [q, qwx rfl] at he; cases he; cases hef
     | false => have := of_decide_eq_false q; omega
    refine qau (qcm (by omega) (by omega)) fun c hc => ?_
    refine qau (qap (fun _ => ?_) fun _ => ⟨_, rfl⟩) fun _ _ => ⟨_, rfl⟩
    rw [hc, qwv]
    exact qau (stt c (mem hc)) fun _ _ => ⟨_, rfl⟩
  ·refine qap (fun _ => qau (qdk h1) fun _ _ => ⟨_, rfl⟩) fun _ => ?_
   refine qap (fun _ => ⟨_, rfl⟩) fun _ => ?_
   refine qap (fun _ => ⟨_, rfl⟩) fun _ => ?_
   refine qap (fun _ => qau (qht (by omega) _) fun _ _ => qap (fun _ => ⟨_, rfl⟩) fun _ => one) fun _ => ?_
   refine qap (fun _ => qap (fun _ => ⟨_, rfl⟩) fun _ => one) fun _ => ?_
   refine qap (fun _ => qau (qdk h1) fun _ _ => qap (fun _ => ⟨_, rfl⟩) fun _ => one) fun _ => ?_
   refine qap (fun _ => qap (fun _ => ⟨_, rfl⟩) fun _ => one) fun _ => ?_
   refine qap (fun _ => qap (fun _ => ⟨_, rfl⟩) fun _ => one) fun _ => ?_
   refine qap (fun _ => qap (fun _ => ⟨_, rfl⟩) fun _ => one) fun _ => ?_
   exact ⟨_, rfl⟩
theorem qko {f : M → Int → Int → Option (Bool × Int)} {d : Int} (hd : -1000 ≤ d ∧ d ≤ 1000) : ∀ (l : List M) (i : Nat) (y : Int), 0 ≤ y → y ≤ 1000 → (∀ k ∈ l, ∀ z, 0 ≤ z → z ≤ 1000 → ∃ b m, f k z (d - 1) = some (b, m) ∧ (b = true → 0 ≤ m) ∧ m ≤ 1000) →
  ∃ r, Jan d f l i y = some r ∧ (∀ z, r = Fl.go z → 0 ≤ z ∧ z ≤ 1000) ∧ ∀ z, r = Fl.ret z → z.1 = false ∧ z.2 ≤ 1000
 | [], i, y, h0, h1, _ => ⟨_, rfl, fun z e => by cases e; exact ⟨h0, h1⟩, fun z e => by cases e⟩
 | k :: l, i, y, h0, h1, h => by
  obtain ⟨b, m, hk, hb, hm⟩ := h k (by simp) y h0 h1
  rw [Jan, qaa (by constructor <;> omega), hk, qwv]
  cases b with
  | false => exact ⟨_, qwx rfl, fun z e => (by cases e), fun z e => by cases e; exact ⟨rfl, hm⟩⟩
  | true => rw [qww (by simp)]; exact qko hd l (i + 1) m (hb rfl) hm fun k hk => h k (by simp [hk])
theorem qkp : ∀ (d n : Nat) (x : M) (z e : Int), Ok d x → d + 1 ≤ n → 0 ≤ z → z ≤ 1000 → 0 ≤ e → e ≤ 1000 → ∃ b m, Jam n x z e = some (b, m) ∧ (b = true → 0 ≤ m) ∧ m ≤ 1000
 | d + 1, 0, x, z, e, h, hn, _, _, _, _ => by omega
 | d + 1, n + 1, x, z, e, h, hn, h0, h1, e0, e1 => by
  obtain ⟨g1, g2, g3⟩ := h
  rw [Jam, qaa (by constructor <;> omega)]
  cases q : (decide (z - 1 < 0) || decide (e < 1)) with
  | true => exact ⟨false, z - 1, qwx rfl, fun h => (by cases h), by omega⟩
  | false =>
   simp only [Bool.or_eq_false_iff, decide_eq_false_iff_not] at q
   rw [qww (by simp), qaa (by simp only [qav]; omega)]
   obtain ⟨r, hr, r1, r2⟩ := qko (f := Jam n) (d := e) (by omega) x.Aa 0 (z - 1) (by omega) (by omega) fun k hk y y0 y1 => qkp d n k y (e - 1) (g3 k hk) (by omega) y0 y1 (by omega) (by omega)
   rw [hr, qwv]
   cases r with
   | ret w => exact ⟨w.1, w.2, rfl, (fun h => by rw [(r2 w rfl).1] at h; cases h), (r2 w rfl).2⟩
   | go w => exact ⟨true, w, rfl, fun _ => (r1 w rfl).1, (r1 w rfl).2⟩
theorem qkq {n : Nat} : ∀ (l : List M) (i : Nat), (∀ k ∈ l, ∃ b, Jv n k = some b) → ∃ r, Jap n l i = some r
 | [], i, _ => ⟨_, rfl⟩
 | k :: l, i, h => by
  rw [Jap]
  exact qau (h k (by simp)) fun _ _ => qap (fun _ => ⟨_, rfl⟩) fun _ => qkq l (i + 1) fun k hk => h k (by simp [hk])
theorem qe8 {n : Nat} : ∀ (l : List M) (i : Nat), (Jap n l i).bind (fun s0 => s0.el some fun t0 => some true) = some true → ∀ k ∈ l, Jv n k = some true
 | [], i, _, k, hk => by cases hk
 | a :: l, i, h, k, hk => by
  rw [Jap] at h
  cases ha : Jv n a with
  | none => rw [ha] at h; cases h
  | some b =>
   rw [ha, qwv] at h
   cases b with
   | false => simp [Fl.el] at h
   | true =>
    rw [qww (by simp)] at h
    rcases List.mem_cons.1 hk with rfl | hk
    ·exact ha
    ·exact qe8 l (i + 1) h k hk
theorem qpp {d n : Nat} {x : M} (h : Ok d x) (hn : d + 10000 ≤ n) : ∃ b, Jaw n x = some b := by
 cases d with
 | zero => exact h.elim
 | succ d =>
  obtain ⟨b, m, hs, _, _⟩ := qkp (d + 1) n x 512 32 h (by omega) (by omega) (by omega) (by omega) (by omega)
  unfold Jaw
  refine qap (fun _ => ⟨_, rfl⟩) fun _ => ?_
  rw [hs, qwv]
  refine qap (fun _ => ⟨_, rfl⟩) fun _ => ?_
  have := h.2.1
  rw [qaa (by simp only [qav]; omega)]
  obtain ⟨r, hr⟩ := qkq (n := n) x.Aa 0 fun k hk => qgc d n k (h.2.2 k hk) (by omega)
  rw [hr, qwv]
  cases r <;> exact ⟨_, rfl⟩
theorem qih {n : Nat} {x : M} (h : Jaw n x = some true) : ∀ k ∈ x.Aa, Jv n k = some true := by
 unfold Jaw at h
 split at h
 ·cases h
 ·obtain ⟨s, hs, h⟩ := bnd h
  split at h
  ·cases h
  ·obtain ⟨_, h⟩ := qa7 h
   exact qe8 x.Aa 0 h
abbrev Ck := Jl
abbrev Bd := Jk
theorem qii {env : List Bd} {s : Str} (hl : env.length ≤ 100000) : ∀ (n : Nat) (i : Int), -1 ≤ i → i < (env.length : Int) → i + 1 < n → ∃ r, J4 env s n i = some r
 | 0, i, _, _, h => by omega
 | n + 1, i, h0, h1, h => by
  rw [J4]
  refine qap (fun hi => ?_) fun _ => ⟨_, rfl⟩
  have hi := of_decide_eq_true hi
  obtain ⟨b, hb⟩ := qcm (s := env) (i := i) (by omega) (by omega)
  rw [hb, qwv]
  refine qap (fun _ => ⟨_, rfl⟩) fun _ => ?_
  rw [qaa (by constructor <;> omega)]
  exact qii hl n (i - 1) (by omega) (by omega) (by omega)
theorem qfx {env : List Bd} {s : Str} {n : Nat} (hl : env.length ≤ 100000) (hn : env.length + 1 ≤ n) : ∃ t, JaF n s env = some t := by
 unfold JaF
 obtain ⟨r, hr⟩ := qii (s := s) hl n ((env.length : Int) - 1) (by omega) (by omega) (by omega)
 rw [qaa (by constructor <;> omega), hr, qwv]
 cases r with
 | ret z => exact ⟨_, rfl⟩
 | go z => rw [el_go]; exact qau ⟨_, rfl⟩ fun _ _ => qap (fun _ => ⟨_, rfl⟩) fun _ => ⟨_, rfl⟩
theorem qq0 (t : Int) : ∀ (l : List Int) (i : Nat), ∃ r, JK t l i = some r
 | [], i => ⟨_, rfl⟩
 | x :: l, i => by
  rw [JK]
  exact qap (fun _ => ⟨_, rfl⟩) fun _ => qq0 t l (i + 1)
theorem qq1 (t : Int) {l : List Int} (h : l.length ≤ 1000) : ∃ b, Jw t l = some b := by
 obtain ⟨r, hr⟩ := qq0 t l 0
 unfold Jw
 rw [qaa (by simp only [qav]; omega), hr, qwv]
 cases r <;> exact ⟨_, rfl⟩
theorem qgd {x : M} {l : List Int} (h : l.length ≤ 1000) (h16 : x.Ab = 16 → l.length = 2) : ∃ t, J1 x l = some t := by
 have one : ∀ (t a : Int), ∃ r, (Jw t l).bind (fun x => if x = true then some a else some 0) = some r := fun t a => qau (qq1 t h) fun _ _ => qap (fun _ => ⟨_, rfl⟩) fun _ => ⟨_, rfl⟩
 unfold J1
 refine qap (fun _ => qau (qq1 1 h) fun _ _ => qap (fun _ => ⟨_, rfl⟩) fun _ => one 2 2) fun _ => ?_
 refine qap (fun _ => one 2 2) fun _ => ?_
 refine qap (fun _ => one 2 2) fun _ => ?_
 refine qap (fun _ => one 3 3) fun _ => ?_
 refine qap (fun _ => one 3 3) fun _ => ?_
 refine qap (fun _ => one 3 3) fun _ => ?_
 refine qap (fun hk => ?_) fun _ => ⟨_, rfl⟩
 have h2 := h16 (of_decide_eq_true hk)
 have cmp : ∃ r, (ix l 0).bind (fun x36 => (ix l 1).bind fun x39 => if decide (x36 = x39) = true then some (3 : Int) else some 0) = some r := qau (qcm (by omega) (by omega)) fun _ _ => qau (qcm (by omega) (by omega)) fun _ _ => qap (fun _ => ⟨_, rfl⟩) fun _ => ⟨_, rfl⟩
 refine qap (fun _ => cmp) fun _ => ?_
 refine qap (fun _ => cmp) fun _ => ?_
 refine qap (fun _ => one 2 3) fun _ => ?_
 refine qap (fun _ => one 2 3) fun _ => ?_
 exact one 1 3
theorem qew (c : Ck) (x : M) (e : Err) : ∃ r, JD c x e = some r := by
 unfold JD
 exact qap (fun _ => ⟨_, rfl⟩) fun _ => ⟨_, rfl⟩
theorem qge (s : Str) : ∃ r, JaB s = some r := by
 unfold JaB
 repeat (refine qap (fun _ => ⟨_, rfl⟩) fun _ => ?_)
 exact ⟨_, rfl⟩
theorem qsf (c : Ck) (x : M) (l : List Int) : ∃ r, JQ c x l = some r := by
 unfold JQ
 refine qau (qge _) fun f _ => qap (fun _ => qau (qew _ _ _) fun _ _ => ⟨_, rfl⟩) fun _ => ?_
 refine qau (qap (fun _ => ⟨_, rfl⟩) fun h => ?_) fun _ _ => qap (fun _ => qau (qew _ _ _) fun _ _ => ⟨_, rfl⟩) fun _ => ⟨_, rfl⟩
 have h := of_decide_eq_false h
 exact qau (qcm (by omega) (by omega)) fun _ _ => ⟨_, rfl⟩
theorem qkr {f : Ck → M → List Bd → Option (Int × Ck)} {env : List Bd} : ∀ (l : List M) (i : Nat) (y : List Int) (a : Int) (e : Err), (∀ k ∈ l, ∀ c, ∃ r, f c k env = some r) → y.length + l.length ≤ 1000 →
  ∃ r, JF f env l i y a e = some r ∧ ∀ z, r = Fl.go z → z.1.length = y.length + l.length
 | [], i, y, a, e, _, _ => ⟨_, rfl, fun z h => by cases h; rfl⟩
 | k :: l, i, y, a, e, h, hy => by
  simp only [List.length_cons] at hy
  obtain ⟨r, hr⟩ := h k (by simp) ⟨a, e⟩
  rw [JF, hr, qwv, qaa (by simp only [lim, List.length_cons, List.length_nil]; omega)]
  cases q : r.2.err.isSome with
  | true => exact ⟨_, qwx rfl, fun z h => by cases h⟩
  | false =>
   rw [qww (by simp)]
   obtain ⟨r', hr', hl⟩ := qkr (f := f) (env := env) l (i + 1) (y ++ [r.1]) r.2.line r.2.err (fun k hk => h k (by simp [hk])) (by simp only [List.length_append, List.length_cons, List.length_nil]; omega)
   exact ⟨r', hr', fun z hz => by rw [hl z hz]; simp only [List.length_append, List.length_cons, List.length_nil]; omega⟩
theorem operands_16 {m : Nat} {x : M} {k : Int} (hk : x.Ab = 16) (h : JM m x = some k) : k = 2 ∨ k = -2 := by
 unfold JM at h
 rw [hk] at h
 rw [qww (by decide), qww (by decide), qww (by decide), qww (by decide), qww (by decide), qww (by decide), qwx (by decide)] at h
 obtain ⟨a, _, h⟩ := bnd h
 obtain ⟨b, _, h⟩ := bnd h
 split at h <;> cases h <;> simp
theorem qks {env : List Bd} (he : env.length ≤ 100000) : ∀ (d n m : Nat) (x : M) (c : Ck), Ok d x → Jr m x = some true → d + 200000 ≤ n → ∃ r, Jz n c x env = some r
 | d + 1, 0, m, x, c, _, _, hn => by omega
 | d + 1, n + 1, m, x, c, h, hv, hn => by
  obtain ⟨h1, h2, h3⟩ := h
  obtain ⟨m', k, rfl, hk, k2, k3, k4⟩ := qct hv
  obtain ⟨r, hr, hl⟩ := qkr (f := Jz n) (env := env) x.Aa 0 [] c.line c.err (fun q hq c' => qks he d n m' q c' (h3 q hq) (k4 q hq) (by omega)) (by simp <;> omega)
  rw [Jz, qaa (by simp only [qav]; omega), hr, qwv]
  cases r with
  | ret z => exact ⟨_, rfl⟩
  | go z =>
   have hz := hl z rfl
   simp only [List.length_nil, Nat.zero_add] at hz
   rw [el_go]
   refine qap (fun _ => ⟨_, rfl⟩) fun _ => ?_
   refine qap (fun _ => ⟨_, rfl⟩) fun _ => ?_
   refine qap (fun _ => ⟨_, rfl⟩) fun _ => ?_
   refine qap (fun _ => qau (qfx he (by omega)) fun _ _ => qap (fun _ => qau (qew _ _ _) fun _ _ => ⟨_, rfl⟩) fun _ => ⟨_, rfl⟩) fun _ => ?_
   refine qap (fun _ => qau (qsf _ _ _) fun _ _ => ⟨_, rfl⟩) fun _ => ?_
   refine qau (qgd (by omega) fun h16 => ?_) fun _ _ => qap (fun _ => qau (qew _ _ _) fun _ _ => ⟨_, rfl⟩) fun _ => ⟨_, rfl⟩
   rcases operands_16 h16 hk with rfl | rfl
   ·have := k3 (by omega); omega
   ·exact absurd rfl k2
theorem qpq (x : M) : ∃ t, Jbq x = some t := by
 unfold Jbq
 repeat (refine qap (fun _ => ⟨_, rfl⟩) fun _ => ?_)
 exact ⟨_, rfl⟩
theorem qjp {env : List Bd} {s : Str} {n : Nat} (hl : env.length ≤ 100000) (hn : env.length + 1 ≤ n) : ∃ t, JaC n s env = some t := by
 unfold JaC
 exact qau (qfx hl hn) fun _ _ => ⟨_, rfl⟩
theorem qd4 {env : List Bd} {s : Str} {t : Int} (hl : env.length ≤ 100000) : J2 env s t = some (env ++ [⟨s, t⟩]) := by
 unfold J2
 rw [qaa (by constructor <;> omega), qaa (by simp only [lim]; omega), qaa (by simp only [lim, List.length_nil]; omega), qaa (by simp only [lim, List.length_append, List.length_cons, List.length_nil]; omega)]; rfl
theorem qc4 {n : Nat} {x : M} (h : Jv n x = some true) : ∃ m, n = m + 1 ∧ (∀ c, x.Aa[0]? = some c → Jr m c = some true) ∧
  (x.Ab = 2 → 2 ≤ x.Aa.length ∧ ∀ c ∈ x.Aa.drop 1, (c.Ab = 12 ∧ ∀ k ∈ c.Aa, Jv m k = some true) ∨ (c.Ab ≠ 12 ∧ Jv m c = some true)) := by
 cases n with
 | zero => rw [Jv] at h; cases h
 | succ m =>
  have one : (if decide ((x.Aa.length : Int) = 1) then (ix x.Aa 0).bind fun x121 => (Jr m x121).bind fun x123 => some x123 else some false).bind (fun x124 => some x124) = some true → ∀ c, x.Aa[0]? = some c → Jr m c = some true := fun h c hc => by
   obtain ⟨b, hb, h⟩ := bnd h
   cases h
   split at hb
   ·have hx : ix x.Aa 0 = some c := by unfold ix; rw [qwx (by omega)]; exact hc
    rw [hx, qwv] at hb
    obtain ⟨b2, hb2, hb⟩ := bnd hb
    cases hb; exact hb2
   ·cases hb
  have nil : (x.Aa.length : Int) = 0 → ∀ c, x.Aa[0]? = some c → Jr m c = some true := fun h c hc => by
   rw [List.getElem?_eq_none (by omega)] at hc; cases hc
  refine ⟨m, rfl, ?_⟩
  rw [Jv] at h
  by_cases k2 : x.Ab = 2
  ·rw [qwx (by simpa using k2)] at h
   obtain ⟨a, ha, g⟩ := bnd h
   obtain ⟨b, hb, gg⟩ := bnd g
   cases b with
   | true => rw [qwx rfl] at gg; cases gg
   | false =>
    rw [qww (by simp)] at gg
    cases a with
    | true => rw [qwx rfl] at hb; cases hb
    | false =>
     cases q : ((decide (x.Ac ≠ ([] : Str)) || decide ((x.Aa.length : Int) < 2)) || decide ((x.Aa.length : Int) > 3)) with
     | true => rw [q, qwx rfl] at ha; cases ha
     | false =>
      rw [q, qww (by simp)] at ha
      simp only [Bool.or_eq_false_iff, decide_eq_false_iff_not] at q
      rw [qww (by simp)] at hb
      obtain ⟨c0, hc0, ha⟩ := bnd ha
      obtain ⟨e0, he0, ha⟩ := bnd ha
      obtain ⟨c1, hc1, hb⟩ := bnd hb
      obtain ⟨e1, he1, hb⟩ := bnd hb
      have ha : e0 = true := by simpa using ha
      have hb : e1 = true := by simpa using hb
      subst ha; subst hb
      have g0 : x.Aa[0]? = some c0 := by unfold ix at hc0; rw [qwx (by omega)] at hc0; exact hc0
      have g1 : x.Aa[1]? = some c1 := by unfold ix at hc1; rw [qwx (by omega)] at hc1; exact hc1
      obtain ⟨i1, i2⟩ := qck he1
      refine ⟨fun c hc => by rw [g0] at hc; cases hc; exact he0, fun _ => ⟨by omega, fun c hc => ?_⟩⟩
      obtain ⟨i, hi⟩ := List.getElem?_of_mem hc
      rw [List.getElem?_drop] at hi
      have hil : 1 + i < x.Aa.length := (List.getElem?_eq_some_iff.1 hi).1
      by_cases z : i = 0
      ·subst z
       rw [g1] at hi; cases hi
       exact .inl ⟨i1, i2⟩
      ·have : i = 1 := by omega
       subst this
       have hx2 : ix x.Aa 2 = some c := by unfold ix; rw [qwx (by omega)]; exact hi
       rw [qww (by simp <;> omega), hx2, qwv] at gg
       obtain ⟨e, he, g3⟩ := bnd gg
       obtain ⟨e', he', he2⟩ := bnd he
       cases he2
       cases e with
       | true => have := qck he'; exact .inl ⟨this.1, this.2⟩
       | false =>
        rw [qww (by simp), qwv] at g3
        obtain ⟨e2, he2, g4⟩ := bnd g3
        cases g4
        split at he2
        ·rename_i hk
         have hk := of_decide_eq_true hk
         rw [qwv] at he2
         obtain ⟨e3, he3, g5⟩ := bnd he2
         cases g5
         exact .inr ⟨by omega, he3⟩
        ·cases he2
  ·rw [qww (by simpa using k2)] at h
   refine ⟨?_, fun h2 => absurd h2 k2⟩
   by_cases q6 : x.Ab = 6
   ·rw [qwx (by simpa using q6)] at h
    obtain ⟨_, _, g⟩ := bnd h
    exact nil (of_decide_eq_true (Bool.and_eq_true_iff.1 (Option.some.inj g)).2)
   rw [qww (by simpa using q6)] at h
   by_cases q10 : x.Ab = 10
   ·rw [qwx (by simpa using q10)] at h
    exact nil (of_decide_eq_true (Bool.and_eq_true_iff.1 (Option.some.inj h)).2)
   rw [qww (by simpa using q10)] at h
   by_cases q11 : x.Ab = 11
   ·rw [qwx (by simpa using q11)] at h
    exact nil (of_decide_eq_true (Bool.and_eq_true_iff.1 (Option.some.inj h)).2)
   rw [qww (by simpa using q11)] at h
   have fin : ∀ {b : Bool} {p : Option Bool}, (if b = true then some false else p) = some true → p = some true := fun {b p} h => by
    cases b with
    | true => rw [qwx rfl] at h; cases h
    | false => rw [qww (by simp)] at h; exact h
   by_cases q3 : x.Ab = 3
   ·rw [qwx (by simpa using q3)] at h
    obtain ⟨_, _, g⟩ := bnd h
    exact one (fin g)
   rw [qww (by simpa using q3)] at h
   by_cases q4 : x.Ab = 4
   ·rw [qwx (by simpa using q4)] at h; exact one (fin h)
   rw [qww (by simpa using q4)] at h
   by_cases q5 : x.Ab = 5
   ·rw [qwx (by simpa using q5)] at h
    obtain ⟨_, _, g⟩ := bnd h
    exact one (fin g)
   rw [qww (by simpa using q5)] at h
   by_cases q7 : x.Ab = 7
   ·rw [qwx (by simpa using q7)] at h; exact one (fin h)
   rw [qww (by simpa using q7)] at h
   by_cases q8 : x.Ab = 8
   ·rw [qwx (by simpa using q8)] at h; exact one (fin h)
   rw [qww (by simpa using q8)] at h
   by_cases q9 : x.Ab = 9
   ·rw [qwx (by simpa using q9)] at h; exact one (fin h)
   rw [qww (by simpa using q9)] at h
   cases h
def Gd (d : Nat) (x : M) : Prop := Ok d x ∧ ∃ m, Jv m x = some true
theorem qgf {d : Nat} {k : M} (h : Ok d k) (hv : (k.Ab = 12 ∧ ∀ q ∈ k.Aa, ∃ m, Jv m q = some true) ∨ (k.Ab ≠ 12 ∧ ∃ m, Jv m k = some true)) :
  ∃ l, Jax k = some l ∧ l.length ≤ 700 ∧ ∀ x ∈ l, Gd d x := by
 unfold Jax
 rcases hv with ⟨h1, h2⟩ | ⟨h1, h2⟩
 ·refine ⟨_, qwx (by simpa using h1), ?_, ?_⟩
  ·cases d with
   | zero => exact h.elim
   | succ d => exact h.2.1
  ·cases d with
   | zero => exact h.elim
   | succ d => exact fun x hx => ⟨(h.2.2 x hx).succ, h2 x hx⟩
 ·refine ⟨_, qww (by simpa using h1), by simp, fun x hx => ?_⟩
  simp at hx; subst hx
  exact ⟨h, h2⟩
theorem qkt {f : Ck → List M → List Bd → Option Ck} {env : List Bd} : ∀ (l : List M) (i : Nat) (a : Int) (e : Err), (∀ k ∈ l, ∃ q, Jax k = some q ∧ ∀ c, ∃ r, f c q env = some r) → ∃ r, Ju f env l i a e = some r
 | [], i, a, e, _ => ⟨_, rfl⟩
 | k :: l, i, a, e, h => by
  obtain ⟨q, hq, hr⟩ := h k (by simp)
  rw [Ju, hq, qwv]
  exact qau (hr _) fun _ _ => qkt l (i + 1) _ _ fun k hk => h k (by simp [hk])
set_option maxRecDepth 100000 in
theorem qku {n d : Nat} {f : Ck → List M → List Bd → Option Ck} (hn : d + 200000 ≤ n) (hf : ∀ (l : List M) (env : List Bd) (c : Ck), (∀ x ∈ l, Gd d x) → l.length ≤ 700 → env.length + 701 * (d + 1) ≤ 90000 → ∃ r, f c l env = some r) :
  ∀ (l : List M) (i : Nat) (env : List Bd) (a : Int) (e : Err), (∀ x ∈ l, Gd (d + 1) x) → env.length + l.length + 701 * (d + 1) ≤ 90000 → ∃ r, Jp n f l i env a e = some r
 | [], i, env, a, e, _, _ => ⟨_, rfl⟩
 | x :: l, i, env, a, e, h, hl => by
  simp only [List.length_cons] at hl
  have ih : ∀ (env' : List Bd) (a' : Int) (e' : Err), env'.length ≤ env.length + 1 → ∃ r, Jp n f l (i + 1) env' a' e' = some r := fun env' a' e' he => qku hn hf l (i + 1) env' a' e' (fun y hy => h y (by simp [hy])) (by omega)
  obtain ⟨⟨h1, h2, h3⟩, m0, hm⟩ := h x (by simp)
  obtain ⟨m, rfl, k0, k2⟩ := qc4 hm
  rw [Jp]
  refine qap (fun _ => ih _ _ _ (by omega)) fun hk => ?_
  have hk := of_decide_eq_false hk
  have hg0 : x.Aa[0]? = some (x.Aa[0]'(by omega)) := List.getElem?_eq_getElem (by omega)
  have hi0 : ix x.Aa 0 = some (x.Aa[0]'(by omega)) := by unfold ix; rw [qwx (by omega)]; exact hg0
  rw [hi0, qwv]
  have tl : ∀ c1 : Ck, ∀ t : Int, ∃ r, (if decide (x.Ab = 3) then
    (JaC n x.Ac env).bind fun x61 =>
    if x61 then
    (JD c1 x (some 4)).bind fun x65 =>
    (J2 env x.Ac t).bind fun x70 =>
    if x65.err.isSome then
    some (Fl.ret x65)
    else
    Jp n f l (i + 1) x70 x65.line x65.err
    else
    (J2 env x.Ac t).bind fun x70 =>
    if c1.err.isSome then
    some (Fl.ret c1)
    else
    Jp n f l (i + 1) x70 c1.line c1.err
    else
    if decide (x.Ab = 2) then
    (chk (0 ≤ (1 : Int) ∧ (1 : Int) ≤ (x.Aa.length : Int) ∧ (x.Aa.length : Int) ≤ (x.Aa.length : Int))).bind fun _ =>
    (chk ((subL x.Aa (1 : Int) (x.Aa.length : Int)).length ≤ qav)).bind fun _ =>
    (Ju f env (subL x.Aa (1 : Int) (x.Aa.length : Int)) 0 c1.line c1.err).bind fun t3 =>
    if t3.2.isSome then
    some (Fl.ret (⟨t3.1, t3.2⟩ : Ck))
    else
    Jp n f l (i + 1) env t3.1 t3.2
    else
    if c1.err.isSome then
    some (Fl.ret c1)
    else
    Jp n f l (i + 1) env c1.line c1.err : Option (Fl Ck (List Bd × Int × Err))) = some r := fun c1 t => by
   refine qap (fun _ => ?_) fun _ => ?_
   ·refine qau (qjp (by omega) (by omega)) fun _ _ => qap (fun _ => ?_) fun _ => ?_
    ·refine qau (qew _ _ _) fun _ _ => ?_
     rw [qd4 (by omega), qwv]
     exact qap (fun _ => ⟨_, rfl⟩) fun _ => ih _ _ _ (by simp)
    ·rw [qd4 (by omega), qwv]
     exact qap (fun _ => ⟨_, rfl⟩) fun _ => ih _ _ _ (by simp)
   ·refine qap (fun hk2 => ?_) fun _ => qap (fun _ => ⟨_, rfl⟩) fun _ => ih _ _ _ (by omega)
    obtain ⟨g1, g2⟩ := k2 (of_decide_eq_true hk2)
    have hsub : subL x.Aa (1 : Int) (x.Aa.length : Int) = x.Aa.drop 1 := by
     unfold subL
     rw [show ((1 : Int)).toNat = 1 from rfl]
     exact List.take_of_length_le (by rw [List.length_drop]; omega)
    rw [qaa (by omega), hsub, qaa (by rw [List.length_drop]; simp only [qav]; omega)]
    refine qau (qkt _ 0 _ _ fun k hk => ?_) fun _ _ => qap (fun _ => ⟨_, rfl⟩) fun _ => ih _ _ _ (by omega)
    have hkm : k ∈ x.Aa := List.mem_of_mem_drop hk
    obtain ⟨q, hq, ql, qg⟩ := qgf (h3 k hkm) (by
     rcases g2 k hk with ⟨a1, a2⟩ | ⟨a1, a2⟩
     ·exact .inl ⟨a1, fun q hq => ⟨m, a2 q hq⟩⟩
     ·exact .inr ⟨a1, m, a2⟩)
    exact ⟨q, hq, fun c => hf q env c qg ql (by omega)⟩
  refine qau (qks (env := env) (by omega) d n m _ _ (h3 _ (List.getElem_mem _)) (k0 _ hg0) (by omega)) fun t ht => ?_
  refine qau (qpq x) fun nd _ => ?_
  refine qap (fun _ => ?_) fun _ => ?_
  ·refine qau (qew _ _ _) fun c1 _ => ?_
   exact qap (fun _ => ⟨_, rfl⟩) fun _ => tl c1 t.1
  ·exact qap (fun _ => ⟨_, rfl⟩) fun _ => tl t.2 t.1
set_option maxRecDepth 100000 in
theorem qkv : ∀ (d n : Nat) (l : List M) (env : List Bd) (c : Ck), (∀ x ∈ l, Gd d x) → l.length ≤ 700 → env.length + 701 * (d + 1) ≤ 90000 → d + 300000 ≤ n → ∃ r, Jt n c l env = some r
 | d, 0, l, env, c, _, _, _, hn => by omega
 | 0, n + 1, l, env, c, h, hl, he, hn => by
  have : l = [] := by
   cases l with
   | nil => rfl
   | cons x l => exact (h x (by simp)).1.elim
  subst this
  rw [Jt, qaa (by simp [qav])]
  exact ⟨_, rfl⟩
 | d + 1, n + 1, l, env, c, h, hl, he, hn => by
  obtain ⟨r, hr⟩ := qku (n := n) (d := d) (f := Jt n) (by omega) (fun l' env' c' h1 h2 h3 => qkv d n l' env' c' h1 h2 h3 (by omega)) l 0 env c.line c.err h (by omega)
  rw [Jt, qaa (by simp only [qav]; omega), hr, qwv]
  cases r <;> exact ⟨_, rfl⟩
inductive A2 {α β : Type} (P : α → β → Prop) : List α → List β → Prop
 | nil : A2 P [] []
 | cons {a : α} {b : β} {l : List α} {k : List β} : P a b → A2 P l k → A2 P (a :: l) (b :: k)
theorem A2.len {α β : Type} {P : α → β → Prop} {l : List α} {k : List β} (h : A2 P l k) : k.length = l.length := by
 induction h with
 | nil => rfl
 | cons _ _ ih => simp [ih]
theorem A2.mem {α β : Type} {P : α → β → Prop} {l : List α} {k : List β} (h : A2 P l k) : ∀ b ∈ k, ∃ a ∈ l, P a b := by
 induction h with
 | nil => intro b hb; cases hb
 | cons hp _ ih =>
  intro b hb
  rcases List.mem_cons.1 hb with rfl | hb
  ·exact ⟨_, by simp, hp⟩
  ·obtain ⟨a, ha, q⟩ := ih b hb; exact ⟨a, by simp [ha], q⟩
def OkN : Nat → N → Prop
 | 0, _ => False
 | d + 1, x => x.Ac.length ≤ 3000 ∧ x.Aa.length ≤ 700 ∧ ∀ k ∈ x.Aa, OkN d k
theorem qkw {f : N → Int → Option Int} {e B : Int} (he : -100 ≤ e ∧ e ≤ 100) (hB : 0 ≤ B ∧ B ≤ 1000000) {P : N → Prop} : ∀ (l : List N) (i : Nat) (y : Int), 1 ≤ y → y ≤ 700 → (∀ k ∈ l, ∃ v, f k (e - 1) = some v ∧ 1 ≤ v ∧ v ≤ B ∧ (v ≤ 700 → P k)) →
  ∃ r, Jbn e f l i y = some r ∧ (∀ z, r = Fl.go z → z ≤ 700 ∧ y + l.length ≤ z ∧ ∀ k ∈ l, P k) ∧ ∀ z, r = Fl.ret z → 700 < z ∧ z ≤ 700 + B
 | [], i, y, h1, h2, _ => ⟨_, rfl, fun z e => by cases e; exact ⟨h2, by simp, fun k hk => by cases hk⟩, fun z e => by cases e⟩
 | k :: l, i, y, h1, h2, h => by
  obtain ⟨v, hv, v1, v2, v3⟩ := h k (by simp)
  rw [Jbn, qaa (by constructor <;> omega), hv, qwv, qaa (by constructor <;> omega)]
  by_cases q : y + v > 700
  ·exact ⟨_, qwx (by simpa using q), fun z e => (by cases e), fun z e => by cases e; omega⟩
  ·rw [qww (by simpa using q)]
   obtain ⟨r, hr, g1, g2⟩ := qkw he hB (P := P) l (i + 1) (y + v) (by omega) (by omega) fun k hk => h k (by simp [hk])
   refine ⟨r, hr, fun z hz => ?_, g2⟩
   obtain ⟨a1, a2, a3⟩ := g1 z hz
   refine ⟨a1, by rw [List.length_cons]; omega, fun q hq => ?_⟩
   rcases List.mem_cons.1 hq with rfl | hq
   ·exact v3 (by omega)
   ·exact a3 q hq
theorem qkx : ∀ (e n : Nat) (x : N), Jb.ok x → e + 1 ≤ n → e ≤ 40 → ∃ v, Jbo n x (e : Int) = some v ∧ 1 ≤ v ∧ v ≤ 1000 + 700 * e ∧ (v ≤ 700 → OkN e x)
 | e, 0, x, _, hn, _ => by omega
 | 0, n + 1, x, h, hn, he => by
  rw [Jbo, qwx (by simp)]
  exact ⟨_, rfl, by omega, by omega, fun h => by omega⟩
 | e + 1, n + 1, x, h, hn, he => by
  obtain ⟨k0, k1, l2, k2, k3⟩ := h
  rw [Jbo]
  by_cases q : x.Ac.length > 3000
  ·rw [qwx (by simp; omega)]
   exact ⟨_, rfl, by omega, by omega, fun h => by omega⟩
  ·rw [qww (by simp; omega), qaa l2]
   obtain ⟨r, hr, g1, g2⟩ := qkw (f := Jbo n) (e := ((e + 1 : Nat) : Int)) (B := 1000 + 700 * e) (by omega) (by omega) (P := fun k => OkN e k) x.Aa 0 1 (by omega) (by omega) fun k hk => by
    have := qkx e n k (k2 k hk) (by omega) (by omega)
    rw [show (((e + 1 : Nat) : Int) - 1) = (e : Int) from by omega]
    exact this
   rw [hr, qwv]
   cases r with
   | ret z =>
    obtain ⟨a1, a2⟩ := g2 z rfl
    exact ⟨z, rfl, by omega, by omega, fun h => by omega⟩
   | go z =>
    obtain ⟨a1, a2, a3⟩ := g1 z rfl
    exact ⟨z, rfl, by omega, by omega, fun _ => ⟨by omega, by omega, a3⟩⟩
theorem Large_ok {n : Nat} {x : N} (h : Jb.ok x) (hn : 41 ≤ n) : Jb0 n x = some true ∨ (Jb0 n x = some false ∧ OkN 40 x) := by
 obtain ⟨v, hv, _, _, h2⟩ := qkx 40 n x h hn (by omega)
 unfold Jb0
 rw [show ((40 : Nat) : Int) = 40 from rfl] at hv
 rw [hv, qwv]
 by_cases q : v > 700
 ·left; simp [q]
 ·right; exact ⟨by simp [q], h2 (by omega)⟩
def Cvd : Nat → N → M → Prop
 | 0, _, _ => False
 | d + 1, x, y => y.Ab = x.Ab ∧ y.Ac = x.Ac ∧ y.Ad = x.Ad ∧ A2 (Cvd d) x.Aa y.Aa
def Mvd (b : Int) : Nat → N → N → Prop
 | 0, _, _ => False
 | d + 1, x, y => y.Ab = x.Ab ∧ y.Ac = x.Ac ∧ y.Ad = IntKind.i64.wrap (x.Ad + b) ∧ A2 (Mvd b d) x.Aa y.Aa
theorem qtw {f : N → Option M} {P : N → M → Prop} : ∀ (l : List N) (i : Nat) (y : List M), (∀ k ∈ l, ∃ z, f k = some z ∧ P k z) → y.length + l.length ≤ 10000 → ∃ ys, JbI f l i y = some (y ++ ys) ∧ A2 P l ys
 | [], i, y, _, _ => ⟨[], by simp [JbI], .nil⟩
 | k :: l, i, y, h, hl => by
  simp only [List.length_cons] at hl
  obtain ⟨z, hz, hp⟩ := h k (by simp)
  obtain ⟨ys, e, ha⟩ := qtw (P := P) l (i + 1) (y ++ [z]) (fun k hk => h k (by simp [hk])) (by simp only [List.length_append, List.length_cons, List.length_nil]; omega)
  rw [JbI, hz, qwv, qaa (by simp only [lim, List.length_cons, List.length_nil]; omega), e]
  exact ⟨z :: ys, by simp, .cons hp ha⟩
theorem qtx : ∀ (d n : Nat) (x : N), OkN d x → d + 1 ≤ n → ∃ y, JbF n x = some y ∧ Cvd d x y
 | d + 1, 0, x, _, hn => by omega
 | d + 1, n + 1, x, h, hn => by
  obtain ⟨h1, h2, h3⟩ := h
  obtain ⟨ys, e, ha⟩ := qtw (f := JbF n) (P := Cvd d) x.Aa 0 [] (fun k hk => qtx d n k (h3 k hk) (by omega)) (by simp <;> omega)
  rw [JbF, qaa (by simp only [qav]; omega), e, qwv]
  exact ⟨_, rfl, rfl, rfl, rfl, ha⟩
theorem Cvd.ok : ∀ {d : Nat} {x : N} {y : M}, OkN d x → Cvd d x y → Ok d y
 | d + 1, x, y, h, hc => by
  obtain ⟨h1, h2, h3⟩ := h
  obtain ⟨c1, c2, c3, c4⟩ := hc
  refine ⟨by rw [c2]; exact h1, by rw [c4.len]; exact h2, fun k hk => ?_⟩
  obtain ⟨a, ha, q⟩ := c4.mem k hk
  exact Cvd.ok (h3 a ha) q
theorem Mvd.ok {b : Int} : ∀ {d : Nat} {x y : N}, OkN d x → Mvd b d x y → OkN d y
 | d + 1, x, y, h, hc => by
  obtain ⟨h1, h2, h3⟩ := h
  obtain ⟨c1, c2, c3, c4⟩ := hc
  refine ⟨by rw [c2]; exact h1, by rw [c4.len]; exact h2, fun k hk => ?_⟩
  obtain ⟨a, ha, q⟩ := c4.mem k hk
  exact Mvd.ok (h3 a ha) q
def cnt : Nat → M → Nat
 | 0, _ => 0
 | d + 1, x => 1 + (x.Aa.map (cnt d)).sum
def cntL (d : Nat) (l : List M) : Nat := (l.map (cnt d)).sum
theorem cntL_cons (d : Nat) (x : M) (l : List M) : cntL d (x :: l) = cnt d x + cntL d l := by simp [cntL]
theorem cnt_eq (d : Nat) (x : M) : cnt (d + 1) x = 1 + cntL d x.Aa := rfl
theorem cnt_mem {d : Nat} : ∀ {l : List M} {x : M}, x ∈ l → cnt d x ≤ cntL d l
 | a :: l, x, h => by
  rw [cntL_cons]
  rcases List.mem_cons.1 h with rfl | h
  ·omega
  ·have := cnt_mem (d := d) h; omega
theorem qky : ∀ {d : Nat} {x : M}, Ok d x → cnt (d + 1) x = cnt d x
 | d + 1, x, h => by
  rw [cnt_eq, cnt_eq]
  have : ∀ l : List M, (∀ k ∈ l, Ok d k) → cntL (d + 1) l = cntL d l := by
   intro l
   induction l with
   | nil => intro _; rfl
   | cons a l ih =>
    intro hl
    rw [cntL_cons, cntL_cons, ih fun k hk => hl k (by simp [hk]), qky (hl a (by simp))]
  rw [this x.Aa h.2.2]
def pre (s : Str) : Bool := ((decide (s = ([109, 101, 116, 104, 111, 100] : Str)) || decide (s = ([104, 111, 115, 116] : Str))) || decide (s = ([112, 97, 116, 104] : Str))) || decide (s = ([113, 117, 101, 114, 121] : Str))
def lk (s : Str) (env : List Bd) : Int := match env.reverse.find? (fun b => decide (b.Name = s)) with
 | some b => b.As
 | none => if pre s then 1 else 0
theorem qni (s : Str) (env : List Bd) (b : Bd) : lk s (env ++ [b]) = if b.Name = s then b.As else lk s env := by
 unfold lk
 rw [List.reverse_append]
 simp only [List.reverse_cons, List.reverse_nil, List.nil_append, List.cons_append, List.find?_cons]
 by_cases h : b.Name = s <;> simp [h]
theorem qe9 {env : List Bd} {s : Str} (hl : env.length ≤ 100000) : ∀ (j n : Nat), j ≤ env.length → j + 1 ≤ n →
  J4 env s n ((j : Int) - 1) = some (match (env.take j).reverse.find? (fun b => decide (b.Name = s)) with | some b => Fl.ret b.As | none => Fl.go (-1))
 | 0, n + 1, _, _ => by
  rw [J4, qww (by simp)]; simp
 | j + 1, n + 1, h, hn => by
  have hj : j < env.length := by omega
  have e : ((j + 1 : Nat) : Int) - 1 = (j : Int) := by omega
  have hix : ix env (j : Int) = some env[j] := by unfold ix; rw [qwx (by omega)]; simp [hj]
  have ht : (env.take (j + 1)).reverse = env[j] :: (env.take j).reverse := by
   rw [List.take_succ_eq_append_getElem hj, List.reverse_append]; rfl
  rw [e, J4, qwx (by simp), hix, qwv, qwv, ht, List.find?_cons]
  by_cases q : env[j].Name = s
  ·rw [qwx (by simpa using q)]; simp [q]
  ·rw [qww (by simpa using q), qaa (by constructor <;> omega), qe9 hl j n (by omega) (by omega)]
   simp [q]
 | 0, 0, _, h => by omega
 | j + 1, 0, _, h => by omega
theorem qij {env : List Bd} {s : Str} {n : Nat} (hl : env.length ≤ 100000) (hn : env.length + 1 ≤ n) : JaF n s env = some (lk s env) := by
 unfold JaF
 rw [qaa (by constructor <;> omega), qe9 hl env.length n (by omega) hn, qwv, List.take_length]
 unfold lk
 cases env.reverse.find? (fun b => decide (b.Name = s)) with
 | some b => rfl
 | none =>
  rw [el_go]
  show (if pre s = true then some (1 : Int) else some 0) = some (if pre s = true then 1 else 0)
  split <;> rfl
def Ev (e e' : List Bd) : Prop := ∀ s, lk s e ≠ 0 → lk s e' = lk s e
theorem Ev.trans {a b c : List Bd} (h : Ev a b) (k : Ev b c) : Ev a c := fun s hs => by
 have h1 := h s hs
 rw [k s (by rw [h1]; exact hs), h1]
theorem Ev.ext {e : List Bd} {s : Str} {t : Int} (h : lk s e = 0) : Ev e (e ++ [⟨s, t⟩]) := fun q hq => by
 rw [qni]
 have : s ≠ q := fun e1 => hq (e1 ▸ h)
 rw [qww this]
def qty : Nat → N → Nat
 | 0, _ => 0
 | d + 1, x => 1 + (x.Aa.map (qty d)).sum
def qnj (d : Nat) (l : List N) : Nat := (l.map (qty d)).sum
theorem qlw (d : Nat) (x : N) (l : List N) : qnj d (x :: l) = qty d x + qnj d l := by simp [qnj]
theorem qsg (d : Nat) (x : N) : qty (d + 1) x = 1 + qnj d x.Aa := rfl
theorem Cvd.cnt : ∀ {d : Nat} {x : N} {y : M}, Cvd d x y → Rt.cnt d y = qty d x
 | d + 1, x, y, ⟨_, _, _, h⟩ => by
  rw [cnt_eq, qsg]
  have : ∀ {l : List N} {k : List M}, A2 (Cvd d) l k → cntL d k = qnj d l := by
   intro l k h
   induction h with
   | nil => rfl
   | cons hp _ ih => rw [cntL_cons, qlw, ih, hp.cnt]
  rw [this h]
def isL (c : UInt8) : Bool := (decide ((c.toNat : Int) ≥ 97) && decide ((c.toNat : Int) ≤ 122)) || decide ((c.toNat : Int) = 95)
def isD (c : UInt8) : Bool := decide ((c.toNat : Int) ≥ 48) && decide ((c.toNat : Int) ≤ 57)
def isA (c : UInt8) : Bool := isL c || isD c
def wdy : Str → Bool
 | [] => false
 | c :: t => isL c && t.all isA
def nmr : Str → Bool
 | [] => false
 | c :: t => isD c && t.all isD && decide (t.length ≤ 8)
def kw (s : Str) : Bool := decide (s ∈ gkw0)
def nm (s : Str) : Bool := wdy s && decide (s.length ≤ 4096) && !kw s
theorem qfa : ∀ (s : Str) (i : Nat), Jag s i = some (if s.all isD = true then Fl.go () else Fl.ret false)
 | [], i => rfl
 | c :: s, i => by
  have e : (if decide ((c.toNat : Int) < 48) = true then some true else some (decide ((c.toNat : Int) > 57))) = some (!isD c) := by
   by_cases q : (c.toNat : Int) < 48
   ·have : isD c = false := by simp only [isD, Bool.and_eq_false_iff, decide_eq_false_iff_not]; omega
    rw [qwx (by simpa using q), this]; rfl
   ·rw [qww (by simpa using q)]
    by_cases q2 : (c.toNat : Int) > 57
    ·have : isD c = false := by simp only [isD, Bool.and_eq_false_iff, decide_eq_false_iff_not]; omega
     rw [this, decide_eq_true q2]; rfl
    ·have : isD c = true := by simp only [isD, Bool.and_eq_true, decide_eq_true_eq]; omega
     rw [this, decide_eq_false q2]; rfl
  rw [Jag, e, qwv]
  cases q : isD c with
  | true => rw [qww (by simp), qfa s (i + 1), List.all_cons, q]; rfl
  | false => rw [qwx (by simp), List.all_cons, q]; rfl
theorem qnk {s : Str} (h : s.length ≤ 3000) : Ja9 s = some (nmr s) := by
 unfold Ja9
 rw [qaa (by simp only [qav]; omega), qfa, qwv]
 cases s with
 | nil => rfl
 | cons c t =>
  rw [nmr, List.all_cons]
  cases q : (isD c && t.all isD) with
  | true =>
   rw [qwx rfl, el_go, Bool.true_and]
   have e1 : decide (((c :: t).length : Int) ≥ 1) = true := by simp only [List.length_cons, decide_eq_true_eq]; omega
   have e2 : decide (((c :: t).length : Int) ≤ 9) = decide (t.length ≤ 8) := by
    simp only [List.length_cons, decide_eq_decide]; omega
   rw [e1, e2, Bool.true_and]
  | false => rw [qww (by simp), el_ret, Bool.false_and]
def prt (s : Str) : Bool := s.all fun c => !(decide ((c.toNat : Int) < 32) || decide ((c.toNat : Int) > 126))
theorem qpr (c : UInt8) (s : Str) : prt (c :: s) = (!(decide ((c.toNat : Int) < 32) || decide ((c.toNat : Int) > 126)) && prt s) := by simp [prt]
theorem qps (c : UInt8) : (if decide ((c.toNat : Int) < 32) = true then some true else some (decide ((c.toNat : Int) > 126))) = some (decide ((c.toNat : Int) < 32) || decide ((c.toNat : Int) > 126)) := by
 cases decide ((c.toNat : Int) < 32) <;> simp
theorem qpt (c : UInt8) : (if decide ((c.toNat : Int) = 34) = true then some true else some (decide ((c.toNat : Int) = 92))) = some (decide ((c.toNat : Int) = 34) || decide ((c.toNat : Int) = 92)) := by
 cases decide ((c.toNat : Int) = 34) <;> simp
theorem qd5 : ∀ (s : Str) (i : Nat) (y : Str), y.length + 2 * s.length ≤ 1000000 → ∃ r, Jal s i y = some r ∧ (prt s = true → ∃ z, r = Fl.go z ∧ z.length ≤ 1000000) ∧ (prt s = false → r = Fl.ret ([], some 2))
 | [], i, y, h => ⟨_, rfl, fun _ => ⟨_, rfl, by simpa using h⟩, fun h => (by simp [prt] at h)⟩
 | c :: s, i, y, h => by
  simp only [List.length_cons] at h
  rw [Jal, qps, qwv, qpr]
  cases q : (decide ((c.toNat : Int) < 32) || decide ((c.toNat : Int) > 126)) with
  | true => exact ⟨_, qwx rfl, fun h => (by simp at h), fun _ => rfl⟩
  | false =>
   rw [qww (by simp), qpt, qwv, Bool.not_false, Bool.true_and]
   cases q2 : (decide ((c.toNat : Int) = 34) || decide ((c.toNat : Int) = 92)) with
   | true =>
    rw [qwx rfl, qaa (by simp only [lim, List.length_cons, List.length_nil]; omega), qaa (by simp only [lim, List.length_append, List.length_cons, List.length_nil]; omega)]
    exact qd5 s (i + 1) _ (by simp only [List.length_append, List.length_cons, List.length_nil]; omega)
   | false =>
    rw [qww (by simp), qaa (by simp only [lim, List.length_cons, List.length_nil]; omega)]
    exact qd5 s (i + 1) _ (by simp only [List.length_append, List.length_cons, List.length_nil]; omega)
theorem qdl {s : Str} (h : s.length ≤ 3000) : Jah s = some (prt s) := by
 obtain ⟨r, hr, g1, g2⟩ := qd5 s 0 [34] (by simp <;> omega)
 unfold Jah JbN
 rw [qaa (by simp only [qav]; omega), hr, qwv]
 cases q : prt s with
 | false => rw [g2 q, el_ret]; rfl
 | true =>
  obtain ⟨z, rfl, hz⟩ := g1 q
  rw [el_go, qaa (by simp only [lim, List.length_cons, List.length_nil]; omega)]; rfl
def Sm (f : N → Option Bool) (g : M → Option Bool) (x : N) (y : M) : Prop := ∃ b, f x = some b ∧ g y = some b
def cmp (s : Str) : Bool := decide (s = [61, 61]) || (decide (s = [33, 61]) || (decide (s = [60]) || (decide (s = [60, 61]) || (decide (s = [115, 116, 97, 114, 116, 115]) || (decide (s = [101, 110, 100, 115]) || decide (s = [99, 111, 110, 116, 97, 105, 110, 115]))))))
theorem qjq (s : Str) : ((Jao 4 s).bind fun x22 => (if x22 = true then some true else (Jao 1 s).bind fun x26 => some x26)) = some (cmp s) := by
 by_cases h1 : s = [61, 61]; · subst h1; rfl
 by_cases h2 : s = [33, 61]; · subst h2; rfl
 by_cases h3 : s = [60]; · subst h3; rfl
 by_cases h4 : s = [60, 61]; · subst h4; rfl
 by_cases h5 : s = [115, 116, 97, 114, 116, 115]; · subst h5; rfl
 by_cases h6 : s = [101, 110, 100, 115]; · subst h6; rfl
 by_cases h7 : s = [99, 111, 110, 116, 97, 105, 110, 115]; · subst h7; rfl
 simp [Jao, h1, h2, h3, h4, h5, h6, h7, cmp]
theorem Sm.ix {f : N → Option Bool} {g : M → Option Bool} {l : List N} {k : List M} (h : A2 (Sm f g) l k) {i : Int} (h0 : 0 ≤ i) (h1 : i < (l.length : Int)) : ∃ a b r, ix l i = some a ∧ ix k i = some b ∧ f a = some r ∧ g b = some r := by
 induction h generalizing i with
 | nil => simp at h1; omega
 | cons hp _ ih =>
  rename_i a b l k _
  simp only [List.length_cons] at h1
  by_cases q : i = 0
  ·subst q
   obtain ⟨r, h2, h3⟩ := hp
   exact ⟨a, b, r, rfl, rfl, h2, h3⟩
  ·obtain ⟨a', b', r, e1, e2, e3, e4⟩ := ih (i := i - 1) (by omega) (by omega)
   have st : ∀ {α : Type} (x : α) (t : List α), Go.SL.ix (x :: t) i = Go.SL.ix t (i - 1) := fun x t => by
    unfold Go.SL.ix
    rw [qwx h0, qwx (by omega), show i.toNat = (i - 1).toNat + 1 from by omega, List.getElem?_cons_succ]
   exact ⟨a', b', r, by rw [st, e1], by rw [st, e2], e3, e4⟩
theorem A2.ix {α β : Type} {P : α → β → Prop} {l : List α} {k : List β} (h : A2 P l k) {i : Int} (h0 : 0 ≤ i) (h1 : i < (l.length : Int)) : ∃ a b, ix l i = some a ∧ ix k i = some b ∧ P a b ∧ a ∈ l := by
 induction h generalizing i with
 | nil => simp at h1; omega
 | cons hp _ ih =>
  rename_i a b l k _
  simp only [List.length_cons] at h1
  by_cases q : i = 0
  ·subst q
   exact ⟨a, b, rfl, rfl, hp, by simp⟩
  ·obtain ⟨a', b', e1, e2, e3, e4⟩ := ih (i := i - 1) (by omega) (by omega)
   have st : ∀ {α : Type} (x : α) (t : List α), Go.SL.ix (x :: t) i = Go.SL.ix t (i - 1) := fun x t => by
    unfold Go.SL.ix
    rw [qwx h0, qwx (by omega), show i.toNat = (i - 1).toNat + 1 from by omega, List.getElem?_cons_succ]
   exact ⟨a', b', by rw [st, e1], by rw [st, e2], e3, by simp [e4]⟩
theorem qej {a e : Int} {x : M} {f : Err} : JD ⟨a, some e⟩ x f = some ⟨a, some e⟩ := rfl
theorem qco {a : Int} {x : M} {f : Err} : JD ⟨a, none⟩ x f = some ⟨x.Ad, f⟩ := rfl
theorem qhu {f : Ck → M → List Bd → Option (Int × Ck)} {env : List Bd} {a e : Int} (hf : ∀ k r, f ⟨a, some e⟩ k env = some r → r.2 = ⟨a, some e⟩) : ∀ (l : List M) (i : Nat) (y : List Int) (r : Fl (Int × Ck) (List Int × Int × Err)), JF f env l i y a (some e) = some r →
  (∀ z, r = Fl.ret z → z.2 = ⟨a, some e⟩) ∧ ∀ z, r = Fl.go z → z.2.1 = a ∧ z.2.2 = some e
 | [], i, y, r, h => by
  cases h
  exact ⟨fun z q => (by cases q), fun z q => by cases q; exact ⟨rfl, rfl⟩⟩
 | k :: l, i, y, r, h => by
  rw [JF] at h
  obtain ⟨x, hx, h1⟩ := bnd h
  obtain ⟨_, h2⟩ := qa7 h1
  have hs := hf _ _ hx
  rw [hs, qwx (by simp)] at h2
  cases h2
  exact ⟨fun z q2 => (by cases q2; rfl), fun z q => by cases q⟩
theorem call_same {a e : Int} {x : M} {l : List Int} {r : Int × Ck} (h : JQ ⟨a, some e⟩ x l = some r) : r.2 = ⟨a, some e⟩ := by
 unfold JQ at h
 obtain ⟨f, hf, h1⟩ := bnd h
 split at h1
 ·rw [qej] at h1; cases h1; rfl
 ·obtain ⟨b, hb, h2⟩ := bnd h1
  split at h2
  ·rw [qej] at h2; cases h2; rfl
  ·cases h2; rfl
theorem qg7 {env : List Bd} {a e : Int} : ∀ (n : Nat) (x : M) (r : Int × Ck), Jz n ⟨a, some e⟩ x env = some r → r.2 = ⟨a, some e⟩
 | 0, x, r, h => by rw [Jz] at h; cases h
 | n + 1, x, r, h => by
  rw [Jz] at h
  obtain ⟨_, h1⟩ := qa7 h
  obtain ⟨s, hs, h2⟩ := bnd h1
  obtain ⟨g1, g2⟩ := qhu (a := a) (e := e) (fun k r => qg7 n k r) x.Aa 0 [] s hs
  cases s with
  | ret z => rw [el_ret] at h2; cases h2; exact g1 _ rfl
  | go z =>
   obtain ⟨z1, z2, z3⟩ := z
   obtain ⟨k1, k2⟩ := g2 _ rfl
   simp only at k1 k2
   subst k1
   subst k2
   rw [el_go] at h2
   by_cases q20 : x.Ab = 20
   ·rw [qwx (by simpa using q20)] at h2; cases h2; rfl
   rw [qww (by simpa using q20)] at h2
   by_cases q21 : x.Ab = 21
   ·rw [qwx (by simpa using q21)] at h2; cases h2; rfl
   rw [qww (by simpa using q21)] at h2
   by_cases q22 : x.Ab = 22
   ·rw [qwx (by simpa using q22)] at h2; cases h2; rfl
   rw [qww (by simpa using q22)] at h2
   by_cases q23 : x.Ab = 23
   ·rw [qwx (by simpa using q23)] at h2
    obtain ⟨u, hu, h3⟩ := bnd h2
    split at h3
    ·rw [qej] at h3; cases h3; rfl
    ·cases h3; rfl
   rw [qww (by simpa using q23)] at h2
   by_cases q24 : x.Ab = 24
   ·rw [qwx (by simpa using q24)] at h2
    obtain ⟨u, hu, h3⟩ := bnd h2
    cases h3; exact call_same hu
   rw [qww (by simpa using q24)] at h2
   obtain ⟨u, hu, h3⟩ := bnd h2
   split at h3
   ·rw [qej] at h3; cases h3; rfl
   ·cases h3; rfl
theorem qek {n : Nat} {f : Ck → List M → List Bd → Option Ck} {a e : Int} : ∀ (l : List M) (i : Nat) (env : List Bd) (r : Fl Ck (List Bd × Int × Err)), Jp n f l i env a (some e) = some r →
  (∀ z, r = Fl.ret z → z = ⟨a, some e⟩) ∧ ∀ z, r = Fl.go z → z.2.1 = a ∧ z.2.2 = some e
 | [], i, env, r, h => by
  cases h
  exact ⟨fun z q => (by cases q), fun z q => by cases q; exact ⟨rfl, rfl⟩⟩
 | x :: l, i, env, r, h => by
  rw [Jp] at h
  cases q : decide ((x.Aa.length : Int) = 0) with
  | true => rw [q, qwx rfl] at h; exact qek l (i + 1) env r h
  | false =>
   rw [q, qww (by simp)] at h
   obtain ⟨k, hk, h1⟩ := bnd h
   obtain ⟨t, ht, h2⟩ := bnd h1
   obtain ⟨nd, _, h3⟩ := bnd h2
   have hs := qg7 n _ _ ht
   rw [hs, qww (by simp), qwx (by simp)] at h3
   cases h3
   exact ⟨fun z q3 => (by cases q3; rfl), fun z q => by cases q⟩
theorem qlx : ∀ (n : Nat) (a e : Int) (l : List M) (env : List Bd) (r : Ck), Jt n ⟨a, some e⟩ l env = some r → r = ⟨a, some e⟩
 | 0, a, e, l, env, r, h => by rw [Jt] at h; cases h
 | n + 1, a, e, l, env, r, h => by
  rw [Jt] at h
  obtain ⟨_, h1⟩ := qa7 h
  obtain ⟨s, hs, h2⟩ := bnd h1
  obtain ⟨g1, g2⟩ := qek l 0 env s hs
  cases s with
  | ret z => rw [el_ret] at h2; cases h2; exact g1 _ rfl
  | go z =>
   rw [el_go] at h2; cases h2
   obtain ⟨k1, k2⟩ := g2 z rfl
   rw [k1, k2]
abbrev Env := Str → Int
abbrev qdm := Int × Int
def base : Env := fun s => if pre s then 1 else 0
def ext (ρ : Env) (s : Str) (t : Int) : Env := fun q => if s = q then t else ρ q
def lkf (env : List Bd) : Env := fun s => lk s env
theorem qsh : lkf [] = base := rfl
theorem qpu (env : List Bd) (s : Str) (t : Int) : lkf (env ++ [⟨s, t⟩]) = ext (lkf env) s t := by
 funext q; exact qni q env ⟨s, t⟩
def kidsE (f : M → Except qdm Int) : List M → Except qdm (List Int)
 | [] => .ok []
 | k :: l => match f k with
  | .error e => .error e
  | .ok t => match kidsE f l with
   | .error e => .error e
   | .ok ts => .ok (t :: ts)
noncomputable def fnc (s : Str) : Int × Int := (JaB s).getD (0, 0)
noncomputable def opr (x : M) (ts : List Int) : Int := (J1 x ts).getD 0
noncomputable def tyN (ρ : Env) (x : M) (ts : List Int) : Except qdm Int :=
 if x.Ab = 20 then .ok 2
 else if x.Ab = 21 then .ok 1
 else if x.Ab = 22 then .ok 3
 else if x.Ab = 23 then (if ρ x.Ac = 0 then .error (x.Ad, 8) else .ok (ρ x.Ac))
 else if x.Ab = 24 then (if (fnc x.Ac).2 = 0 then .error (x.Ad, 8) else if ts = [(fnc x.Ac).1] then .ok (fnc x.Ac).2 else .error (x.Ad, 9))
 else if opr x ts = 0 then .error (x.Ad, 9) else .ok (opr x ts)
noncomputable def tyE : Nat → Env → M → Except qdm Int
 | 0, _, _ => .error (0, 9)
 | d + 1, ρ, x => match kidsE (tyE d ρ) x.Aa with
  | .error e => .error e
  | .ok ts => tyN ρ x ts
theorem kidsE_len {f : M → Except qdm Int} : ∀ {l : List M} {ts : List Int}, kidsE f l = .ok ts → ts.length = l.length
 | [], ts, h => by cases h; rfl
 | k :: l, ts, h => by
  rw [kidsE] at h
  cases q : f k with
  | error e => rw [q] at h; cases h
  | ok t =>
   rw [q] at h
   simp only at h
   cases q2 : kidsE f l with
   | error e => rw [q2] at h; cases h
   | ok us => rw [q2] at h; cases h; simp [kidsE_len q2]
def Res (a : Int) (r : Except qdm Int) (t : Int) (c : Ck) : Prop := match r with
 | .ok v => t = v ∧ c = ⟨a, none⟩
 | .error e => c = ⟨e.1, some e.2⟩
theorem qel {f : Ck → M → List Bd → Option (Int × Ck)} {g : M → Except qdm Int} {env : List Bd} {a : Int} : ∀ (l : List M) (i : Nat) (y : List Int), (∀ k ∈ l, ∃ t c, f ⟨a, none⟩ k env = some (t, c) ∧ Res a (g k) t c) → y.length + l.length ≤ 1000 →
  ∃ r, JF f env l i y a none = some r ∧ match kidsE g l with
   | .ok ts => r = Fl.go (y ++ ts, a, none)
   | .error e => r = Fl.ret (0, ⟨e.1, some e.2⟩)
 | [], i, y, _, _ => ⟨_, rfl, by simp [kidsE]⟩
 | k :: l, i, y, h, hy => by
  simp only [List.length_cons] at hy
  obtain ⟨t, c, hr, hq⟩ := h k (by simp)
  rw [JF, hr, qwv, qaa (by simp only [lim, List.length_cons, List.length_nil]; omega), kidsE]
  unfold Res at hq
  cases q : g k with
  | error e =>
   rw [q] at hq
   simp only at hq
   subst hq
   exact ⟨_, qwx rfl, rfl⟩
  | ok v =>
   rw [q] at hq
   simp only at hq
   obtain ⟨rfl, rfl⟩ := hq
   simp only [Option.isSome_none, Bool.false_eq_true, if_false]
   obtain ⟨r, hr, h2⟩ := qel (f := f) (g := g) (env := env) (a := a) l (i + 1) (y ++ [t]) (fun k hk => h k (by simp [hk])) (by simp only [List.length_append, List.length_cons, List.length_nil]; omega)
   refine ⟨r, hr, ?_⟩
   cases q2 : kidsE g l with
   | error e => rw [q2] at h2; exact h2
   | ok ts => rw [q2] at h2; rw [h2]; simp
theorem qtz (s : Str) : JaB s = some (fnc s) := by
 obtain ⟨r, hr⟩ := qge s
 unfold fnc; rw [hr]; rfl
theorem qt0 {x : M} {l : List Int} (h : l.length ≤ 1000) (h16 : x.Ab = 16 → l.length = 2) : J1 x l = some (opr x l) := by
 obtain ⟨r, hr⟩ := qgd h h16
 unfold opr; rw [hr]; rfl
theorem qnl {a : Int} {x : M} {l : List Int} : JQ ⟨a, none⟩ x l = some ((fnc x.Ac).2, if (fnc x.Ac).2 = 0 then ⟨x.Ad, some 8⟩ else if l = [(fnc x.Ac).1] then ⟨a, none⟩ else ⟨x.Ad, some 9⟩) := by
 unfold JQ
 rw [qtz, qwv]
 by_cases q : (fnc x.Ac).2 = 0
 ·rw [qwx (by simpa using q), qco, qwx q]; rfl
 ·rw [qww (by simpa using q), qww q]
  match l with
  | [] => rw [qwx (by simp), qwv, qwx rfl, qco, qww (by simp)]; rfl
  | [t] =>
   rw [qww (by simp), show ix [t] 0 = some t from rfl, qwv, qwv]
   by_cases q2 : t = (fnc x.Ac).1
   ·rw [qww (by simpa using q2), qwx (by rw [q2])]
   ·rw [qwx (by simpa using q2), qco, qww (by simpa using q2)]; rfl
  | t :: u :: l => rw [qwx (by simp; omega), qwv, qwx rfl, qco, qww (by simp)]; rfl
theorem qg8 {env : List Bd} (he : env.length ≤ 100000) {a : Int} : ∀ (d n m : Nat) (x : M), Ok d x → Jr m x = some true → d + 200000 ≤ n → ∃ t c, Jz n ⟨a, none⟩ x env = some (t, c) ∧ Res a (tyE d (lkf env) x) t c
 | d + 1, 0, m, x, _, _, hn => by omega
 | d + 1, n + 1, m, x, h, hv, hn => by
  obtain ⟨h1, h2, h3⟩ := h
  obtain ⟨m', k, rfl, hk, k2, k3, k4⟩ := qct hv
  obtain ⟨r, hr, hl⟩ := qel (f := Jz n) (g := tyE d (lkf env)) (env := env) (a := a) x.Aa 0 [] (fun q hq => qg8 he d n m' q (h3 q hq) (k4 q hq) (by omega)) (by simp <;> omega)
  rw [Jz, qaa (by simp only [qav]; omega), hr, qwv, tyE]
  cases q : kidsE (tyE d (lkf env)) x.Aa with
  | error e =>
   rw [q] at hl
   simp only at hl
   subst hl
   exact ⟨_, _, rfl, rfl⟩
  | ok ts =>
   rw [q] at hl
   simp only [List.nil_append] at hl
   subst hl
   have hlen := kidsE_len q
   simp only [el_go, tyN]
   by_cases q20 : x.Ab = 20
   ·rw [qwx (by simpa using q20), qwx q20]; exact ⟨_, _, rfl, rfl, rfl⟩
   rw [qww (by simpa using q20), qww q20]
   by_cases q21 : x.Ab = 21
   ·rw [qwx (by simpa using q21), qwx q21]; exact ⟨_, _, rfl, rfl, rfl⟩
   rw [qww (by simpa using q21), qww q21]
   by_cases q22 : x.Ab = 22
   ·rw [qwx (by simpa using q22), qwx q22]; exact ⟨_, _, rfl, rfl, rfl⟩
   rw [qww (by simpa using q22), qww q22]
   by_cases q23 : x.Ab = 23
   ·rw [qwx (by simpa using q23), qwx q23, qij he (by omega), qwv]
    by_cases q0 : lk x.Ac env = 0
    ·rw [qwx (by simpa using q0), qco, qwv, qwx (show lkf env x.Ac = 0 from q0)]; exact ⟨_, _, rfl, rfl⟩
    ·rw [qww (by simpa using q0), qww (show ¬ lkf env x.Ac = 0 from q0)]; exact ⟨_, _, rfl, rfl, rfl⟩
   rw [qww (by simpa using q23), qww q23]
   by_cases q24 : x.Ab = 24
   ·rw [qwx (by simpa using q24), qwx q24, qnl, qwv]
    refine ⟨_, _, rfl, ?_⟩
    by_cases q0 : (fnc x.Ac).2 = 0
    ·rw [qwx q0, qwx q0]; rfl
    ·rw [qww q0, qww q0]
     by_cases q1 : ts = [(fnc x.Ac).1]
     ·rw [qwx q1, qwx q1]; exact ⟨rfl, rfl⟩
     ·rw [qww q1, qww q1]; rfl
   rw [qww (by simpa using q24), qww q24, qt0 (by omega) fun h16 => by
    rcases operands_16 h16 hk with rfl | rfl
    ·have := k3 (by omega); omega
    ·exact absurd rfl k2]
   rw [qwv]
   by_cases q0 : opr x ts = 0
   ·rw [qwx (by simpa using q0), qco, qwv, qwx q0]; exact ⟨_, _, rfl, rfl⟩
   ·rw [qww (by simpa using q0), qww q0]; exact ⟨_, _, rfl, rfl, rfl⟩
def nds (k : Int) : Int := if k = 2 then 3 else if k = 4 then 1 else if k = 5 then 1 else if k = 7 then 1 else if k = 8 then 2 else if k = 9 then 2 else 0
theorem qt1 (x : M) : Jbq x = some (nds x.Ab) := by
 unfold Jbq nds
 by_cases h1 : x.Ab = 2; · rw [qwx (by simpa using h1), qwx h1]
 rw [qww (by simpa using h1), qww h1]
 by_cases h2 : x.Ab = 4; · rw [qwx (by simpa using h2), qwx h2]
 rw [qww (by simpa using h2), qww h2]
 by_cases h3 : x.Ab = 5; · rw [qwx (by simpa using h3), qwx h3]
 rw [qww (by simpa using h3), qww h3]
 by_cases h4 : x.Ab = 7; · rw [qwx (by simpa using h4), qwx h4]
 rw [qww (by simpa using h4), qww h4]
 by_cases h5 : x.Ab = 8; · rw [qwx (by simpa using h5), qwx h5]
 rw [qww (by simpa using h5), qww h5]
 by_cases h6 : x.Ab = 9; · rw [qwx (by simpa using h6), qwx h6]
 rw [qww (by simpa using h6), qww h6]
def brn (k : M) : List M := if k.Ab = 12 then k.Aa else [k]
theorem qkz (k : M) : Jax k = some (brn k) := by
 unfold Jax brn
 by_cases h : k.Ab = 12
 ·rw [qwx (by simpa using h), qwx h]
 ·rw [qww (by simpa using h), qww h]
def foldS (g : Env → M → Except qdm Env) : Env → List M → Except qdm Env
 | ρ, [] => .ok ρ
 | ρ, x :: l => match g ρ x with
  | .error e => .error e
  | .ok ρ' => foldS g ρ' l
def brs (g : M → Except qdm Env) : List M → Option qdm
 | [] => none
 | k :: l => match g k with
  | .error e => some e
  | .ok _ => brs g l
noncomputable def stm : Nat → Env → M → Except qdm Env
 | 0, _, _ => .error (0, 9)
 | d + 1, ρ, x => match x.Aa with
  | [] => .ok ρ
  | k0 :: ks => match tyE d ρ k0 with
   | .error e => .error e
   | .ok t =>
    if nds x.Ab ≠ 0 ∧ t ≠ nds x.Ab then .error (x.Ad, 9)
    else if x.Ab = 3 then (if ρ x.Ac = 0 then .ok (ext ρ x.Ac t) else .error (x.Ad, 4))
    else if x.Ab = 2 then (match brs (fun k => foldS (stm d) ρ (brn k)) ks with
     | some e => .error e
     | none => .ok ρ)
    else .ok ρ
def fin (a : Int) (r : Except qdm Env) : Ck := match r with
 | .ok _ => ⟨a, none⟩
 | .error e => ⟨e.1, some e.2⟩
theorem qnm {f : Ck → List M → List Bd → Option Ck} {env : List Bd} {a e : Int} (hs : ∀ l r, f ⟨a, some e⟩ l env = some r → r = ⟨a, some e⟩) : ∀ (l : List M) (i : Nat), (∀ k ∈ l, ∃ r, f ⟨a, some e⟩ (brn k) env = some r) → Ju f env l i a (some e) = some (a, some e)
 | [], i, _ => rfl
 | k :: l, i, h => by
  obtain ⟨r, hr⟩ := h k (by simp)
  have := hs _ _ hr
  rw [Ju, qkz, qwv, hr, qwv, this]
  exact qnm hs l (i + 1) fun q hq => h q (by simp [hq])
theorem qnn {f : Ck → List M → List Bd → Option Ck} {g : M → Except qdm Env} {env : List Bd} {a : Int} (hs : ∀ a e l r, f ⟨a, some e⟩ l env = some r → r = ⟨a, some e⟩) : ∀ (l : List M) (i : Nat), (∀ k ∈ l, f ⟨a, none⟩ (brn k) env = some (fin a (g k))) → (∀ k ∈ l, ∀ c, ∃ r, f c (brn k) env = some r) →
  Ju f env l i a none = some (match brs g l with
   | none => (a, none)
   | some e => (e.1, some e.2))
 | [], i, _, _ => rfl
 | k :: l, i, h, h' => by
  rw [Ju, qkz, qwv, h k (by simp), qwv, brs]
  cases q : g k with
  | error e => exact qnm (fun l r => hs _ _ l r) l (i + 1) fun q hq => h' q (by simp [hq]) _
  | ok ρ => exact qnn hs l (i + 1) (fun q hq => h q (by simp [hq])) fun q hq => h' q (by simp [hq])
theorem qvg {α : Type} {x : α} {l : List α} : subL (x :: l) (1 : Int) (((x :: l).length : Nat) : Int) = l := by
 unfold subL
 rw [show ((1 : Int)).toNat = 1 from rfl, List.drop_succ_cons, List.drop_zero, List.take_of_length_le (by simp only [List.length_cons]; omega)]
set_option maxRecDepth 100000 in
theorem qem {n d : Nat} {f : Ck → List M → List Bd → Option Ck} {a : Int} (hn : d + 200000 ≤ n)
  (hs : ∀ env a e l r, f ⟨a, some e⟩ l env = some r → r = ⟨a, some e⟩)
  (hf : ∀ (l : List M) (env : List Bd), (∀ x ∈ l, Gd d x) → l.length ≤ 700 → env.length + 701 * (d + 1) ≤ 90000 → f ⟨a, none⟩ l env = some (fin a (foldS (stm d) (lkf env) l)))
  (hx : ∀ (l : List M) (env : List Bd) (c : Ck), (∀ x ∈ l, Gd d x) → l.length ≤ 700 → env.length + 701 * (d + 1) ≤ 90000 → ∃ r, f c l env = some r) :
  ∀ (l : List M) (i : Nat) (env : List Bd), (∀ x ∈ l, Gd (d + 1) x) → env.length + l.length + 701 * (d + 1) ≤ 90000 →
   ∃ r, Jp n f l i env a none = some r ∧ match foldS (stm (d + 1)) (lkf env) l with
    | .ok ρ => ∃ env', r = Fl.go (env', a, none) ∧ lkf env' = ρ ∧ env'.length ≤ env.length + l.length
    | .error e => r = Fl.ret ⟨e.1, some e.2⟩
 | [], i, env, _, _ => ⟨_, rfl, env, rfl, rfl, by simp⟩
 | x :: l, i, env, hg, he => by
  simp only [List.length_cons] at he
  have hgl : ∀ x ∈ l, Gd (d + 1) x := fun q hq => hg q (by simp [hq])
  have rec_ : ∀ env', env'.length ≤ env.length + 1 → ∃ r, Jp n f l (i + 1) env' a none = some r ∧ match foldS (stm (d + 1)) (lkf env') l with
    | .ok ρ => ∃ env2, r = Fl.go (env2, a, none) ∧ lkf env2 = ρ ∧ env2.length ≤ env.length + (l.length + 1)
    | .error e => r = Fl.ret ⟨e.1, some e.2⟩ := fun env' h1 => by
   obtain ⟨r, hr, h2⟩ := qem hn hs hf hx l (i + 1) env' hgl (by omega)
   refine ⟨r, hr, ?_⟩
   cases q : foldS (stm (d + 1)) (lkf env') l with
   | error e => rw [q] at h2; exact h2
   | ok ρ => rw [q] at h2; obtain ⟨e2, a1, a2, a3⟩ := h2; exact ⟨e2, a1, a2, by omega⟩
  obtain ⟨hok, m, hm⟩ := hg x (by simp)
  obtain ⟨m, rfl, hv0, hv2⟩ := qc4 hm
  obtain ⟨o1, o2, o3⟩ := hok
  rw [Jp, foldS]
  simp only [List.length_cons]
  cases hk : x.Aa with
  | nil =>
   rw [qwx (by simp), stm, hk]
   exact rec_ env (by omega)
  | cons k0 ks =>
   have hk0 : k0 ∈ x.Aa := by rw [hk]; simp
   obtain ⟨t, c, ht, hR⟩ := qg8 (env := env) (by omega) (a := a) d n m k0 (o3 k0 hk0) (hv0 k0 (by rw [hk]; rfl)) (by omega)
   rw [qww (by simp; omega), show ix (k0 :: ks) 0 = some k0 from rfl, qwv, ht, qwv, qt1, qwv, stm, hk]
   simp only
   unfold Res at hR
   cases q : tyE d (lkf env) k0 with
   | error e =>
    rw [q] at hR
    simp only at hR
    subst hR
    rw [qww (by simp), qwx (by simp)]
    exact ⟨_, rfl, rfl⟩
   | ok v =>
    rw [q] at hR
    simp only at hR
    obtain ⟨rfl, rfl⟩ := hR
    simp only
    by_cases qn : nds x.Ab ≠ 0 ∧ t ≠ nds x.Ab
    ·rw [qwx (by simpa using qn), qco, qwv, qwx (by simp), qwx qn]
     exact ⟨_, rfl, rfl⟩
    ·rw [qww (by simpa using qn), qww qn, qww (by simp)]
     by_cases q3 : x.Ab = 3
     ·rw [qwx (by simpa using q3), qwx q3]
      unfold JaC
      rw [qij (by omega) (by omega), qwv, qwv, qd4 (by omega)]
      by_cases q0 : lk x.Ac env = 0
      ·rw [qww (by simpa using q0), qwv, qww (by simp), qwx (show lkf env x.Ac = 0 from q0)]
       simp only
       rw [← qpu]
       exact rec_ _ (by simp)
      ·rw [qwx (by simpa using q0), qco, qwv, qwv, qwx (by simp), qww (show ¬ lkf env x.Ac = 0 from q0)]
       exact ⟨_, rfl, rfl⟩
     ·rw [qww (by simpa using q3), qww q3]
      by_cases q2 : x.Ab = 2
      ·obtain ⟨l2, hb⟩ := hv2 q2
       rw [hk] at l2 hb
       have hbr : ∀ k ∈ ks, (∀ q ∈ brn k, Gd d q) ∧ (brn k).length ≤ 700 := fun k hk1 => by
        have hk2 : k ∈ x.Aa := by rw [hk]; simp [hk1]
        obtain ⟨l', e1, e2, e3⟩ := qgf (o3 k hk2) ((hb k (by simpa using hk1)).imp (fun h => ⟨h.1, fun q hq => ⟨m, h.2 q hq⟩⟩) fun h => ⟨h.1, m, h.2⟩)
        rw [qkz] at e1
        cases e1
        exact ⟨e3, e2⟩
       have hkl : (k0 :: ks).length ≤ 700 := by rw [← hk]; exact o2
       rw [qwx (by simpa using q2), qwx q2, qaa (by simp only [List.length_cons] at l2 ⊢; omega), qvg, qaa (by simp only [qav]; simp only [List.length_cons] at hkl; omega),
        qnn (g := fun k => foldS (stm d) (lkf env) (brn k)) (hs env) ks 0 (fun k hk1 => hf _ _ (hbr k hk1).1 (hbr k hk1).2 (by omega)) (fun k hk1 c => hx _ _ c (hbr k hk1).1 (hbr k hk1).2 (by omega)), qwv]
       cases brs (fun k => foldS (stm d) (lkf env) (brn k)) ks with
       | some e => rw [qwx (by simp)]; exact ⟨_, rfl, rfl⟩
       | none => rw [qww (by simp)]; exact rec_ env (by omega)
      ·rw [qww (by simpa using q2), qww q2, qww (by simp)]
       exact rec_ env (by omega)
set_option maxRecDepth 100000 in
theorem qg9 {a : Int} : ∀ (d n : Nat) (l : List M) (env : List Bd), (∀ x ∈ l, Gd d x) → l.length ≤ 700 → env.length + 701 * (d + 1) ≤ 90000 → d + 300000 ≤ n → Jt n ⟨a, none⟩ l env = some (fin a (foldS (stm d) (lkf env) l))
 | d, 0, l, env, _, _, _, hn => by omega
 | 0, n + 1, l, env, hg, hl, he, hn => by
  have : l = [] := by
   cases l with
   | nil => rfl
   | cons x l => exact (hg x (by simp)).1.elim
  subst this
  rw [Jt, qaa (by simp only [qav]; simp)]; rfl
 | d + 1, n + 1, l, env, hg, hl, he, hn => by
  obtain ⟨r, hr, h2⟩ := qem (n := n) (d := d) (a := a) (f := Jt n) (by omega) (fun env a e l r => qlx n a e l env r) (fun l' env' h1 h2 h3 => qg9 d n l' env' h1 h2 h3 (by omega)) (fun l' env' c' h1 h2 h3 => qkv d n l' env' c' h1 h2 h3 (by omega)) l 0 env hg (by omega)
  rw [Jt, qaa (by simp only [qav]; omega)]
  simp only
  rw [hr, qwv]
  cases q : foldS (stm (d + 1)) (lkf env) l with
  | error e => rw [q] at h2; simp only at h2; subst h2; rfl
  | ok ρ => rw [q] at h2; obtain ⟨e2, a1, a2, a3⟩ := h2; subst a1; rfl
noncomputable def quy (d : Nat) (ys : List M) : Int × Err := match foldS (stm d) base ys with
 | .ok _ => (0, none)
 | .error e => (e.1, some e.2)
set_option maxRecDepth 100000 in
theorem qha {n d : Nat} {y : M} {b : Bool} (h : Ok (d + 1) y) (hd : d ≤ 100) (hn : 400000 ≤ n) (hb : Jaw n y = some b) : Ja5 n y = some (if b = true then quy d y.Aa else (0, some 2)) := by
 unfold Ja5
 rw [hb, qwv]
 cases b with
 | false => rfl
 | true =>
  have hv := qih hb
  have := h.2.1
  rw [qww (by simp), qg9 d n y.Aa [] (fun k hk => ⟨h.2.2 k hk, n, hv k hk⟩) this (by simp only [List.length_nil]; omega) (by omega), qwv]
  unfold quy
  rw [qsh]
  cases foldS (stm d) base y.Aa <;> rfl
theorem num_eq (e : Err) : Jcd e = some (e.getD 0) := by cases e <;> rfl
def Ty (t : Int) : Prop := t = 1 ∨ t = 2 ∨ t = 3
def Rg (ρ : Env) : Prop := ∀ s, ρ s = 0 ∨ Ty (ρ s)
theorem Rg.ext {ρ : Env} (h : Rg ρ) (s : Str) {t : Int} (ht : Ty t) : Rg (ext ρ s t) := fun q => by
 unfold Rt.ext
 split
 ·exact .inr ht
 ·exact h q
def QQ (o : Option Int) : Prop := ∀ t, o = some t → t = 0 ∨ Ty t
theorem QQ.bind {α : Type} {o : Option α} {f : α → Option Int} (h : ∀ a, QQ (f a)) : QQ (o.bind f) := fun t ht => by
 cases o with
 | none => cases ht
 | some a => exact h a t ht
theorem QQ.z : QQ (some 0) := fun t h => by cases h; exact .inl rfl
theorem QQ.t1 : QQ (some 1) := fun t h => by cases h; exact .inr (.inl rfl)
theorem QQ.t2 : QQ (some 2) := fun t h => by cases h; exact .inr (.inr (.inl rfl))
theorem QQ.t3 : QQ (some 3) := fun t h => by cases h; exact .inr (.inr (.inr rfl))
theorem operands_len {m : Nat} {y : M} {k : Int} (h : JM m y = some k) (hk : k ≠ -2) :
  ((y.Ab = 13 ∨ y.Ab = 14 ∨ y.Ab = 17 ∨ y.Ab = 18 ∨ y.Ab = 19) ∧ k = 2) ∨ (y.Ab = 15 ∧ k = 1) ∨ (y.Ab = 16 ∧ k = 2 ∧ cmp y.Ac = true) ∨ ((y.Ab = 20 ∨ y.Ab = 21 ∨ y.Ab = 22 ∨ y.Ab = 23) ∧ k = 0) ∨ (y.Ab = 24 ∧ k = -1) := by
 unfold JM at h
 have s2 : ∀ {c : Bool} {v : Int}, (if (!c) = true then some (-2) else some v) = some k → k = v ∧ c = true := fun {c v} h => by
  cases c with
  | false => rw [qwx (by simp)] at h; cases h; exact absurd rfl hk
  | true => rw [qww (by simp)] at h; cases h; exact ⟨rfl, rfl⟩
 by_cases q : y.Ab = 13
 ·rw [qwx (by simpa using q)] at h
  exact .inl ⟨.inl q, (s2 h).1⟩
 rw [qww (by simpa using q)] at h
 clear q
 by_cases q : y.Ab = 14
 ·rw [qwx (by simpa using q)] at h
  exact .inl ⟨.inr (.inl q), (s2 h).1⟩
 rw [qww (by simpa using q)] at h
 clear q
 by_cases q : y.Ab = 17
 ·rw [qwx (by simpa using q)] at h
  exact .inl ⟨.inr (.inr (.inl q)), (s2 h).1⟩
 rw [qww (by simpa using q)] at h
 clear q
 by_cases q : y.Ab = 18
 ·rw [qwx (by simpa using q)] at h
  exact .inl ⟨.inr (.inr (.inr (.inl q))), (s2 h).1⟩
 rw [qww (by simpa using q)] at h
 clear q
 by_cases q : y.Ab = 19
 ·rw [qwx (by simpa using q)] at h
  exact .inl ⟨.inr (.inr (.inr (.inr q))), (s2 h).1⟩
 rw [qww (by simpa using q)] at h
 clear q
 by_cases q : y.Ab = 15
 ·rw [qwx (by simpa using q)] at h
  exact .inr (.inl ⟨q, (s2 h).1⟩)
 rw [qww (by simpa using q)] at h
 clear q
 by_cases q : y.Ab = 16
 ·rw [qwx (by simpa using q)] at h
  have e := qjq y.Ac
  obtain ⟨a, ha, h⟩ := bnd h
  rw [ha, qwv] at e
  rw [e, qwv] at h
  exact .inr (.inr (.inl ⟨q, s2 h⟩))
 rw [qww (by simpa using q)] at h
 clear q
 by_cases q : y.Ab = 20
 ·rw [qwx (by simpa using q)] at h
  obtain ⟨a, ha, h⟩ := bnd h
  exact .inr (.inr (.inr (.inl ⟨.inl q, (s2 h).1⟩)))
 rw [qww (by simpa using q)] at h
 clear q
 by_cases q : y.Ab = 21
 ·rw [qwx (by simpa using q)] at h
  obtain ⟨a, ha, h⟩ := bnd h
  exact .inr (.inr (.inr (.inl ⟨.inr (.inl q), (s2 h).1⟩)))
 rw [qww (by simpa using q)] at h
 clear q
 by_cases q : y.Ab = 22
 ·rw [qwx (by simpa using q)] at h
  exact .inr (.inr (.inr (.inl ⟨.inr (.inr (.inl q)), (s2 h).1⟩)))
 rw [qww (by simpa using q)] at h
 clear q
 by_cases q : y.Ab = 23
 ·rw [qwx (by simpa using q)] at h
  obtain ⟨a, ha, h⟩ := bnd h
  exact .inr (.inr (.inr (.inl ⟨.inr (.inr (.inr q)), (s2 h).1⟩)))
 rw [qww (by simpa using q)] at h
 clear q
 by_cases q : y.Ab = 24
 ·rw [qwx (by simpa using q)] at h
  obtain ⟨a, ha, h⟩ := bnd h
  exact .inr (.inr (.inr (.inr ⟨q, (s2 h).1⟩)))
 rw [qww (by simpa using q)] at h
 clear q
 cases h
 exact absurd rfl hk
theorem qno {m : Nat} {x : M} (hk : x.Ab = 2) (h : Jv (m + 1) x = some true) : ∀ c ∈ x.Aa.drop 1, c.Ab ≠ 12 → c.Ab = 2 := by
 rw [Jv, qwx (by simpa using hk)] at h
 obtain ⟨a, ha, g⟩ := bnd h
 obtain ⟨b, hb, gg⟩ := bnd g
 cases b with
 | true => rw [qwx rfl] at gg; cases gg
 | false =>
  rw [qww (by simp)] at gg
  cases a with
  | true => rw [qwx rfl] at hb; cases hb
  | false =>
   cases q : ((decide (x.Ac ≠ ([] : Str)) || decide ((x.Aa.length : Int) < 2)) || decide ((x.Aa.length : Int) > 3)) with
   | true => rw [q, qwx rfl] at ha; cases ha
   | false =>
    simp only [Bool.or_eq_false_iff, decide_eq_false_iff_not] at q
    rw [qww (by simp)] at hb
    obtain ⟨c1, hc1, hb⟩ := bnd hb
    obtain ⟨e1, he1, hb⟩ := bnd hb
    have hb : e1 = true := by simpa using hb
    subst hb
    have g1 : x.Aa[1]? = some c1 := by unfold ix at hc1; rw [qwx (by omega)] at hc1; exact hc1
    obtain ⟨i1, i2⟩ := qck he1
    intro c hc hne
    obtain ⟨i, hi⟩ := List.getElem?_of_mem hc
    rw [List.getElem?_drop] at hi
    have hil : 1 + i < x.Aa.length := (List.getElem?_eq_some_iff.1 hi).1
    by_cases z : i = 0
    ·subst z
     rw [g1] at hi; cases hi
     exact absurd i1 hne
    ·have : i = 1 := by omega
     subst this
     have hx2 : ix x.Aa 2 = some c := by unfold ix; rw [qwx (by omega)]; exact hi
     rw [qww (by simp <;> omega), hx2, qwv] at gg
     obtain ⟨e, he, g3⟩ := bnd gg
     obtain ⟨e', he', he2⟩ := bnd he
     cases he2
     cases e with
     | true => exact absurd (qck he').1 hne
     | false =>
      rw [qww (by simp), qwv] at g3
      obtain ⟨e2, he2, g4⟩ := bnd g3
      cases g4
      split at he2
      ·rename_i hk; exact of_decide_eq_true hk
      ·cases he2
noncomputable def tyv (d : Nat) (ρ : Env) (y : M) : Int := match tyE d ρ y with
 | .ok t => t
 | .error _ => 0
def hd0 : List Int → Int
 | [] => 0
 | s :: _ => s
def stN (k t : Int) (ss : List Int) : Int :=
 if k = 20 then 1 else if k = 21 then 1 else if k = 22 then 3 else if k = 23 then 1
 else if k = 24 then (if t = 1 then ss.sum + 32 else ss.sum) + 1
 else if k = 14 then hd0 ss + 1 + max 3 (ss.sum - hd0 ss + 1)
 else if k = 13 then hd0 ss + 1 + max 4 (ss.sum - hd0 ss)
 else (if t = 1 then ss.sum + 32 else ss.sum) + 1
noncomputable def stE : Nat → Env → M → Int
 | 0, _, _ => 0
 | d + 1, ρ, y => stN y.Ab (tyv (d + 1) ρ y) (y.Aa.map (stE d ρ))
theorem qsi {ρ : Env} {y : M} {ts : List Int} {t : Int} (h : tyN ρ y ts = .ok t) : (y.Ab = 20 → t = 2) ∧ (y.Ab = 21 → t = 1) ∧ (y.Ab = 22 → t = 3) ∧ (y.Ab = 23 → t = ρ y.Ac) ∧ (y.Ab = 24 → t = (fnc y.Ac).2) ∧ (y.Ab ≠ 20 → y.Ab ≠ 21 → y.Ab ≠ 22 → y.Ab ≠ 23 → y.Ab ≠ 24 → t = opr y ts ∧ opr y ts ≠ 0) := by
 unfold tyN at h
 by_cases q20 : y.Ab = 20
 ·rw [qwx q20] at h; cases h; exact ⟨fun _ => rfl, fun _ => by omega, fun _ => by omega, fun _ => by omega, fun _ => by omega, fun a => absurd q20 a⟩
 rw [qww q20] at h
 by_cases q21 : y.Ab = 21
 ·rw [qwx q21] at h; cases h; exact ⟨fun _ => by omega, fun _ => rfl, fun _ => by omega, fun _ => by omega, fun _ => by omega, fun _ a => absurd q21 a⟩
 rw [qww q21] at h
 by_cases q22 : y.Ab = 22
 ·rw [qwx q22] at h; cases h; exact ⟨fun _ => by omega, fun _ => by omega, fun _ => rfl, fun _ => by omega, fun _ => by omega, fun _ _ a => absurd q22 a⟩
 rw [qww q22] at h
 by_cases q23 : y.Ab = 23
 ·rw [qwx q23] at h
  split at h
  ·cases h
  ·cases h; exact ⟨fun _ => by omega, fun _ => by omega, fun _ => by omega, fun _ => rfl, fun _ => by omega, fun _ _ _ a => absurd q23 a⟩
 rw [qww q23] at h
 by_cases q24 : y.Ab = 24
 ·rw [qwx q24] at h
  split at h
  ·cases h
  ·split at h
   ·cases h; exact ⟨fun _ => by omega, fun _ => by omega, fun _ => by omega, fun _ => by omega, fun _ => rfl, fun _ _ _ _ a => absurd q24 a⟩
   ·cases h
 rw [qww q24] at h
 split at h
 ·cases h
 ·rename_i q
  cases h; exact ⟨fun a => absurd a q20, fun a => absurd a q21, fun a => absurd a q22, fun a => absurd a q23, fun a => absurd a q24, fun _ _ _ _ _ => ⟨rfl, q⟩⟩
theorem qjr {d : Nat} {ρ : Env} {y : M} {t : Int} (h : tyE (d + 1) ρ y = .ok t) : ∃ ts, kidsE (tyE d ρ) y.Aa = .ok ts ∧ tyN ρ y ts = .ok t := by
 rw [tyE] at h
 cases q : kidsE (tyE d ρ) y.Aa with
 | error e => rw [q] at h; cases h
 | ok ts => rw [q] at h; exact ⟨ts, rfl, h⟩
def qpv (w : Env → M → Int) (g : Env → M → Except qdm Env) : Env → List M → Int
 | _, [] => 0
 | ρ, x :: l => w ρ x + (match g ρ x with
  | .ok ρ' => qpv w g ρ' l
  | .error _ => 0)
noncomputable def wS : Nat → Env → M → Int
 | 0, _, _ => 0
 | d + 1, ρ, x => match x.Aa with
  | [] => 1
  | k0 :: ks => 1 + stE d ρ k0 + (if x.Ab = 2 then (match ks with
   | [] => 0
   | [b] => qpv (wS d) (stm d) ρ (brn b)
   | b :: c :: _ => max (qpv (wS d) (stm d) ρ (brn b) + 1) (qpv (wS d) (stm d) ρ (brn c))) else 0)
theorem brn_ok {d : Nat} {k : M} (h : Ok d k) : (∀ q ∈ brn k, Ok d q) ∧ cntL d (brn k) ≤ cnt d k := by
 cases d with
 | zero => exact h.elim
 | succ d =>
  unfold brn
  split
  ·refine ⟨fun q hq => (h.2.2 q hq).succ, ?_⟩
   rw [cnt_eq]
   have : ∀ l : List M, (∀ q ∈ l, Ok d q) → cntL (d + 1) l = cntL d l := fun l => by
    induction l with
    | nil => intro _; rfl
    | cons q l ih => intro hq; rw [cntL_cons, cntL_cons, qky (hq q (by simp)), ih fun p hp => hq p (by simp [hp])]
   rw [this k.Aa h.2.2]; omega
  ·exact ⟨fun q hq => by rw [List.mem_singleton] at hq; subst hq; exact h, by simp [cntL]⟩
theorem qsj {d : Nat} {ρ ρ' : Env} {x k0 : M} {ks : List M} (hk : x.Aa = k0 :: ks) (h : stm (d + 1) ρ x = .ok ρ') : ∃ t, tyE d ρ k0 = .ok t ∧
  ((x.Ab = 3 ∧ ρ' = ext ρ x.Ac t) ∨ (x.Ab = 2 ∧ ρ' = ρ ∧ brs (fun k => foldS (stm d) ρ (brn k)) ks = none) ∨ (x.Ab ≠ 3 ∧ x.Ab ≠ 2 ∧ ρ' = ρ)) := by
 rw [stm, hk] at h
 simp only at h
 cases q : tyE d ρ k0 with
 | error e => rw [q] at h; cases h
 | ok t =>
  rw [q] at h
  simp only at h
  refine ⟨t, rfl, ?_⟩
  split at h
  ·cases h
  ·split at h
   ·rename_i q3
    split at h
    ·cases h; exact .inl ⟨q3, rfl⟩
    ·cases h
   ·rename_i q3
    split at h
    ·rename_i q2
     split at h
     ·cases h
     ·rename_i qb
      cases h; exact .inr (.inl ⟨q2, rfl, qb⟩)
    ·rename_i q2
     cases h; exact .inr (.inr ⟨q3, q2, rfl⟩)
theorem qk0 {g : M → Except qdm Env} : ∀ {l : List M}, brs g l = none → ∀ k ∈ l, ∃ ρ, g k = .ok ρ
 | [], _, k, hk => by cases hk
 | a :: l, h, k, hk => by
  rw [brs] at h
  cases q : g a with
  | error e => rw [q] at h; cases h
  | ok ρ =>
   rw [q] at h
   rcases List.mem_cons.1 hk with rfl | hk
   ·exact ⟨ρ, q⟩
   ·exact qk0 h k hk
theorem qly {m : Nat} {x : M} (hk : x.Ab = 2) (h : Jv (m + 1) x = some true) : x.Aa.length ≤ 3 ∧ ∀ c, x.Aa[1]? = some c → c.Ab = 12 := by
 rw [Jv, qwx (by simpa using hk)] at h
 obtain ⟨a, ha, g⟩ := bnd h
 obtain ⟨b, hb, gg⟩ := bnd g
 cases b with
 | true => rw [qwx rfl] at gg; cases gg
 | false =>
  cases a with
  | true => rw [qwx rfl] at hb; cases hb
  | false =>
   cases q : ((decide (x.Ac ≠ ([] : Str)) || decide ((x.Aa.length : Int) < 2)) || decide ((x.Aa.length : Int) > 3)) with
   | true => rw [q, qwx rfl] at ha; cases ha
   | false =>
    simp only [Bool.or_eq_false_iff, decide_eq_false_iff_not] at q
    rw [qww (by simp)] at hb
    obtain ⟨c1, hc1, hb⟩ := bnd hb
    obtain ⟨e1, he1, hb⟩ := bnd hb
    have hb : e1 = true := by simpa using hb
    subst hb
    have g1 : x.Aa[1]? = some c1 := by unfold ix at hc1; rw [qwx (by omega)] at hc1; exact hc1
    refine ⟨by omega, fun c hc => ?_⟩
    rw [g1] at hc; cases hc
    exact (qck he1).1
def brn2 (k : N) : List N := if k.Ab = 2 then [k] else k.Aa
end Rt
namespace Rt.Rc
abbrev I := Jj
abbrev Sg := Str → Option Int
def num (s : Str) : Int := s.foldl (fun n c => 10 * n + ((c.toNat : Int) - 48)) 0
def sTrue : Str := [116, 114, 117, 101]
def opw (x : M) : Str := if x.Ab = 17 then [43] else if x.Ab = 18 then [45] else if x.Ab = 19 then [42] else x.Ac
def XE (ρ : Env) : Nat → M → Prop
 | 0, _ => False
 | d + 1, x => x.Ac.length ≤ 3000 ∧
  ((x.Ab = 20 ∧ nmr x.Ac = true ∧ x.Aa = []) ∨ (x.Ab = 21 ∧ prt x.Ac = true ∧ x.Aa = []) ∨ (x.Ab = 22 ∧ x.Aa = []) ∨ (x.Ab = 23 ∧ ρ x.Ac ≠ 0 ∧ x.Aa = []) ∨
   (((x.Ab = 24 ∧ (fnc x.Ac).2 ≠ 0) ∨ x.Ab = 15) ∧ ∃ k, x.Aa = [k] ∧ XE ρ d k) ∨
   ((x.Ab = 13 ∨ x.Ab = 14 ∨ x.Ab = 17 ∨ x.Ab = 18 ∨ x.Ab = 19 ∨ (x.Ab = 16 ∧ cmp x.Ac = true)) ∧ ∃ k l, x.Aa = [k, l] ∧ XE ρ d k ∧ XE ρ d l))
theorem qik {f : M → Except qdm Int} : ∀ {l : List M} {ts : List Int}, kidsE f l = .ok ts → ∀ k ∈ l, ∃ t, f k = .ok t
 | [], _, _, k, hk => by cases hk
 | a :: l, ts, h, k, hk => by
  rw [kidsE] at h
  cases q : f a with
  | error e => rw [q] at h; cases h
  | ok t =>
   rw [q] at h
   simp only at h
   cases q2 : kidsE f l with
   | error e => rw [q2] at h; cases h
   | ok us =>
    rcases List.mem_cons.1 hk with rfl | hk
    ·exact ⟨t, q⟩
    ·exact qik q2 k hk
theorem qwl {α : Type} {l : List α} (h : (l.length : Int) = 2) : ∃ a b, l = [a, b] := by
 match l, h with
 | [a, b], _ => exact ⟨a, b, rfl⟩
 | [], h => simp at h
 | [a], h => simp at h
 | a :: b :: c :: l, h => simp at h; omega
theorem qv3 {α : Type} {l : List α} (h : (l.length : Int) = 1) : ∃ a, l = [a] := by
 match l, h with
 | [a], _ => exact ⟨a, rfl⟩
 | [], h => simp at h
 | a :: b :: l, h => simp at h; omega
theorem qwm {α : Type} {l : List α} (h : (l.length : Int) = 0) : l = [] := by
 cases l with
 | nil => rfl
 | cons a l => simp at h; omega
theorem qjs {m : Nat} {x : M} {k : Int} (ht : x.Ac.length ≤ 3000) (hk : x.Ab = 20) (h : JM m x = some k) (h2 : k ≠ -2) : nmr x.Ac = true := by
 unfold JM at h
 rw [hk] at h
 rw [qww (by decide), qww (by decide), qww (by decide), qww (by decide), qww (by decide), qww (by decide), qww (by decide), qwx (by decide), qnk ht, qwv] at h
 cases q : nmr x.Ac with
 | true => rfl
 | false => rw [q, qwx (by simp)] at h; cases h; exact absurd rfl h2
theorem qjt {m : Nat} {x : M} {k : Int} (ht : x.Ac.length ≤ 3000) (hk : x.Ab = 21) (h : JM m x = some k) (h2 : k ≠ -2) : prt x.Ac = true := by
 unfold JM at h
 rw [hk] at h
 rw [qww (by decide), qww (by decide), qww (by decide), qww (by decide), qww (by decide), qww (by decide), qww (by decide), qww (by decide), qwx (by decide), qdl (by omega), qwv] at h
 cases q : prt x.Ac with
 | true => rfl
 | false => rw [q, qwx (by simp)] at h; cases h; exact absurd rfl h2
theorem XE_of {ρ : Env} : ∀ {d m : Nat} {x : M} {t : Int}, Ok d x → Jr m x = some true → tyE d ρ x = .ok t → XE ρ d x
 | 0, _, _, _, h, _, _ => h.elim
 | d + 1, m, x, t, h, hv, ht => by
  obtain ⟨h1, h2, h3⟩ := h
  obtain ⟨m', k, rfl, hk, k2, k3, k4⟩ := qct hv
  rw [tyE] at ht
  cases q : kidsE (tyE d ρ) x.Aa with
  | error e => rw [q] at ht; cases ht
  | ok ts =>
   rw [q] at ht
   simp only at ht
   have hm := qik q
   have rec_ : ∀ c ∈ x.Aa, XE ρ d c := fun c hc => by
    obtain ⟨t', h'⟩ := hm c hc
    exact XE_of (h3 c hc) (k4 c hc) h'
   refine ⟨h1, ?_⟩
   have two : k = 2 → ∃ k l, x.Aa = [k, l] ∧ XE ρ d k ∧ XE ρ d l := fun e => by
    obtain ⟨a, b, e⟩ := qwl (by rw [k3 (by omega), e])
    exact ⟨a, b, e, rec_ a (by rw [e]; simp), rec_ b (by rw [e]; simp)⟩
   rcases operands_len hk k2 with ⟨q1, e⟩ | ⟨q1, e⟩ | ⟨q1, e, e2⟩ | ⟨q1, e⟩ | ⟨q1, e⟩
   ·exact .inr (.inr (.inr (.inr (.inr ⟨by omega, two e⟩))))
   ·obtain ⟨a, e⟩ := qv3 (by rw [k3 (by omega), e])
    exact .inr (.inr (.inr (.inr (.inl ⟨.inr q1, a, e, rec_ a (by rw [e]; simp)⟩))))
   ·exact .inr (.inr (.inr (.inr (.inr ⟨.inr (.inr (.inr (.inr (.inr ⟨q1, e2⟩)))), two e⟩))))
   ·have e0 : x.Aa = [] := qwm (by rw [k3 (by omega), e])
    rcases q1 with q1 | q1 | q1 | q1
    ·exact .inl ⟨q1, qjs h1 q1 hk k2, e0⟩
    ·exact .inr (.inl ⟨q1, qjt h1 q1 hk k2, e0⟩)
    ·exact .inr (.inr (.inl ⟨q1, e0⟩))
    ·refine .inr (.inr (.inr (.inl ⟨q1, fun hz => ?_, e0⟩)))
     unfold tyN at ht
     rw [qww (by omega), qww (by omega), qww (by omega), qwx q1, qwx hz] at ht
     cases ht
   ·unfold tyN at ht
    rw [qww (by omega), qww (by omega), qww (by omega), qww (by omega), qwx q1] at ht
    by_cases q0 : (fnc x.Ac).2 = 0
    ·rw [qwx q0] at ht; cases ht
    ·rw [qww q0] at ht
     by_cases q3 : ts = [(fnc x.Ac).1]
     ·have hl := kidsE_len q
      obtain ⟨a, e'⟩ := qv3 (l := x.Aa) (by rw [← hl, q3]; rfl)
      exact .inr (.inr (.inr (.inr (.inl ⟨.inl ⟨q1, q0⟩, a, e', rec_ a (by rw [e']; simp)⟩))))
     ·rw [qww q3] at ht; cases ht
theorem nmr_all {s : Str} (h : nmr s = true) : s.all isD = true ∧ s.length ≤ 9 ∧ 1 ≤ s.length := by
 cases s with
 | nil => simp [nmr] at h
 | cons c t =>
  simp only [nmr, Bool.and_eq_true, decide_eq_true_eq] at h
  exact ⟨by rw [List.all_cons, h.1.1, h.1.2]; rfl, by simp; omega, by simp⟩
theorem ix0 {α : Type} {a : α} {l : List α} : ix (a :: l) 0 = some a := rfl
theorem ix1 {α : Type} {a b : α} {l : List α} : ix (a :: b :: l) 1 = some b := rfl
def acw (x : M) : Option Str :=
 if x.Ab = 4 then some x.Ac
 else if x.Ab = 5 then some ([104, 101, 97, 100, 101, 114, 58] ++ x.Ac)
 else if x.Ab = 6 then some ([118, 97, 114, 121, 58] ++ x.Ac)
 else if x.Ab = 7 then some [116, 97, 103]
 else if x.Ab = 8 then some [116, 116, 108]
 else if x.Ab = 9 then some [100, 101, 110, 121]
 else if x.Ab = 10 then some [112, 97, 115, 115]
 else if x.Ab = 11 then some [116, 111, 107, 101, 110]
 else none
def acs (x : M) : List I := match acw x with
 | some w => [⟨11, 0, w⟩]
 | none => []
def upd (σ : Sg) (s : Str) (k : Int) : Sg := fun q => if s = q then some k else σ q
theorem if_kids {m : Nat} {x : M} (hk : x.Ab = 2) (h : Jv (m + 1) x = some true) : ∃ e t, t.Ab = 12 ∧ (x.Aa = [e, t] ∨ ∃ o, (o.Ab = 12 ∨ o.Ab = 2) ∧ x.Aa = [e, t, o]) := by
 obtain ⟨l3, k1⟩ := qly hk h
 have k2 := qno hk h
 obtain ⟨m', e, _, hv⟩ := qc4 h
 cases e
 obtain ⟨l2, _⟩ := hv hk
 match hx : x.Aa, l2, l3 with
 | [e, t], _, _ => exact ⟨e, t, k1 t (by rw [hx]; rfl), .inl rfl⟩
 | [e, t, o], _, _ =>
  refine ⟨e, t, k1 t (by rw [hx]; rfl), .inr ⟨o, ?_, rfl⟩⟩
  by_cases q : o.Ab = 12
  ·exact .inl q
  ·exact .inr (k2 o (by rw [hx]; simp) q)
 | [], h, _ => simp at h
 | [a], h, _ => simp at h
 | a :: b :: c :: e :: l, _, h => simp at h
theorem brn12 {t : M} (h : t.Ab = 12) : brn t = t.Aa := by unfold brn; rw [qwx h]
theorem brn2 {t : M} (h : t.Ab = 2) : brn t = [t] := by unfold brn; rw [qww (by omega)]
def SF (x : M) : Prop :=
 x.Ab = 2 ∨ (x.Ab = 3 ∧ x.Aa.length = 1) ∨ (x.Ab = 4 ∧ x.Aa.length = 1 ∧ (x.Ac = [112, 97, 116, 104] ∨ x.Ac = [113, 117, 101, 114, 121])) ∨ (x.Ab = 5 ∧ x.Aa.length = 1 ∧ prt x.Ac = true) ∨ (x.Ab = 6 ∧ x.Aa.length = 0 ∧ prt x.Ac = true) ∨
 ((x.Ab = 7 ∨ x.Ab = 8 ∨ x.Ab = 9) ∧ x.Aa.length = 1) ∨ ((x.Ab = 10 ∨ x.Ab = 11) ∧ x.Aa.length = 0)
theorem qex {m : Nat} {x : M} (h : (if decide ((x.Aa.length : Int) = 1) = true then (ix x.Aa 0).bind fun x121 => (Jr m x121).bind fun x123 => some x123 else some false).bind (fun x124 => some x124) = some true) : x.Aa.length = 1 := by
 by_cases q : (x.Aa.length : Int) = 1
 ·omega
 ·rw [qww (by simpa using q)] at h; cases h
theorem stated_form {m : Nat} {x : M} (ht : x.Ac.length ≤ 3000) (h : Jv (m + 1) x = some true) : SF x := by
 unfold SF
 by_cases q2 : x.Ab = 2
 ·exact .inl q2
 rw [Jv, qww (by simpa using q2)] at h
 by_cases q6 : x.Ab = 6
 ·rw [qwx (by simpa using q6), qdl (by omega), qwv] at h
  simp only [Option.some.injEq, Bool.and_eq_true, decide_eq_true_eq] at h
  exact .inr (.inr (.inr (.inr (.inl ⟨q6, by omega, h.1⟩))))
 rw [qww (by simpa using q6)] at h
 by_cases q10 : x.Ab = 10
 ·rw [qwx (by simpa using q10)] at h
  simp only [Option.some.injEq, Bool.and_eq_true, decide_eq_true_eq] at h
  exact .inr (.inr (.inr (.inr (.inr (.inr ⟨.inl q10, by omega⟩)))))
 rw [qww (by simpa using q10)] at h
 by_cases q11 : x.Ab = 11
 ·rw [qwx (by simpa using q11)] at h
  simp only [Option.some.injEq, Bool.and_eq_true, decide_eq_true_eq] at h
  exact .inr (.inr (.inr (.inr (.inr (.inr ⟨.inr q11, by omega⟩)))))
 rw [qww (by simpa using q11)] at h
 by_cases q3 : x.Ab = 3
 ·rw [qwx (by simpa using q3)] at h
  obtain ⟨b, hb, h⟩ := bnd h
  cases b with
  | false => rw [qwx (by simp)] at h; cases h
  | true => rw [qww (by simp)] at h; exact .inr (.inl ⟨q3, qex h⟩)
 rw [qww (by simpa using q3)] at h
 by_cases q4 : x.Ab = 4
 ·rw [qwx (by simpa using q4)] at h
  cases q : (decide (x.Ac ≠ ([112, 97, 116, 104] : Str)) && decide (x.Ac ≠ ([113, 117, 101, 114, 121] : Str))) with
  | true => rw [q, qwx rfl] at h; cases h
  | false =>
   rw [q, qww (by simp)] at h
   refine .inr (.inr (.inl ⟨q4, qex h, ?_⟩))
   simp only [Bool.and_eq_false_iff, decide_eq_false_iff_not, ne_eq, Classical.not_not] at q
   exact q
 rw [qww (by simpa using q4)] at h
 by_cases q5 : x.Ab = 5
 ·rw [qwx (by simpa using q5), qdl (by omega), qwv] at h
  cases q : prt x.Ac with
  | false => rw [q, qwx (by simp)] at h; cases h
  | true => rw [q, qww (by simp)] at h; exact .inr (.inr (.inr (.inl ⟨q5, qex h, rfl⟩)))
 rw [qww (by simpa using q5)] at h
 by_cases q7 : x.Ab = 7
 ·rw [qwx (by simpa using q7)] at h
  split at h
  ·cases h
  ·exact .inr (.inr (.inr (.inr (.inr (.inl ⟨.inl q7, qex h⟩)))))
 rw [qww (by simpa using q7)] at h
 by_cases q8 : x.Ab = 8
 ·rw [qwx (by simpa using q8)] at h
  split at h
  ·cases h
  ·exact .inr (.inr (.inr (.inr (.inr (.inl ⟨.inr (.inl q8), qex h⟩)))))
 rw [qww (by simpa using q8)] at h
 by_cases q9 : x.Ab = 9
 ·rw [qwx (by simpa using q9)] at h
  split at h
  ·cases h
  ·exact .inr (.inr (.inr (.inr (.inr (.inl ⟨.inr (.inr q9), qex h⟩)))))
 rw [qww (by simpa using q9)] at h
 cases h
def isJ (i : I) : Bool := decide (i.Op = 9) || decide (i.Op = 10)
def Bd (b : Nat) (l : List I) : Prop := ∀ i ∈ l, isJ i = true → (b : Int) ≤ i.N ∧ i.N ≤ b + l.length
theorem Bd.nil (b : Nat) : Bd b [] := fun i hi _ => by cases hi
theorem Bd.one {b : Nat} {i : I} (h : isJ i = false) : Bd b [i] := fun j hj hx => by
 rw [List.mem_singleton.1 hj, h] at hx; cases hx
theorem Bd.no {b : Nat} {l : List I} (h : l.all (fun i => !isJ i) = true) : Bd b l := fun i hi hj => by
 have := List.all_eq_true.1 h i hi
 rw [hj] at this; cases this
theorem Bd.jump {b t : Nat} {o : Int} {l : List I} (h : Bd (b + 1) l) (h1 : b ≤ t) (h2 : t ≤ b + 1 + l.length) : Bd b (⟨o, (t : Int), []⟩ :: l) := fun i hi hj => by
 rw [List.length_cons]
 rcases List.mem_cons.1 hi with rfl | hi
 ·simp only; omega
 ·have := h i hi hj; omega
def InV (vis : List Int) (names : List Str) : Prop := ∀ i ∈ vis, 0 ≤ i ∧ i < names.length
structure Cov (ρ : Env) (σ : Sg) : Prop where
 known : ∀ s, ρ s ≠ 0 → pre s = false → (σ s).isSome = true
 fixed : ∀ s, pre s = true → σ s = none ∧ ρ s ≠ 0
theorem Cov.let {ρ : Env} {σ : Sg} (h : Cov ρ σ) {s : Str} (hs : ρ s = 0) (t k : Int) : Cov (ext ρ s t) (upd σ s k) := by
 have hp : pre s = false := by
  cases q : pre s with
  | false => rfl
  | true => exact absurd hs (h.fixed s q).2
 refine ⟨fun q hq hn => ?_, fun q hq => ?_⟩
 ·unfold upd
  by_cases e : s = q
  ·rw [qwx e]; rfl
  ·rw [qww e]
   refine h.known q ?_ hn
   unfold ext at hq
   rw [qww e] at hq
   exact hq
 ·have e : s ≠ q := fun e => by rw [e, hq] at hp; cases hp
  unfold upd ext
  rw [qww e, qww e]
  exact h.fixed q hq
theorem InV.let {vis : List Int} {names : List Str} (hv : InV vis names) (s : Str) : InV (vis ++ [(names.length : Int)]) (names ++ [s]) := fun i hi => by
 rw [List.length_append, List.length_singleton]
 rcases List.mem_append.1 hi with h | h
 ·have := hv i h; omega
 ·rw [List.mem_singleton.1 h]; omega
theorem qfb {e : Int} {f : M → Int → Int → Option (Bool × Int)} {d : Nat} (hf : ∀ k z m, f k z (e - 1) = some (true, m) → m + cnt d k ≤ z ∧ 0 ≤ m) : ∀ (l : List M) (i : Nat) (y : Int) (r : Fl (Bool × Int) Int), Jan e f l i y = some r → (∀ m, r = Fl.go m → m + cntL d l ≤ y ∧ (0 ≤ y → 0 ≤ m)) ∧ ∀ z, r = Fl.ret z → z.1 = false
 | [], i, y, r, h => by
  cases h
  exact ⟨fun m e => by cases e; simp [cntL], fun z e => by cases e⟩
 | k :: l, i, y, r, h => by
  rw [Jan] at h
  obtain ⟨_, h⟩ := qa7 h
  obtain ⟨x, hx, h⟩ := bnd h
  obtain ⟨b, m⟩ := x
  cases b with
  | false =>
   rw [qwx (by simp)] at h
   cases h
   exact ⟨fun m e => (by cases e), fun z e => by cases e; rfl⟩
  | true =>
   rw [qww (by simp)] at h
   obtain ⟨h1, h2⟩ := hf k y m hx
   obtain ⟨g1, g2⟩ := qfb hf l (i + 1) m r h
   refine ⟨fun m' e => ?_, g2⟩
   obtain ⟨a1, a2⟩ := g1 m' e
   rw [cntL_cons]
   exact ⟨by omega, fun _ => a2 h2⟩
theorem qil : ∀ (n d : Nat) (x : M) (z e m : Int), Jam n x z e = some (true, m) → m + cnt d x ≤ z ∧ 0 ≤ m
 | 0, d, x, z, e, m, h => by rw [Jam] at h; cases h
 | n + 1, d, x, z, e, m, h => by
  rw [Jam] at h
  obtain ⟨_, h⟩ := qa7 h
  split at h
  ·cases h
  ·rename_i hq
   simp only [Bool.or_eq_true, decide_eq_true_eq, not_or] at hq
   obtain ⟨_, h⟩ := qa7 h
   obtain ⟨r, hr, h⟩ := bnd h
   have key : ∀ d', (∀ m, r = Fl.go m → m + cntL d' x.Aa ≤ z - 1 ∧ (0 ≤ z - 1 → 0 ≤ m)) ∧ ∀ z, r = Fl.ret z → z.1 = false := fun d' => qfb (d := d') (fun k z m hk => qil n d' k z _ m hk) x.Aa 0 (z - 1) r hr
   cases r with
   | ret q =>
    rw [el_ret] at h
    have := (key 0).2 q rfl
    cases h
    cases this
   | go q =>
    rw [el_go] at h
    cases h
    cases d with
    | zero =>
     have h0 := (key 0).1 m rfl
     have hc : cnt 0 x = 0 := rfl
     rw [hc]
     have : (0 : Int) ≤ cntL 0 x.Aa := by omega
     exact ⟨by omega, h0.2 (by omega)⟩
    | succ d =>
     have h1 := (key d).1 m rfl
     rw [cnt_eq]
     exact ⟨by omega, h1.2 (by omega)⟩
theorem Valid_small {n : Nat} {x : M} (h : Jaw n x = some true) (d : Nat) : cnt d x ≤ 512 := by
 unfold Jaw at h
 split at h
 ·cases h
 ·obtain ⟨s, hs, h⟩ := bnd h
  obtain ⟨b, m⟩ := s
  cases b with
  | false => rw [qwx (by simp)] at h; cases h
  | true =>
   have := qil n d x 512 32 m hs
   omega
def NL : Nat → M → Prop
 | 0, _ => True
 | d + 1, x => x.Ab ≠ 3 ∧ ∀ k ∈ x.Aa, NL d k
theorem NL.kid {x k : M} (h : ∀ e, NL e x) (hk : k ∈ x.Aa) : ∀ e, NL e k := fun e => (h (e + 1)).2 k hk
theorem NL.up : ∀ {d : Nat} {x : M}, Ok d x → NL d x → ∀ e, NL e x
 | 0, _, h, _, _ => h.elim
 | d + 1, x, _, _, 0 => trivial
 | d + 1, x, h, hn, e + 1 => ⟨hn.1, fun k hk => (NL.up (h.2.2 k hk) (hn.2 k hk)) e⟩
def acts1 : List Str := [[112, 97, 116, 104], [113, 117, 101, 114, 121], [116, 97, 103], [116, 116, 108], [100, 101, 110, 121]]
def acts0 : List Str := [[112, 97, 115, 115], [116, 111, 107, 101, 110]]
def sHeader : Str := [104, 101, 97, 100, 101, 114, 58]
def sVary : Str := [118, 97, 114, 121, 58]
def hp (s p : Str) : Bool := decide (s.length ≥ p.length) && decide (s.take p.length = p)
def actK (s : Str) : Option Int :=
 if s ∈ acts1 then some 1 else if s ∈ acts0 then some 0 else if hp s sHeader = true then (if prt s = true then some 1 else none) else if (hp s sVary && prt s) = true then some 0 else none
def eff (x : I) : Option (Int × Int) :=
 if x.Op = 1 then (if x.S = [] ∧ 0 ≤ x.N ∧ x.N ≤ 999999999 then some (0, 1) else none)
 else if x.Op = 2 then (if x.N = 0 ∧ prt x.S = true then some (0, 1) else none)
 else if x.Op = 3 then (if x.S = [] ∧ 0 ≤ x.N ∧ x.N ≤ 511 then some (0, 1) else none)
 else if x.Op = 4 then (if x.S = [] ∧ 0 ≤ x.N ∧ x.N ≤ 511 then some (1, 0) else none)
 else if x.Op = 5 then (if x.N = 0 ∧ x.S ∈ J0 then some (0, 1) else none)
 else if x.Op = 6 then (if x.N = 0 ∧ x.S ∈ JaM then some (1, 1) else none)
 else if x.Op = 7 then (if x.N = 0 ∧ x.S ∈ JaN then some (2, 1) else none)
 else if x.Op = 8 then (if x.N = 0 ∧ x.S = [] then some (1, 1) else none)
 else if x.Op = 9 then (if x.S = [] then some (0, 0) else none)
 else if x.Op = 10 then (if x.S = [] then some (1, 0) else none)
 else if x.Op = 11 then (if x.N = 0 then (actK x.S).map fun t => (t, 0) else none)
 else if x.Op = 12 then (if x.N = 0 ∧ x.S = [] then some (0, 0) else none)
 else none
theorem qgg (v : Str) : ∀ (l : List Str) (i : Nat), ∃ r, JR v l i = some r ∧ (v ∈ l → ∃ j : Nat, r = Fl.ret (j : Int)) ∧ (v ∉ l → r = Fl.go ())
 | [], i => ⟨_, rfl, fun h => (by cases h), fun _ => rfl⟩
 | a :: l, i => by
  rw [JR]
  by_cases q : v = a
  ·rw [qwx (by simpa using q)]
   exact ⟨_, rfl, fun _ => ⟨i, rfl⟩, fun h => absurd (by simp [q]) h⟩
  ·rw [qww (by simpa using q)]
   obtain ⟨r, hr, h1, h2⟩ := qgg v l (i + 1)
   exact ⟨r, hr, fun h => h1 (by simpa [q] using h), fun h => h2 (by simpa [q] using h)⟩
theorem cont_eq {l : List Str} {v : Str} (h : l.length ≤ 3000) : JG l v = some (decide (v ∈ l)) := by
 unfold JG Ja8
 obtain ⟨r, hr, h1, h2⟩ := qgg v l 0
 rw [qaa (by simp only [qav]; omega), hr, qwv]
 by_cases q : v ∈ l
 ·obtain ⟨j, rfl⟩ := h1 q
  rw [el_ret, qwv, decide_eq_true q, decide_eq_true (by omega)]
 ·rw [h2 q, el_go, qwv, decide_eq_false q]; rfl
theorem sub0 (s : Str) (k : Nat) : subL s (0 : Int) (k : Int) = s.take k := by
 unfold subL
 simp
theorem hp_eq (s p : Str) : (decide ((s.length : Int) ≥ (p.length : Int)) && decide (subL s (0 : Int) (p.length : Int) = p)) = hp s p := by
 rw [sub0]
 unfold hp
 congr 1
 rw [decide_eq_decide]; omega
theorem hp_app {s p : Str} (h : hp s p = true) : s = p ++ s.drop p.length := by
 simp only [hp, Bool.and_eq_true, decide_eq_true_eq] at h
 conv => lhs; rw [← List.take_append_drop p.length s, h.2]
theorem qhb (a b : Str) : prt (a ++ b) = (prt a && prt b) := by simp [prt]
theorem qvh {s p q : Str} (h : hp s p = true) (hn : ∀ t, hp (p ++ t) q = false) : hp s q = false := by
 rw [hp_app h]; exact hn _
theorem qt2 (s : Str) (h : hp s sVary = true) : hp s sHeader = false := by
 refine qvh h fun t => ?_
 unfold hp sVary sHeader
 simp
theorem qt3 {s : Str} (h : hp s sVary = true) : s ∉ acts1 := by
 intro hs
 have : ∀ w ∈ acts1, hp w sVary = false := by decide
 rw [this s hs] at h; cases h
theorem qim {s : Str} (h : hp s sHeader = true) : s ∉ acts0 := by
 intro hs
 have : ∀ w ∈ acts0, hp w sHeader = false := by decide
 rw [this s hs] at h; cases h
abbrev AS := Option (Int × (Int → Bool))
abbrev AB := Nat → AS
def qnp (a : AS) (d : Int) (σ : Int → Bool) : Option AS := match a with
 | none => some (some (d, σ))
 | some (d0, σ0) => if d0 = d then some (some (d0, fun n => σ0 n && σ n)) else none
def qt4 (B : AB) (i : Nat) (a : AS) : AB := fun j => if j = i then a else B j
def nxt (x : I) (σ : Int → Bool) : Int → Bool := if x.Op = 4 then (fun n => decide (n = x.N) || σ n) else σ
def far (len i : Nat) (x : I) (B : AB) (d : Int) (σ : Int → Bool) : Option AB :=
 if isJ x = true then (if x.N ≤ i ∨ x.N ≥ len then none else (qnp (B x.N.toNat) d σ).map fun a => qt4 B x.N.toNat a) else some B
def qv4 (i : Nat) (x : I) (B : AB) (d : Int) (σ : Int → Bool) : Option AB :=
 if x.Op = 9 then some B else (qnp (B (i + 1)) d σ).map fun a => qt4 B (i + 1) a
def stA (len i : Nat) (x : I) (B : AB) (g : Int) : Option (AB × Int) :=
 match eff x, B i with
 | some (t, l), some (d, σ) =>
  if d < t ∨ ¬ ((x.Op = 12) ↔ (i + 1 = len)) ∨ (x.Op = 3 ∧ σ x.N = false) then none
  else if x.Op = 12 then (if d = 0 then some (B, max (max g d) (d + (l - t))) else none)
  else (far len i x B (d + (l - t)) (nxt x σ)).bind fun B1 => (qv4 i x B1 (d + (l - t)) (nxt x σ)).map fun B2 => (B2, max (max g d) (d + (l - t)))
 | _, _ => none
def wk (len : Nat) : Nat → List I → AB → Int → Option Int
 | _, [], _, g => some g
 | i, x :: l, B, g => (stA len i x B g).bind fun r => wk len (i + 1) l r.1 r.2
theorem qsk {len i : Nat} {x : I} {l : List I} {B : AB} {g : Int} : wk len i (x :: l) B g = (stA len i x B g).bind fun r => wk len (i + 1) l r.1 r.2 := rfl
def Asc (l : List Int) : Prop := l.Pairwise (· < ·)
def wth (n : Int) : List Int → List Int
 | [] => [n]
 | e :: l => if n < e then n :: e :: l else if n = e then e :: l else e :: wth n l
theorem wth_mem {n m : Int} : ∀ {l : List Int}, m ∈ wth n l ↔ m = n ∨ m ∈ l
 | [] => by simp [wth]
 | e :: l => by
  rw [wth]
  split
  ·simp
  ·split
   ·rename_i h; subst h; simp
   ·rw [List.mem_cons, wth_mem, List.mem_cons]
    constructor
    ·rintro (h | h | h)
     ·exact .inr (.inl h)
     ·exact .inl h
     ·exact .inr (.inr h)
    ·rintro (h | h | h)
     ·exact .inr (.inl h)
     ·exact .inl h
     ·exact .inr (.inr h)
theorem qnq {n : Int} : ∀ {l : List Int}, Asc l → Asc (wth n l)
 | [], _ => by simp [wth, Asc]
 | e :: l, h => by
  obtain ⟨h1, h2⟩ := List.pairwise_cons.1 h
  rw [wth]
  split
  ·rename_i hn
   refine List.pairwise_cons.2 ⟨fun m hm => ?_, h⟩
   rcases List.mem_cons.1 hm with rfl | hm
   ·exact hn
   ·have := h1 m hm; omega
  ·split
   ·exact h
   ·refine List.pairwise_cons.2 ⟨fun m hm => ?_, qnq h2⟩
    rcases wth_mem.1 hm with rfl | hm
    ·omega
    ·exact h1 m hm
structure SL (l : List Int) (σ : Int → Bool) : Prop where
 asc : Asc l
 rng : ∀ n ∈ l, 0 ≤ n ∧ n ≤ 511
 mem : ∀ n : Int, 0 ≤ n → n ≤ 511 → (n ∈ l ↔ σ n = true)
theorem SL.both {a b : List Int} {σ τ : Int → Bool} (ha : SL a σ) (hb : SL b τ) : SL (a.filter (fun n => decide (n ∈ b))) (fun n => σ n && τ n) :=
 ⟨ha.asc.filter _, fun n hn => ha.rng n (List.mem_filter.1 hn).1, fun n h0 h1 => by
  rw [List.mem_filter, ha.mem n h0 h1, decide_eq_true_eq, hb.mem n h0 h1]; simp⟩
theorem SL.with {x : I} {l : List Int} {σ : Int → Bool} (h : SL l σ) (q : x.Op = 4) (hx : 0 ≤ x.N ∧ x.N ≤ 511) : SL (wth x.N l) (nxt x σ) :=
 ⟨qnq h.asc, fun n hn => by rcases wth_mem.1 hn with rfl | hn; exact hx; exact h.rng n hn, fun n h0 h1 => by
  unfold nxt
  rw [qwx q, wth_mem, h.mem n h0 h1]; simp⟩
abbrev St := Int → Bool
def cap (a b : St) : St := fun n => a n && b n
theorem qpw {b : AS} {d : Int} (h : ∀ e, b = some e → e.1 = d) (σ : St) : ∃ τ, qnp b d σ = some (some (d, τ)) ∧ (b = none → τ = σ) := by
 cases b with
 | none => exact ⟨σ, rfl, fun _ => rfl⟩
 | some p =>
  obtain ⟨d0, σ0⟩ := p
  have := h _ rfl
  simp only at this
  subst this
  exact ⟨cap σ0 σ, by simp only [qnp, if_true]; rfl, fun e => by cases e⟩
def Sg1 (len b : Nat) (L : List I) (d δ : Int) (σ : St) (Q : St → Prop) : Prop :=
 ∀ (B : AB) (g : Int), B b = some (d, σ) → (∀ j, b < j → j < b + L.length → B j = none) → (∀ e, B (b + L.length) = some e → e.1 = d + δ) →
  ∃ σ' B' g', Q σ' ∧ (∀ R, wk len b (L ++ R) B g = wk len (b + L.length) R B' g') ∧ qnp (B (b + L.length)) (d + δ) σ' = some (B' (b + L.length)) ∧ ∀ j, b + L.length < j → B' j = B j
def Seg (len b : Nat) (L : List I) (d δ : Int) (σ : St) (Q : St → Prop) : Prop := (L = [] ∧ δ = 0 ∧ Q σ) ∨ (L ≠ [] ∧ Sg1 len b L d δ σ Q)
theorem Seg.mono {len b : Nat} {L : List I} {d δ : Int} {σ : St} {Q R : St → Prop} (h : Seg len b L d δ σ Q) (hq : ∀ τ, Q τ → R τ) : Seg len b L d δ σ R := by
 rcases h with ⟨h1, h2, h3⟩ | ⟨h1, h2⟩
 ·exact .inl ⟨h1, h2, hq _ h3⟩
 ·exact .inr ⟨h1, fun B g a b c => by obtain ⟨σ', B', g', k, r⟩ := h2 B g a b c; exact ⟨σ', B', g', hq _ k, r⟩⟩
theorem Seg.run {len b : Nat} {L : List I} {d δ : Int} {σ : St} {Q : St → Prop} (h : Seg len b L d δ σ Q) {B : AB} {g : Int} (hB : B b = some (d, σ)) (hn : ∀ j, b < j → j ≤ b + L.length → B j = none) :
  ∃ σ' B' g', Q σ' ∧ (∀ R, wk len b (L ++ R) B g = wk len (b + L.length) R B' g') ∧ B' (b + L.length) = some (d + δ, σ') ∧ ∀ j, b + L.length < j → B' j = B j := by
 rcases h with ⟨rfl, rfl, h3⟩ | ⟨h1, h2⟩
 ·exact ⟨σ, B, g, h3, fun R => rfl, by simpa using hB, fun j _ => rfl⟩
 ·have hl : 0 < L.length := List.length_pos_iff.2 h1
  have he : B (b + L.length) = none := hn _ (by omega) (Nat.le_refl _)
  obtain ⟨σ', B', g', k1, k2, k3, k4⟩ := h2 B g hB (fun j a b => hn j a (by omega)) fun e h => by rw [he] at h; cases h
  rw [he] at k3
  exact ⟨σ', B', g', k1, k2, (Option.some.inj k3).symm, k4⟩
theorem Seg.one {len b : Nat} {x : I} {d t l : Int} {σ : St} (he : eff x = some (t, l)) (ht : t ≤ d) (hj : isJ x = false) (h12 : x.Op ≠ 12) (h3 : x.Op = 3 → σ x.N = true) (hb : b + 1 < len) : Seg len b [x] d (l - t) σ (fun τ => τ = nxt x σ) := by
 refine .inr ⟨by simp, fun B g a1 a2 a3 => ?_⟩
 simp only [List.length_cons, List.length_nil, Nat.zero_add] at a2 a3 ⊢
 obtain ⟨τ, ha, _⟩ := qpw a3 (nxt x σ)
 refine ⟨nxt x σ, qt4 B (b + 1) (some (d + (l - t), τ)), max (max g d) (d + (l - t)), rfl, fun R => ?_, ?_, fun j hj => ?_⟩
 ·have h9 : x.Op ≠ 9 := by unfold isJ at hj; simp at hj; exact hj.1
  rw [List.cons_append, List.nil_append, qsk]
  unfold stA
  rw [he, a1]
  simp only
  have hno : ¬ (d < t ∨ ¬ ((x.Op = 12) ↔ (b + 1 = len)) ∨ (x.Op = 3 ∧ σ x.N = false)) := by
   intro h
   rcases h with h | h | h
   ·omega
   ·exact h ⟨fun q => absurd q h12, fun q => by omega⟩
   ·have := h3 h.1
    rw [h.2] at this
    cases this
  rw [qww hno, qww h12]
  unfold far qv4
  rw [qww (by simp [hj]), qwv, qww h9, ha]
  rfl
 ·rw [ha]; unfold qt4; rw [qwx rfl]
 ·unfold qt4; rw [qww (by omega)]
def Rel (ρ : Env) (s : Sg) (σ : St) : Prop := (∀ q k, s q = some k → 0 ≤ k ∧ k ≤ 511 ∧ σ k = true) ∧ ∀ q, s q = none → ρ q ≠ 0 → q ∈ J0
theorem Rel.mono {ρ : Env} {s : Sg} {σ τ : St} (h : Rel ρ s σ) (hs : ∀ n, σ n = true → τ n = true) : Rel ρ s τ :=
 ⟨fun q k e => by obtain ⟨a, b, c⟩ := h.1 q k e; exact ⟨a, b, hs _ c⟩, h.2⟩
theorem qsl {s : Str} (h : base s ≠ 0) : s ∈ J0 := by
 unfold base pre at h
 split at h
 ·rename_i q
  unfold J0
  simp only [Bool.or_eq_true, decide_eq_true_eq] at q
  rcases q with ((q | q) | q) | q <;> subst q <;> simp
 ·exact absurd rfl h
theorem Rel.nil : Rel Rt.base (fun _ => none) (fun _ => false) := ⟨fun q k e => (by cases e), fun q _ h => qsl h⟩
theorem qq2 (p s : Str) : hp (p ++ s) p = true := by simp [hp]
theorem acs_eff {x : M} (h : SF x) (h2 : x.Ab ≠ 2) (h3 : x.Ab ≠ 3) : ∃ w, acs x = [⟨11, 0, w⟩] ∧ eff ⟨11, 0, w⟩ = some ((x.Aa.length : Int), 0) := by
 have go : ∀ w k, acw x = some w → actK w = some k → k = (x.Aa.length : Int) → ∃ w, acs x = [⟨11, 0, w⟩] ∧ eff ⟨11, 0, w⟩ = some ((x.Aa.length : Int), 0) := fun w k h1 h2 h3 => by
  subst h3
  refine ⟨w, by unfold acs; rw [h1], ?_⟩
  simp [eff, h2]
 rcases h with q | ⟨q, _⟩ | ⟨q, l, t⟩ | ⟨q, l, t⟩ | ⟨q, l, t⟩ | ⟨q, l⟩ | ⟨q, l⟩
 ·exact absurd q h2
 ·exact absurd q h3
 ·rcases t with t | t
  ·exact go _ 1 (by unfold acw; rw [qwx q, t]) (by decide) (by rw [l]; rfl)
  ·exact go _ 1 (by unfold acw; rw [qwx q, t]) (by decide) (by rw [l]; rfl)
 ·refine go (sHeader ++ x.Ac) 1 (by unfold acw; rw [qww (by omega), qwx q]; rfl) ?_ (by rw [l]; rfl)
  have h0 := qq2 sHeader x.Ac
  unfold actK
  rw [qww (fun m => ?_), qww (qim h0), qwx h0, qhb, t, qwx (by decide)]
  ·revert m
   unfold acts1 sHeader
   simp
 ·refine go (sVary ++ x.Ac) 0 (by unfold acw; rw [qww (by omega), qww (by omega), qwx q]; rfl) ?_ (by rw [l]; rfl)
  have h0 := qq2 sVary x.Ac
  have h1 := qt2 _ h0
  unfold actK
  rw [qww (qt3 h0), qww (fun m => ?_), qww (by rw [h1]; simp), h0, qhb, t, qwx (by decide)]
  ·revert m
   unfold acts0 sVary
   simp
 ·rcases q with q | q | q
  ·exact go [116, 97, 103] 1 (by unfold acw; rw [qww (by omega), qww (by omega), qww (by omega), qwx q]) (by decide) (by rw [l]; rfl)
  ·exact go [116, 116, 108] 1 (by unfold acw; rw [qww (by omega), qww (by omega), qww (by omega), qww (by omega), qwx q]) (by decide) (by rw [l]; rfl)
  ·exact go [100, 101, 110, 121] 1 (by unfold acw; rw [qww (by omega), qww (by omega), qww (by omega), qww (by omega), qww (by omega), qwx q]) (by decide) (by rw [l]; rfl)
 ·rcases q with q | q
  ·exact go [112, 97, 115, 115] 0 (by unfold acw; rw [qww (by omega), qww (by omega), qww (by omega), qww (by omega), qww (by omega), qww (by omega), qwx q]) (by decide) (by rw [l]; rfl)
  ·exact go [116, 111, 107, 101, 110] 0 (by unfold acw; rw [qww (by omega), qww (by omega), qww (by omega), qww (by omega), qww (by omega), qww (by omega), qww (by omega), qwx q]) (by decide) (by rw [l]; rfl)
theorem acs_S {x : M} (h : x.Ac.length ≤ 3000) : ∀ i ∈ acs x, i.S.length ≤ 100000 := by
 intro i hi
 unfold acs acw at hi
 split at hi
 ·rename_i w hw
  simp only [List.mem_singleton] at hi
  subst hi
  show w.length ≤ 100000
  have go : ∀ v : Str, some v = some w → v.length ≤ 100000 → w.length ≤ 100000 := fun v e h => by cases e; exact h
  repeat' split at hw
  all_goals first | exact go _ hw (by simp only [List.length_append, List.length_cons, List.length_nil]; omega) | exact go _ hw (by omega) | cases hw
 ·cases hi
end Rt.Rc
namespace Vary
abbrev RF := Jh
abbrev FF := Jc
def lowB (c : UInt8) : UInt8 := if (decide ((c.toNat : Int) ≥ 65) && decide ((c.toNat : Int) ≤ 90)) then c + 32 else c
def low (s : Str) : Str := s.map lowB
theorem qq3 {α : Type} (p r : List α) (c : α) : ix (p ++ c :: r) (p.length : Int) = some c := by
 unfold ix
 rw [qwx (by omega)]
 simp
theorem qnr {α : Type} (p r : List α) (c v : α) : (p ++ c :: r).set (((p.length : Nat) : Int).toNat) v = (p ++ [v]) ++ r := by
 simp [List.set_append]
theorem qin : ∀ (r p : Str), JaP r.length p.length (p ++ r) = some (p ++ low r)
 | [], p => by simp [JaP, low]
 | c :: r, p => by
  rw [List.length_cons, JaP, qq3, qwv]
  have ih := qin r (p ++ [lowB c])
  simp only [List.length_append, List.length_cons, List.length_nil, Nat.zero_add] at ih
  have e : p ++ low (c :: r) = p ++ [lowB c] ++ low r := by simp [low]
  split
  ·rename_i h
   rw [qwv, qnr, e]
   rw [show c + 32 = lowB c from by unfold lowB; rw [qwx h]]
   exact ih
  ·rename_i h
   rw [e, show p ++ c :: r = p ++ [lowB c] ++ r from by unfold lowB; rw [qww h]; simp]
   exact ih
theorem qio {s : Str} (h : s.length ≤ 1073741824) : Jbw s = some (low s) := by
 unfold Jbw
 rw [qaa (by simp only [lim]; omega), qaa (by constructor <;> omega)]
 have := qin s []
 simp only [List.nil_append, List.length_nil] at this
 rw [show ((s.length : Int)).toNat = s.length from by omega, this]; rfl
theorem qip : ∀ (s : Str) (i : Nat) (y : Str), y.length + s.length ≤ 1073741824 → JbE s i y = some (y ++ low s)
 | [], i, y, h => by simp [JbE, low]
 | c :: r, i, y, h => by
  simp only [List.length_cons] at h
  have ih := qip r (i + 1) (y ++ [lowB c]) (by simp <;> omega)
  have e : y ++ low (c :: r) = y ++ [lowB c] ++ low r := by simp [low]
  rw [JbE, e, ← ih]
  split
  ·rename_i k
   rw [qaa (by simp only [lim, List.length_cons, List.length_nil]; omega)]
   rw [show c + 32 = lowB c from by unfold lowB; rw [qwx k]]
  ·rename_i k
   rw [qaa (by simp only [lim, List.length_cons, List.length_nil]; omega)]
   rw [show lowB c = c from by unfold lowB; rw [qww k]]
theorem qns {s : Str} (h : s.length ≤ 536870912) : Jb1 s = some (low s) := by
 unfold Jb1
 rw [qaa (by simp only [qav]; omega), qip s 0 [] (by simp <;> omega)]; rfl
def ffs (f : List RF) : List FF := f.map fun x => ⟨x.Name, x.Value⟩
def vals (f : List RF) (n : Str) : List Str := (f.filter fun x => decide (low x.Name = low n)).map (·.Value)
def tot (f : List RF) : Nat := (f.map fun x => x.Name.length + x.Value.length + 2).sum
theorem qen (x : RF) (f : List RF) : tot (x :: f) = x.Name.length + x.Value.length + 2 + tot f := by simp [tot]
theorem qey : ∀ (f : List RF), f.length ≤ tot f
 | [] => Nat.zero_le _
 | x :: f => by have := qey f; rw [qen, List.length_cons]; omega
theorem qgh (x : RF) (f : List RF) (n : Str) : vals (x :: f) n = (if decide (low x.Name = low n) then [x.Value] else []) ++ vals f n := by
 unfold vals
 by_cases h : low x.Name = low n
 ·simp [h]
 ·simp [h]
theorem qnt {n : Str} : ∀ (f : List RF) (i : Nat) (y : List Str), tot f ≤ 1000000 → y.length + f.length ≤ 1073741824 → Ja3 (low n) (ffs f) i y = some (y ++ vals f n)
 | [], i, y, _, _ => by simp [ffs, Ja3, vals]
 | x :: f, i, y, h, hy => by
  rw [qen] at h
  simp only [List.length_cons] at hy
  have ih := qnt (n := n) f (i + 1) (y ++ (if decide (low x.Name = low n) then [x.Value] else [])) (by omega) (by split <;> simp <;> omega)
  rw [List.append_assoc, ← qgh] at ih
  rw [← ih]
  show Ja3 (low n) (⟨x.Name, x.Value⟩ :: ffs f) i y = _
  rw [Ja3, qio (by show x.Name.length ≤ _; omega), qwv]
  by_cases k : low x.Name = low n
  ·rw [qwx (by simpa using k), qwx (by simpa using k), qaa (by simp only [lim, List.length_cons, List.length_nil]; omega)]
  ·rw [qww (by simpa using k), qww (by simpa using k), List.append_nil]
theorem qwn {f : List RF} {n : Str} (h : tot f ≤ 1000000) (hn : n.length ≤ 1000000) : Jdp (ffs f) n = some (vals f n) := by
 have := qey f
 unfold Jdp
 rw [qio (by omega), qwv, qaa (by simp only [ffs, List.length_map, qav]; omega), qnt f 0 [] h (by simp <;> omega)]; rfl
theorem qnu {n : Str} (hn : n.length ≤ 1000000) : ∀ (f : List RF) (i : Nat) (y : List Str), tot f ≤ 1000000 → y.length + f.length ≤ 1073741824 → Jb4 n f i y = some (y ++ vals f n)
 | [], i, y, _, _ => by simp [Jb4, vals]
 | x :: f, i, y, h, hy => by
  rw [qen] at h
  simp only [List.length_cons] at hy
  have ih := qnu hn f (i + 1) (y ++ (if decide (low x.Name = low n) then [x.Value] else [])) (by omega) (by split <;> simp <;> omega)
  rw [List.append_assoc, ← qgh] at ih
  rw [← ih, Jb4]
  unfold JeB
  rw [qns (by omega), qwv, qns (by omega), qwv, qwv]
  by_cases k : low x.Name = low n
  ·rw [qwx (by simpa using k), qwx (by simpa using k), qaa (by simp only [lim, List.length_cons, List.length_nil]; omega)]
  ·rw [qww (by simpa using k), qww (by simpa using k), List.append_nil]
theorem qwo {f : List RF} {n : Str} (h : tot f ≤ 1000000) (hn : n.length ≤ 1000000) : JeI f n = some (vals f n) := by
 have := qey f
 unfold JeI
 rw [qaa (by simp only [qav]; omega), qnu hn f 0 [] h (by simp <;> omega)]; rfl
def isB (c : UInt8) : Bool := decide ((c.toNat : Int) = 32) || decide ((c.toNat : Int) = 9)
def cl (c : UInt8) : UInt8 := if (decide ((c.toNat : Int) < 32) || decide ((c.toNat : Int) = 127)) then 63 else c
def rel (y : Str) (b : Bool) : Str := if (b && decide ((y.length : Int) > 0)) then y ++ [32] else y
def nst (p : Str × Bool) (c : UInt8) : Str × Bool := if isB c then (p.1, true) else (rel p.1 p.2 ++ [cl c], false)
def qwp (s : Str) : Str := (s.foldl nst ([], false)).1
structure Inv (y : Str) : Prop where
 hd : ∀ a r, y = a :: r → isB a = false
 lt : ∀ r z, y = r ++ [z] → isB z = false
theorem qt5 {c : UInt8} (h : isB c = false) : isB (cl c) = false := by
 unfold cl; split
 ·decide
 ·exact h
theorem qpx {y : Str} {b : Bool} (h : y ≠ []) : ∃ r, rel y b = y ++ r := by
 unfold rel; split
 ·exact ⟨_, rfl⟩
 ·exact ⟨[], by simp⟩
theorem Inv.step {y : Str} {b : Bool} {c : UInt8} (h : Inv y) (hc : isB c = false) : Inv (rel y b ++ [cl c]) := by
 refine ⟨fun a r e => ?_, fun r z e => ?_⟩
 ·cases y with
  | nil =>
   have : rel [] b = [] := by unfold rel; simp
   rw [this] at e
   simp at e
   rw [← e.1]; exact qt5 hc
  | cons x y =>
   obtain ⟨q, hq⟩ := qpx (y := x :: y) (b := b) (by simp)
   rw [hq] at e
   simp at e
   exact e.1 ▸ h.hd x y rfl
 ·have := List.append_inj' e rfl
  simp at this
  rw [← this.2]; exact qt5 hc
theorem Inv.nil : Inv [] := ⟨fun a r e => absurd e (by simp), fun r z e => absurd e (by simp)⟩
abbrev jn := Go.Lib.join
abbrev jt := Go.Lib.joinTail
theorem qnv (sep x : Str) (r : List Str) : jt sep (x :: r) = sep ++ x ++ jt sep r := by simp [jt, Go.Lib.joinTail]
theorem qq4 (sep : Str) : jt sep [] = [] := rfl
theorem qju (sep x : Str) (r : List Str) : jn (x :: r) sep = x ++ jt sep r := Go.Lib.join_cons x r sep
theorem qt6 (sep : Str) : jn [] sep = [] := Go.Lib.join_nil sep
def ql7 (l : List Str) : Nat := (l.map fun x => x.length + 1).sum
theorem qeo (x : Str) (l : List Str) : ql7 (x :: l) = x.length + 1 + ql7 l := by simp [ql7]
theorem qk1 : ql7 [] = 0 := rfl
theorem qfj : ∀ (l : List Str), l.length ≤ ql7 l
 | [] => Nat.zero_le _
 | x :: l => by have := qfj l; rw [qeo, List.length_cons]; omega
theorem qjv (l k : List Str) : ql7 (l ++ k) = ql7 l + ql7 k := by simp [ql7]
theorem qep (n : Str) : ∀ (f : List RF), ql7 (vals f n) ≤ tot f
 | [] => Nat.zero_le _
 | x :: f => by
  have := qep n f
  rw [qgh, qjv, qen]
  split
  ·rw [qeo, qk1]; omega
  ·rw [qk1]; omega
def esc (c : UInt8) : Str := if (decide ((c.toNat : Int) = 34) || decide ((c.toNat : Int) = 92)) then [92, c] else [c]
def quo (s : Str) : Str := [34] ++ s.flatMap esc ++ [34]
theorem el_go {ρ σ γ : Type} {y : σ} {f : ρ → Option γ} {g : σ → Option γ} : (Fl.go y : Fl ρ σ).el f g = g y := rfl
def qwq (f : List RF) (m : Str) : Str := if vals f m = [] then m else m ++ [61] ++ quo (jn ((vals f m).map qwp) [44])
def key (names : List Str) (f : List RF) : Str := jn (names.map (qwq f)) [38]
theorem qsm {l : List Str} {sep : Str} (h1 : l.length ≤ 1000000) (h2 : (jn l sep).length ≤ 1000000000) : qjg l sep = some (jn l sep) := by
 unfold qjg; rw [qwx ⟨by simp only [lim]; omega, by show (jn l sep).length ≤ _; simp only [lim]; omega⟩]
theorem qiq : ∀ (l : List RF) (i : Nat) (y : List FF), y.length + l.length ≤ 1073741824 → JaS l i y = some (y ++ ffs l)
 | [], i, y, _ => by simp [JaS, ffs]
 | x :: l, i, y, h => by
  simp only [List.length_cons] at h
  have ih := qiq l (i + 1) (y ++ [⟨x.Name, x.Value⟩]) (by simp only [List.length_append, List.length_cons, List.length_nil]; omega)
  rw [JaS, qaa (by simp only [lim, List.length_cons, List.length_nil]; omega), ih]
  simp [ffs]
theorem qnw {l : List RF} (h : l.length ≤ 536870912) : Jcp l = some (ffs l) := by
 unfold Jcp
 rw [qaa (by simp only [qav]; omega), qiq l 0 [] (by simp <;> omega)]; rfl
def bl9 (c : UInt8) : Bool := ([32, 9] : Str).contains c
def rd : Str → Str
 | [] => []
 | x :: t => match rd t with
  | [] => if bl9 x = true then [] else [x]
  | y :: ys => x :: y :: ys
theorem qsn (r : Str) (z : UInt8) : rd (r ++ [z]) = if bl9 z = true then rd r else r ++ [z] := by
 induction r with
 | nil => simp [rd]
 | cons x r ih =>
  rw [List.cons_append, rd, ih]
  by_cases q : bl9 z = true
  ·rw [qwx q, qwx q, rd]
  ·rw [qww q, qww q]
   cases h : r ++ [z] with
   | nil => simp at h
   | cons a b => rfl
theorem qt7 (s : Str) : (s.reverse.dropWhile bl9).reverse = rd s := by
 have : ∀ r : Str, rd r.reverse = (r.dropWhile bl9).reverse := fun r => by
  induction r with
  | nil => rfl
  | cons x r ih =>
   rw [List.reverse_cons, qsn, List.dropWhile_cons]
   by_cases q : bl9 x = true
   ·rw [qwx q, qwx q, ih]
   ·rw [qww q, qww q, List.reverse_cons]
 rw [← this, List.reverse_reverse]
theorem qt8 : ∀ s : Str, (rd s).dropWhile bl9 = rd (s.dropWhile bl9)
 | [] => rfl
 | x :: t => by
  rw [rd, List.dropWhile_cons]
  by_cases q : bl9 x = true
  ·rw [qwx q, qwx q, ← qt8 t]
   cases rd t with
   | nil => rfl
   | cons a b => simp only; rw [List.dropWhile_cons, qwx q]
  ·rw [qww q, qww q, rd, qww q]
   cases rd t with
   | nil => simp only; rw [List.dropWhile_cons, qww q]
   | cons a b => simp only; rw [List.dropWhile_cons, qww q]
def trm (s : Str) : Str := rd (s.dropWhile bl9)
theorem qpy {s : Str} (h : s.length ≤ 100000000) : qjh s ([32, 9] : Str) = some (trm s) := by
 unfold qjh
 rw [qwx ⟨by omega, by simp, by decide⟩]
 show some ((Go.Lib.trimRightS s [32, 9]).dropWhile (([32, 9] : Str).contains ·)) = _
 have e : Go.Lib.trimRightS s [32, 9] = rd s := qt7 s
 rw [e]
 exact congrArg some (qt8 s)
theorem tl {c : UInt8} {t : Str} : subL (c :: t) (1 : Int) (((c :: t).length : Nat) : Int) = t := by
 unfold subL
 rw [show ((1 : Int)).toNat = 1 from rfl, List.drop_succ_cons, List.drop_zero, List.take_of_length_le (by simp only [List.length_cons]; omega)]
theorem qso : ∀ n : Fin 256, ∃ b, qbq (UInt8.ofNat n.val) = some b ∧ Jdb (UInt8.ofNat n.val) = some b := by
 have h : ∀ n : Fin 256, qbq (UInt8.ofNat n.val) = Jdb (UInt8.ofNat n.val) ∧ (qbq (UInt8.ofNat n.val)).isSome = true := by decide +kernel
 intro n
 obtain ⟨h1, h2⟩ := h n
 obtain ⟨b, hb⟩ := Option.isSome_iff_exists.1 h2
 exact ⟨b, hb, by rw [← h1, hb]⟩
theorem tch (c : UInt8) : ∃ b, qbq c = some b ∧ Jdb c = some b := by
 have := qso ⟨c.toNat, c.toNat_lt⟩
 simpa using this
theorem qq5 : ∀ (s : Str) (i j : Nat), ∃ b : Bool, syntax_Token_L0 s i = some (if b = true then Fl.go () else Fl.ret false) ∧ Jcm s j = some (if b = true then Fl.go () else Fl.ret false)
 | [], i, j => ⟨true, rfl, rfl⟩
 | c :: s, i, j => by
  obtain ⟨b, h1, h2⟩ := tch c
  rw [syntax_Token_L0, Jcm, h1, h2, qwv, qwv]
  cases b with
  | false => exact ⟨false, rfl, rfl⟩
  | true => exact qq5 s (i + 1) (j + 1)
theorem tok {s : Str} (h : s.length ≤ 100000000) : ∃ b, qb0 s = some b ∧ JcD s = some b := by
 obtain ⟨b, h1, h2⟩ := qq5 s 0 0
 unfold qb0 JcD
 rw [qaa (by simp only [qav]; omega), qaa (by simp only [qav]; omega), h1, h2, qwv, qwv]
 cases b with
 | false => exact ⟨false, rfl, rfl⟩
 | true =>
  refine ⟨decide (s ≠ []), rfl, ?_⟩
  simp only [if_true, el_go]
  congr 1
  apply decide_eq_decide.2
  cases s <;> simp
theorem qcm {α : Type} {s : List α} {i : Int} (h0 : 0 ≤ i) (h1 : i < (s.length : Int)) : ∃ x, ix s i = some x := by
 unfold ix
 rw [qwx h0]
 exact ⟨s[i.toNat]'(by omega), List.getElem?_eq_getElem (by omega)⟩
def ctl (s : Str) : Bool := s.any fun c => (decide ((c.toNat : Int) < 32) && decide ((c.toNat : Int) ≠ 9)) || decide ((c.toNat : Int) = 127)
end Vary
