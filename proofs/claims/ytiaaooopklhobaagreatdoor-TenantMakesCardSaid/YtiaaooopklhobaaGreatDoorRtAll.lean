import Derived.Test.YtiaaooopklhobaaGreatDoorR
import Derived.Test.YtiaaooopklhobaaGreatDoorPlain
import Derived.Test.YtiaaooopklhobaaGreatDoorLU
set_option linter.unusedVariables false
set_option linter.unusedSimpArgs false
open Go Go.SL Go.Proofs Pl
namespace Rt
theorem el_go {ρ σ γ : Type} {y : σ} {f : ρ → Option γ} {g : σ → Option γ} : (Fl.go y : Fl ρ σ).el f g = g y := rfl
theorem qeo {ρ σ γ : Type} {y : ρ} {f : ρ → Option γ} {g : σ → Option γ} : (Fl.ret y : Fl ρ σ).el f g = f y := rfl
theorem qc4 {α : Type} {s : List α} {i : Int} (h0 : 0 ≤ i) (h1 : i < (s.length : Int)) : ∃ x, ix s i = some x := by
 unfold ix
 rw [qx2 h0]
 exact ⟨s[i.toNat]'(by omega), List.getElem?_eq_getElem (by omega)⟩
theorem qat {α : Type} {b : Bool} {x y : Option α} (h1 : b = true → ∃ r, x = some r) (h2 : b = false → ∃ r, y = some r) : ∃ r, (if b = true then x else y) = some r := by
 cases b with
 | true => exact h1 rfl
 | false => exact h2 rfl
theorem qkd : ∀ (s : Str) (i : Nat) (y : Str), y.length + 2 * s.length ≤ 1000000 → ∃ r, JaS s i y = some r ∧ ∀ z, r = Fl.go z → z.length ≤ 1000000
 | [], i, y, h => ⟨_, rfl, fun z e => by cases e; simpa using h⟩
 | c :: s, i, y, h => by
  simp only [List.length_cons] at h
  rw [JaS]
  have e1 : ∃ b, (if decide ((c.toNat : Int) < 32) = true then some true else some (decide ((c.toNat : Int) > 126))) = some b := qat (fun _ => ⟨_, rfl⟩) (fun _ => ⟨_, rfl⟩)
  obtain ⟨b, hb⟩ := e1
  rw [hb, qx0]
  cases b with
  | true => exact ⟨_, qx2 rfl, fun z e => by cases e⟩
  | false =>
   rw [qx1 (by simp)]
   have e2 : ∃ b, (if decide ((c.toNat : Int) = 34) = true then some true else some (decide ((c.toNat : Int) = 92))) = some b := qat (fun _ => ⟨_, rfl⟩) (fun _ => ⟨_, rfl⟩)
   obtain ⟨d, hd⟩ := e2
   rw [hd, qx0]
   cases d with
   | true =>
    rw [qx2 rfl, qad (by simp only [lim, List.length_cons, List.length_nil]; omega), qad (by simp only [lim, List.length_append, List.length_cons, List.length_nil]; omega)]
    exact qkd s (i + 1) _ (by simp only [List.length_append, List.length_cons, List.length_nil]; omega)
   | false =>
    rw [qx1 (by simp), qad (by simp only [lim, List.length_cons, List.length_nil]; omega)]
    exact qkd s (i + 1) _ (by simp only [List.length_append, List.length_cons, List.length_nil]; omega)
theorem qep {s : Str} (h : s.length ≤ 4200) : ∃ b, JaJ s = some b := by
 obtain ⟨r, hr, hl⟩ := qkd s 0 [34] (by simp <;> omega)
 unfold JaJ Jco
 rw [qad (by simp only [qa1]; omega), hr, qx0]
 cases r with
 | ret z => rw [qeo]; exact ⟨_, rfl⟩
 | go z =>
  have := hl z rfl
  rw [el_go, qad (by simp only [lim, List.length_cons, List.length_nil]; omega)]; exact ⟨_, rfl⟩
theorem qim {s : Str} (hs : s.length ≤ 5000) : ∀ (n : Nat) (y : Str) (i : Int), 0 ≤ i → i ≤ (s.length : Int) → (s.length : Int) - i < n → (y.length : Int) + (s.length - i) ≤ 100000 → ∃ r, JaA s n y i = some r ∧ ∀ a b, r = Fl.ret (a, b) → a = 0 ∨ (0 < a ∧ a ≤ (s.length : Int))
 | 0, y, i, h0, h3, h1, h2 => by omega
 | n + 1, y, i, h0, h3, h1, h2 => by
  rw [JaA]
  by_cases hi : i < (s.length : Int)
  ·obtain ⟨c, hc⟩ := qc4 h0 hi
   rw [qx2 (by simpa using hi), hc, qx0]
   by_cases q : (c.toNat : Int) = 34
   ·rw [qx2 (by simpa using q), qad (by constructor <;> omega)]
    exact ⟨_, rfl, fun a b e => by cases e; right; omega⟩
   ·rw [qx1 (by simpa using q)]
    by_cases q2 : (c.toNat : Int) = 92
    ·rw [qx2 (by simpa using q2), qad (by constructor <;> omega)]
     by_cases q3 : i + 1 = (s.length : Int)
     ·rw [qx2 (by simpa using q3)]; exact ⟨_, rfl, fun a b e => by cases e; left; rfl⟩
     ·obtain ⟨d, hd⟩ := qc4 (s := s) (i := i + 1) (by omega) (by omega)
      rw [qx1 (by simpa using q3), hd, qx0]
      have e2 : ∃ b, (if decide ((d.toNat : Int) ≠ 34) = true then (some d).bind fun x40 => some (decide ((x40.toNat : Int) ≠ 92)) else some false) = some b := qat (fun _ => ⟨_, rfl⟩) (fun _ => ⟨_, rfl⟩)
      obtain ⟨b, hb⟩ := e2
      rw [hb, qx0]
      cases b with
      | true => exact ⟨_, qx2 rfl, fun a b e => by cases e; left; rfl⟩
      | false =>
       rw [qx1 (by simp), qx0, qad (by simp only [lim, List.length_cons, List.length_nil]; omega), qad (by constructor <;> omega)]
       exact qim hs n _ _ (by omega) (by omega) (by omega) (by simp only [List.length_append, List.length_cons, List.length_nil]; omega)
    ·rw [qx1 (by simpa using q2)]
     refine (fun (h : ∀ b : Bool, b = (decide ((c.toNat : Int) < 32) || decide ((c.toNat : Int) > 126)) → _) => h _ rfl) fun b hb => ?_
     rw [← hb]
     cases b with
     | true => exact ⟨_, qx2 rfl, fun a b e => by cases e; left; rfl⟩
     | false =>
      rw [qx1 (by simp), qad (by simp only [lim, List.length_cons, List.length_nil]; omega), qad (by constructor <;> omega)]
      exact qim hs n _ _ (by omega) (by omega) (by omega) (by simp only [List.length_append, List.length_cons, List.length_nil]; omega)
  ·rw [qx1 (by simpa using hi)]; exact ⟨_, rfl, fun a b e => by cases e⟩
theorem qke {s : Str} (hs : s.length ≤ 5000) : ∀ (n : Nat) (i : Int), 0 < i → i ≤ (s.length : Int) → (s.length : Int) - i < n → ∃ r, Jbz s n i = some r ∧ 0 < r ∧ r ≤ (s.length : Int)
 | 0, i, h0, h1, h2 => by omega
 | n + 1, i, h0, h1, h2 => by
  rw [Jbz]
  by_cases hi : i < (s.length : Int)
  ·obtain ⟨c, hc⟩ := qc4 (by omega) hi
   rw [qx2 (by simpa using hi), hc, qx0]
   unfold JbT JbE
   rw [qx0]
   have e : ∀ b : Bool, ∃ d, (if b = true then some true else (some c).bind fun x28 => (some (decide ((x28.toNat : Int) ≥ 48) && decide ((x28.toNat : Int) ≤ 57))).bind fun x29 => some x29) = some d := fun b => qat (fun _ => ⟨_, rfl⟩) (fun _ => ⟨_, rfl⟩)
   obtain ⟨d, hd⟩ := e _
   rw [hd, qx0]
   cases d with
   | true => rw [qx2 rfl, qad (by constructor <;> omega)]; exact qke hs n (i + 1) (by omega) (by omega) (by omega)
   | false => exact ⟨i, qx1 (by simp), h0, h1⟩
  ·exact ⟨i, qx1 (by simpa using hi), h0, h1⟩
theorem qkf {s : Str} (hs : s.length ≤ 5000) : ∀ (n : Nat) (i : Int), 0 < i → i ≤ (s.length : Int) → (s.length : Int) - i < n → ∃ r, JbA s n i = some r ∧ 0 < r ∧ r ≤ (s.length : Int)
 | 0, i, h0, h1, h2 => by omega
 | n + 1, i, h0, h1, h2 => by
  rw [JbA]
  by_cases hi : i < (s.length : Int)
  ·obtain ⟨c, hc⟩ := qc4 (by omega) hi
   rw [qx2 (by simpa using hi), hc, qx0]
   unfold JbE
   rw [qx0, qx0]
   refine (fun (h : ∀ b : Bool, b = (decide ((c.toNat : Int) ≥ 48) && decide ((c.toNat : Int) ≤ 57)) → _) => h _ rfl) fun b hb => ?_
   rw [← hb]
   cases b with
   | true => rw [qx2 rfl, qad (by constructor <;> omega)]; exact qkf hs n (i + 1) (by omega) (by omega) (by omega)
   | false => exact ⟨i, qx1 (by simp), h0, h1⟩
  ·rw [qx1 (by simpa using hi), qx0]
   exact ⟨i, qx1 (by simp), h0, h1⟩
theorem qlh (s p : Str) : JaB s p = some (decide ((s.length : Int) ≥ (p.length : Int)) && decide (subL s (0 : Int) (p.length : Int) = p)) := by
 unfold JaB Jas
 by_cases h : (s.length : Int) ≥ (p.length : Int)
 ·rw [qx2 (by simpa using h), qad (by omega)]; simp [h]
 ·rw [qx1 (by simpa using h)]
  have : ¬ p.length ≤ s.length := by omega
  simp [this]
theorem qnr {s : Str} : ∀ (k i : Nat), i + k = 14 → ∃ r, Ja5 s k i = some r ∧ ∀ a b c, r = Fl.ret (a, b, c) → 0 ≤ b ∧ b ≤ (s.length : Int)
 | 0, i, h => ⟨_, rfl, fun a b c e => by cases e⟩
 | k + 1, i, h => by
  rw [Ja5]
  obtain ⟨p, hp⟩ := qc4 (s := ([([61, 61] : Str), ([33, 61] : Str), ([60, 61] : Str), ([60] : Str), ([43] : Str), ([45] : Str), ([42] : Str), ([40] : Str), ([41] : Str), ([123] : Str), ([125] : Str), ([44] : Str), ([59] : Str), ([61] : Str)])) (i := (i : Int)) (by omega) (by simp; omega)
  rw [hp, qx0, qlh, qx0]
  by_cases q : (decide ((s.length : Int) ≥ (p.length : Int)) && decide (subL s (0 : Int) (p.length : Int) = p)) = true
  ·rw [qx2 q]
   simp only [Bool.and_eq_true, decide_eq_true_eq] at q
   exact ⟨_, rfl, fun a b c e => by cases e; omega⟩
  ·rw [qx1 q]; exact qnr k (i + 1) (by omega)
theorem qrz {n : Nat} {s : Str} (hn : 10000 ≤ n) (h0 : 0 < s.length) (hs : s.length ≤ 5000) : ∃ a b c, Jb3 n s = some (a, b, c) ∧ 0 ≤ b ∧ b ≤ (s.length : Int) := by
 unfold Jb3
 obtain ⟨c, hc⟩ := qc4 (s := s) (i := 0) (by omega) (by omega)
 rw [hc, qx0]
 unfold JbT
 rw [qx0]
 split
 ·obtain ⟨r, hr, h1, h2⟩ := qke hs n 1 (by omega) (by omega) (by omega)
  rw [hr, qx0, qad (by omega)]
  exact ⟨_, _, _, rfl, by omega, h2⟩
 ·unfold JbE
  rw [qx0]
  split
  ·obtain ⟨r, hr, h1, h2⟩ := qkf hs n 1 (by omega) (by omega) (by omega)
   rw [hr, qx0]
   split
   ·exact ⟨_, _, _, rfl, by omega, by omega⟩
   ·rw [qad (by omega)]; exact ⟨_, _, _, rfl, by omega, h2⟩
  ·split
   ·unfold Jcw
    obtain ⟨r, hr, h1⟩ := qim hs n [] 1 (by omega) (by omega) (by omega) (by simp; omega)
    rw [hr, qx0]
    cases r with
    | ret z =>
     obtain ⟨a, b⟩ := z
     rw [qeo, qx0]
     have := h1 a b rfl
     exact ⟨_, _, _, rfl, by omega, by omega⟩
    | go z => rw [el_go, qx0]; exact ⟨_, _, _, rfl, by omega, by omega⟩
   ·obtain ⟨r, hr, h1⟩ := qnr (s := s) 14 0 rfl
    rw [qad (by constructor <;> omega), show ((14 : Int)).toNat = 14 from rfl, hr, qx0]
    cases r with
    | ret z =>
     obtain ⟨a, b, c⟩ := z
     have := h1 a b c rfl
     exact ⟨_, _, _, rfl, this.1, this.2⟩
    | go z => exact ⟨_, _, _, rfl, by omega, by omega⟩
theorem qkg {s : Str} (hs : s.length ≤ 5000) : ∀ (n : Nat) (i : Int), 0 ≤ i → i ≤ (s.length : Int) → (s.length : Int) - i < n → ∃ r, JbB s n i = some r ∧ i ≤ r ∧ r ≤ (s.length : Int) ∧ (∀ c, ix s i = some c → (c.toNat : Int) ≠ 10 → i < r)
 | 0, i, h0, h1, h2 => by omega
 | n + 1, i, h0, h1, h2 => by
  rw [JbB]
  by_cases hi : i < (s.length : Int)
  ·obtain ⟨c, hc⟩ := qc4 h0 hi
   rw [qx2 (by simpa using hi), hc, qx0, qx0]
   by_cases q : (c.toNat : Int) = 10
   ·exact ⟨i, qx1 (by simpa using q), by omega, h1, fun d e => by cases e; exact fun h => absurd q h⟩
   ·obtain ⟨r, hr, h3, h4, _⟩ := qkg hs n (i + 1) (by omega) (by omega) (by omega)
    rw [qx2 (by simpa using q), qad (by constructor <;> omega)]
    exact ⟨r, hr, by omega, h4, fun _ _ _ => by omega⟩
  ·rw [qx1 (by simpa using hi), qx0]
   refine ⟨i, qx1 (by simp), by omega, h1, fun c e => ?_⟩
   unfold ix at e
   rw [qx2 h0, List.getElem?_eq_none (by omega)] at e; cases e
theorem qd6 {s : Str} {m : Nat} (hm : 10000 ≤ m) (hs : s.length ≤ 5000) : ∀ (n : Nat) (y : List Je) (a b i : Int), 0 ≤ i → i ≤ (s.length : Int) → (s.length : Int) - i < n → (y.length : Int) + (s.length - i) ≤ 100000 → 0 ≤ a → a + (s.length - i) ≤ 100000 → 0 ≤ b → b ≤ i →
  ∃ r, Jab s m n y a b i = some r ∧ ∀ p q u v, r = Fl.go (p, q, u, v) → p.length ≤ 100000 ∧ 0 ≤ u ∧ u ≤ (s.length : Int)
 | 0, y, a, b, i, h0, h1, h2, h3, h4, h5, h6, h7 => by omega
 | n + 1, y, a, b, i, h0, h1, h2, h3, h4, h5, h6, h7 => by
  rw [Jab]
  by_cases hi : i < (s.length : Int)
  ·obtain ⟨c, hc⟩ := qc4 h0 hi
   rw [qx2 (by simpa using hi), hc, qx0]
   split
   ·rw [qad (by constructor <;> omega), qad (by constructor <;> omega)]
    exact qd6 hm hs n _ _ _ _ (by omega) (by omega) (by omega) (by omega) (by omega) (by omega) (by omega) (by omega)
   ·rename_i h10
    split
    ·rw [qad (by constructor <;> omega)]
     exact qd6 hm hs n _ _ _ _ (by omega) (by omega) (by omega) (by omega) (by omega) (by omega) (by omega) (by omega)
    ·split
     ·rw [qad (by constructor <;> omega)]
      exact qd6 hm hs n _ _ _ _ (by omega) (by omega) (by omega) (by omega) (by omega) (by omega) (by omega) (by omega)
     ·split
      ·rw [qad (by constructor <;> omega)]
       exact qd6 hm hs n _ _ _ _ (by omega) (by omega) (by omega) (by omega) (by omega) (by omega) (by omega) (by omega)
      ·split
       ·obtain ⟨r, hr, g1, g2, g3⟩ := qkg hs m i h0 h1 (by omega)
        have := g3 c hc (by simpa using h10)
        rw [hr, qx0]
        exact qd6 hm hs n _ _ _ _ (by omega) (by omega) (by omega) (by omega) (by omega) (by omega) (by omega) (by omega)
       ·have hsl : (subL s i (s.length : Int)).length = s.length - i.toNat := by
         unfold subL
         rw [List.length_take, List.length_drop]; omega
        rw [qad (by omega)]
        obtain ⟨u, v, w, hr, g1, g2⟩ := qrz (n := m) (s := subL s i (s.length : Int)) hm (by omega) (by omega)
        rw [hr, qx0]
        split
        ·exact ⟨_, rfl, fun p q u v e => by cases e⟩
        ·rename_i hz
         have hz' : v ≠ 0 := by simpa using hz
         rw [qad (by constructor <;> omega), qad (by constructor <;> omega), qad (by simp only [lim, List.length_cons, List.length_nil]; omega), qad (by constructor <;> simp only <;> omega)]
         exact qd6 hm hs n _ _ _ _ (by simp only; omega) (by simp only; omega) (by simp only; omega) (by simp only [List.length_append, List.length_cons, List.length_nil]; omega) (by omega) (by simp only; omega) (by omega) (by simp only; omega)
  ·rw [qx1 (by simpa using hi)]
   exact ⟨_, rfl, fun p q u v e => by cases e; omega⟩
theorem qe1 {n : Nat} {s : Str} (hn : 10000 ≤ n) : ∃ r, JbP n s = some r := by
 unfold JbP
 by_cases h : (s.length : Int) > 4096
 ·exact ⟨_, qx2 (by simpa using h)⟩
 ·obtain ⟨r, hr, h1⟩ := qd6 hn (s := s) (by omega) n [] 1 0 0 (by omega) (by omega) (by omega) (by simp; omega) (by omega) (by omega) (by omega) (by omega)
  rw [qx1 (by simpa using h), hr, qx0]
  cases r with
  | ret z => rw [qeo]; exact ⟨_, rfl⟩
  | go z =>
   obtain ⟨p, q, u, v⟩ := z
   obtain ⟨g1, g2, g3⟩ := h1 p q u v rfl
   rw [el_go, qad (by constructor <;> simp only <;> omega), qad (by constructor <;> simp only <;> omega), qad (by simp only [lim, List.length_cons, List.length_nil]; omega)]
   exact ⟨_, rfl⟩
theorem qns (v : Str) : ∀ (l : List Str) (i : Nat), ∃ r, JaF v l i = some r
 | [], i => ⟨_, rfl⟩
 | x :: l, i => by
  rw [JaF]
  exact qat (fun _ => ⟨_, rfl⟩) (fun _ => qns v l (i + 1))
theorem qgx (s : Str) : ∃ b, Jbc s = some b := by
 obtain ⟨r, hr⟩ := qns s gkw0 0
 unfold Jbc JQ Jb4
 rw [qad (by decide), hr, qx0]
 cases r <;> exact ⟨_, rfl⟩
theorem qay {α β : Type} {o : Option α} {f : α → Option β} (h1 : ∃ a, o = some a) (h2 : ∀ a, o = some a → ∃ r, f a = some r) : ∃ r, o.bind f = some r := by
 obtain ⟨a, ha⟩ := h1
 rw [ha, qx0]; exact h2 a ha
theorem qkh {n : Nat} (hn : 10000 ≤ n) (s : Str) : ∃ b, JbV n s = some b := by
 unfold JbV
 refine qay (qe1 hn) fun r _ => ?_
 refine qay (qat (fun h => ?_) fun _ => ⟨_, rfl⟩) fun b hb => ?_
 ·simp only [Bool.and_eq_true, decide_eq_true_eq] at h
  exact qay (qc4 (by omega) (by omega)) fun _ _ => ⟨_, rfl⟩
 ·refine qay (qat (fun h => ?_) fun _ => ⟨_, rfl⟩) fun d hd => ?_
  ·subst h
   cases q : (r.2.isNone && decide ((r.1.length : Int) = 2)) with
   | false => rw [q, qx1 (by simp)] at hb; cases hb
   | true =>
    simp only [Bool.and_eq_true, decide_eq_true_eq] at q
    exact qay (qc4 (by omega) (by omega)) fun _ _ => ⟨_, rfl⟩
  ·refine qay (qat (fun h => qay (qgx s) fun _ _ => ⟨_, rfl⟩) fun _ => ⟨_, rfl⟩) fun d hd => ⟨_, rfl⟩
theorem qli : ∀ (s : Str) (i : Nat), ∃ r, JaI s i = some r
 | [], i => ⟨_, rfl⟩
 | c :: s, i => by
  rw [JaI]
  exact qay (qat (fun _ => ⟨_, rfl⟩) fun _ => ⟨_, rfl⟩) fun _ _ => qat (fun _ => ⟨_, rfl⟩) fun _ => qli s (i + 1)
theorem qp1 {s : Str} (h : s.length ≤ 4200) : ∃ b, JbJ s = some b := by
 obtain ⟨r, hr⟩ := qli s 0
 unfold JbJ
 rw [qad (by simp only [qa1]; omega), hr, qx0]
 cases r <;> exact ⟨_, rfl⟩
theorem qin (k : Int) (s : Str) : ∃ b, J9 k s = some b := by
 unfold J9
 repeat (refine qat (fun _ => ⟨_, rfl⟩) fun _ => ?_)
 exact ⟨_, rfl⟩
abbrev M := Ja
def Ok : Nat → M → Prop
 | 0, _ => False
 | d + 1, x => x.Ac.length ≤ 4200 ∧ x.Aa.length ≤ 700 ∧ ∀ k ∈ x.Aa, Ok d k
theorem Ok.succ : ∀ {d : Nat} {x : M}, Ok d x → Ok (d + 1) x
 | d + 1, x, h => ⟨h.1, h.2.1, fun k hk => (h.2.2 k hk).succ⟩
theorem qmr {n : Nat} (hn : 10000 ≤ n) {x : M} (ht : x.Ac.length ≤ 4200) : ∃ k, J0 n x = some k ∧ (x.Ab = 16 → k = 2 ∨ k = -2) := by
 have st : ∀ {b : Bool} {p q : Option Int} {P : Int → Prop}, (b = true → ∃ k, p = some k ∧ P k) → (b = false → ∃ k, q = some k ∧ P k) → ∃ k, (if b = true then p else q) = some k ∧ P k := fun {b p q P} h1 h2 => by
  cases b with
  | true => exact h1 rfl
  | false => exact h2 rfl
 have bd : ∀ {β : Type} {o : Option β} {f : β → Option Int} {P : Int → Prop}, (∃ a, o = some a) → (∀ a, ∃ k, f a = some k ∧ P k) → ∃ k, o.bind f = some k ∧ P k := fun {β o f P} h1 h2 => by
  obtain ⟨a, ha⟩ := h1
  rw [ha, qx0]; exact h2 a
 have two : ∀ {b : Bool} {q : Int}, (x.Ab = 16 → q = 2) → ∃ k, (if b = true then some (-2) else some q : Option Int) = some k ∧ (x.Ab = 16 → k = 2 ∨ k = -2) := fun {b q} hq => st (fun _ => ⟨_, rfl, fun _ => .inr rfl⟩) fun _ => ⟨_, rfl, fun h => .inl (hq h)⟩
 unfold J0
 refine st (fun _ => two fun _ => rfl) fun _ => ?_
 refine st (fun _ => two fun _ => rfl) fun _ => ?_
 refine st (fun _ => two fun _ => rfl) fun _ => ?_
 refine st (fun _ => two fun _ => rfl) fun _ => ?_
 refine st (fun _ => two fun _ => rfl) fun _ => ?_
 refine st (fun h => two fun h2 => by have h := of_decide_eq_true h; omega) fun _ => ?_
 refine st (fun _ => bd (qin 4 _) fun a => bd (qat (fun _ => ⟨_, rfl⟩) fun _ => qay (qin 1 _) fun _ _ => ⟨_, rfl⟩) fun b => two fun _ => rfl) fun h16 => ?_
 have h16 : x.Ab ≠ 16 := of_decide_eq_false h16
 refine st (fun _ => bd (qp1 ht) fun a => two fun h => absurd h h16) fun _ => ?_
 refine st (fun _ => bd (qep ht) fun a => two fun h => absurd h h16) fun _ => ?_
 refine st (fun _ => two fun h => absurd h h16) fun _ => ?_
 refine st (fun _ => bd (qkh hn _) fun a => two fun h => absurd h h16) fun _ => ?_
 refine st (fun _ => bd (qkh hn _) fun a => two fun h => absurd h h16) fun _ => ?_
 exact ⟨_, rfl, fun _ => .inr rfl⟩
theorem qf9 {f : M → Option Bool} : ∀ (l : List M) (i : Nat), (∀ k ∈ l, ∃ b, f k = some b) → ∃ r, JR f l i = some r
 | [], i, _ => ⟨_, rfl⟩
 | k :: l, i, h => by
  rw [JR]
  exact qay (h k (by simp)) fun _ _ => qat (fun _ => ⟨_, rfl⟩) fun _ => qf9 l (i + 1) fun k hk => h k (by simp [hk])
theorem qga : ∀ (d n : Nat) (x : M), Ok d x → d + 10000 ≤ n → ∃ b, Jv n x = some b
 | d + 1, 0, x, h, hn => by omega
 | d + 1, n + 1, x, h, hn => by
  obtain ⟨h1, h2, h3⟩ := h
  obtain ⟨k, hk, _⟩ := qmr (n := n) (by omega) h1
  rw [Jv]
  rw [hk, qx0]
  refine qat (fun _ => ⟨_, rfl⟩) fun _ => qat (fun _ => ⟨_, rfl⟩) fun _ => ?_
  rw [qad (by simp only [qa1]; omega)]
  obtain ⟨r, hr⟩ := qf9 (f := Jv n) x.Aa 0 fun c hc => qga d n c (h3 c hc) (by omega)
  rw [hr, qx0]
  cases r <;> exact ⟨_, rfl⟩
theorem qdz {f : M → Option Bool} : ∀ (l : List M) (i : Nat), (JR f l i).bind (fun s0 => s0.el some fun t0 => some true) = some true → ∀ k ∈ l, f k = some true
 | [], i, _, k, hk => by cases hk
 | a :: l, i, h, k, hk => by
  rw [JR] at h
  cases ha : f a with
  | none => rw [ha] at h; cases h
  | some b =>
   rw [ha, qx0] at h
   cases b with
   | false => simp [Fl.el] at h
   | true =>
    rw [qx1 (by simp)] at h
    rcases List.mem_cons.1 hk with rfl | hk
    ·exact ha
    ·exact qdz l (i + 1) h k hk
theorem qcv {n : Nat} {x : M} (h : Jv n x = some true) : ∃ m k, n = m + 1 ∧ J0 m x = some k ∧ k ≠ -2 ∧ (0 ≤ k → (x.Aa.length : Int) = k) ∧ ∀ c ∈ x.Aa, Jv m c = some true := by
 cases n with
 | zero => rw [Jv] at h; cases h
 | succ m =>
  rw [Jv] at h
  obtain ⟨k, hk, h⟩ := bnd h
  refine ⟨m, k, rfl, hk, ?_⟩
  cases q : decide (k = -2) with
  | true => rw [q, qx2 rfl] at h; cases h
  | false =>
   rw [q, qx1 (by simp)] at h
   refine ⟨of_decide_eq_false q, ?_⟩
   cases q2 : (decide (k ≥ 0) && decide ((x.Aa.length : Int) ≠ k)) with
   | true => rw [q2, qx2 rfl] at h; cases h
   | false =>
    rw [q2, qx1 (by simp)] at h
    obtain ⟨_, h⟩ := qax h
    refine ⟨fun h0 => ?_, qdz x.Aa 0 h⟩
    simp only [Bool.and_eq_false_iff, decide_eq_false_iff_not] at q2
    omega
theorem qjm {f : M → Option Bool} : ∀ (l : List M) (i : Nat), (∀ k ∈ l, ∃ b, f k = some b) → ∃ r, Jax f l i = some r
 | [], i, _ => ⟨_, rfl⟩
 | k :: l, i, h => by
  rw [Jax]
  exact qay (h k (by simp)) fun _ _ => qat (fun _ => ⟨_, rfl⟩) fun _ => qjm l (i + 1) fun k hk => h k (by simp [hk])
theorem qoo {f : M → Option Bool} {n : Nat} {x : M} (hl : x.Aa.length ≤ 700) (h : ∀ k ∈ x.Aa, ∃ b, f k = some b) : ∃ b, Ja6 f n x = some b := by
 unfold Ja6
 refine qat (fun _ => ⟨_, rfl⟩) fun _ => ?_
 rw [qad (by simp only [qa1]; omega)]
 obtain ⟨r, hr⟩ := qjm (f := f) x.Aa 0 h
 rw [hr, qx0]
 cases r <;> exact ⟨_, rfl⟩
theorem qe9 {f : M → Option Bool} : ∀ (l : List M) (i : Nat), (Jax f l i).bind (fun s0 => s0.el some fun t0 => some true) = some true → ∀ k ∈ l, f k = some true
 | [], i, _, k, hk => by cases hk
 | a :: l, i, h, k, hk => by
  rw [Jax] at h
  cases ha : f a with
  | none => rw [ha] at h; cases h
  | some b =>
   rw [ha, qx0] at h
   cases b with
   | false => simp [Fl.el] at h
   | true =>
    rw [qx1 (by simp)] at h
    rcases List.mem_cons.1 hk with rfl | hk
    ·exact ha
    ·exact qe9 l (i + 1) h k hk
theorem qde {f : M → Option Bool} {n : Nat} {x : M} (h : Ja6 f n x = some true) : x.Ab = 12 ∧ ∀ k ∈ x.Aa, f k = some true := by
 unfold Ja6 at h
 cases q : (decide (x.Ab ≠ 12) || decide (x.Ac ≠ ([] : Str))) with
 | true => rw [q, qx2 rfl] at h; cases h
 | false =>
  rw [q, qx1 (by simp)] at h
  obtain ⟨_, h⟩ := qax h
  simp only [Bool.or_eq_false_iff, decide_eq_false_iff_not, Classical.not_not] at q
  exact ⟨q.1, qe9 x.Aa 0 h⟩
theorem qio : ∀ (d n : Nat) (x : M), Ok d x → d + 10000 ≤ n → ∃ b, JB n x = some b
 | d + 1, 0, x, h, hn => by omega
 | d + 1, n + 1, x, h, hn => by
  obtain ⟨h1, h2, h3⟩ := h
  have ex : ∀ c ∈ x.Aa, ∃ b, Jv n c = some b := fun c hc => qga d n c (h3 c hc) (by omega)
  have stt : ∀ c ∈ x.Aa, ∃ b, JB n c = some b := fun c hc => qio d n c (h3 c hc) (by omega)
  have bl : ∀ c ∈ x.Aa, ∃ b, Ja6 (JB n) n c = some b := fun c hc => by
   cases d with
   | zero => exact (h3 c hc).elim
   | succ e =>
    have hk := h3 c hc
    exact qoo hk.2.1 fun k hk2 => qio e n k (hk.2.2 k hk2) (by omega)
  have mem : ∀ {i : Int} {c : M}, ix x.Aa i = some c → c ∈ x.Aa := fun {i c} h => by
   unfold ix at h
   split at h
   ·exact List.mem_of_getElem? h
   ·cases h
  have one : ∃ b, (if decide ((x.Aa.length : Int) = 1) then (ix x.Aa 0).bind fun x121 => (Jv n x121).bind fun x123 => some x123 else some false).bind (fun x124 => some x124) = some b :=
   qay (qat (fun h => qay (qc4 (by omega) (by have := of_decide_eq_true h; omega)) fun c hc => qay (ex c (mem hc)) fun _ _ => ⟨_, rfl⟩) fun _ => ⟨_, rfl⟩) fun _ _ => ⟨_, rfl⟩
  rw [JB]
  refine qat (fun _ => ?_) fun _ => ?_
  ·refine qay (qat (fun _ => ⟨_, rfl⟩) fun h => ?_) fun a ha => ?_
   ·simp only [Bool.or_eq_false_iff, decide_eq_false_iff_not] at h
    exact qay (qc4 (by omega) (by omega)) fun c hc => qay (ex c (mem hc)) fun _ _ => ⟨_, rfl⟩
   ·have hlen : a = false → 2 ≤ x.Aa.length ∧ x.Aa.length ≤ 3 := fun e => by
     subst e
     cases q : ((decide (x.Ac ≠ ([] : Str)) || decide ((x.Aa.length : Int) < 2)) || decide ((x.Aa.length : Int) > 3)) with
     | true => rw [q, qx2 rfl] at ha; cases ha
     | false => simp only [Bool.or_eq_false_iff, decide_eq_false_iff_not] at q; omega
    refine qay (qat (fun _ => ⟨_, rfl⟩) fun h => qay (qc4 (by omega) (by have := hlen h; omega)) fun c hc => qay (bl c (mem hc)) fun _ _ => ⟨_, rfl⟩) fun b hb => ?_
    refine qat (fun _ => ⟨_, rfl⟩) fun hbf => ?_
    have ha' : a = false := by
     cases a with
     | false => rfl
     | true => rw [qx2 rfl] at hb; cases hb; cases hbf
    have hl := hlen ha'
    refine qay (qat (fun _ => ⟨_, rfl⟩) fun h => qay (qc4 (by omega) (by have := of_decide_eq_false h; omega)) fun c hc => qay (bl c (mem hc)) fun _ _ => ⟨_, rfl⟩) fun e he => ?_
    refine qat (fun _ => ⟨_, rfl⟩) fun hef => ?_
    have h3' : x.Aa.length = 3 := by
     cases q : decide ((x.Aa.length : Int) = 2) with
     | true => rw [q, qx2 rfl] at he; cases he; cases hef
     | false => have := of_decide_eq_false q; omega
    refine qay (qc4 (by omega) (by omega)) fun c hc => ?_
    refine qay (qat (fun _ => ?_) fun _ => ⟨_, rfl⟩) fun _ _ => ⟨_, rfl⟩
    rw [hc, qx0]
    exact qay (stt c (mem hc)) fun _ _ => ⟨_, rfl⟩
  ·refine qat (fun _ => qay (qep h1) fun _ _ => ⟨_, rfl⟩) fun _ => ?_
   refine qat (fun _ => ⟨_, rfl⟩) fun _ => ?_
   refine qat (fun _ => ⟨_, rfl⟩) fun _ => ?_
   refine qat (fun _ => qay (qkh (by omega) _) fun _ _ => qat (fun _ => ⟨_, rfl⟩) fun _ => one) fun _ => ?_
   refine qat (fun _ => qat (fun _ => ⟨_, rfl⟩) fun _ => one) fun _ => ?_
   refine qat (fun _ => qay (qep h1) fun _ _ => qat (fun _ => ⟨_, rfl⟩) fun _ => one) fun _ => ?_
   refine qat (fun _ => qat (fun _ => ⟨_, rfl⟩) fun _ => one) fun _ => ?_
   refine qat (fun _ => qat (fun _ => ⟨_, rfl⟩) fun _ => one) fun _ => ?_
   refine qat (fun _ => qat (fun _ => ⟨_, rfl⟩) fun _ => one) fun _ => ?_
   exact ⟨_, rfl⟩
theorem qnt {f : M → Int → Int → Option (Bool × Int)} {d : Int} (hd : -1000 ≤ d ∧ d ≤ 1000) : ∀ (l : List M) (i : Nat) (y : Int), 0 ≤ y → y ≤ 1000 → (∀ k ∈ l, ∀ z, 0 ≤ z → z ≤ 1000 → ∃ b m, f k z (d - 1) = some (b, m) ∧ (b = true → 0 ≤ m) ∧ m ≤ 1000) →
  ∃ r, JaW d f l i y = some r ∧ (∀ z, r = Fl.go z → 0 ≤ z ∧ z ≤ 1000) ∧ ∀ z, r = Fl.ret z → z.1 = false ∧ z.2 ≤ 1000
 | [], i, y, h0, h1, _ => ⟨_, rfl, fun z e => by cases e; exact ⟨h0, h1⟩, fun z e => by cases e⟩
 | k :: l, i, y, h0, h1, h => by
  obtain ⟨b, m, hk, hb, hm⟩ := h k (by simp) y h0 h1
  rw [JaW, qad (by constructor <;> omega), hk, qx0]
  cases b with
  | false => exact ⟨_, qx2 rfl, fun z e => (by cases e), fun z e => by cases e; exact ⟨rfl, hm⟩⟩
  | true => rw [qx1 (by simp)]; exact qnt hd l (i + 1) m (hb rfl) hm fun k hk => h k (by simp [hk])
theorem qnu : ∀ (d n : Nat) (x : M) (z e : Int), Ok d x → d + 1 ≤ n → 0 ≤ z → z ≤ 1000 → 0 ≤ e → e ≤ 1000 → ∃ b m, JaR n x z e = some (b, m) ∧ (b = true → 0 ≤ m) ∧ m ≤ 1000
 | d + 1, 0, x, z, e, h, hn, _, _, _, _ => by omega
 | d + 1, n + 1, x, z, e, h, hn, h0, h1, e0, e1 => by
  obtain ⟨g1, g2, g3⟩ := h
  rw [JaR, qad (by constructor <;> omega)]
  cases q : (decide (z - 1 < 0) || decide (e < 1)) with
  | true => exact ⟨false, z - 1, qx2 rfl, fun h => (by cases h), by omega⟩
  | false =>
   simp only [Bool.or_eq_false_iff, decide_eq_false_iff_not] at q
   rw [qx1 (by simp), qad (by simp only [qa1]; omega)]
   obtain ⟨r, hr, r1, r2⟩ := qnt (f := JaR n) (d := e) (by omega) x.Aa 0 (z - 1) (by omega) (by omega) fun k hk y y0 y1 => qnu d n k y (e - 1) (g3 k hk) (by omega) y0 y1 (by omega) (by omega)
   rw [hr, qx0]
   cases r with
   | ret w => exact ⟨w.1, w.2, rfl, (fun h => by rw [(r2 w rfl).1] at h; cases h), (r2 w rfl).2⟩
   | go w => exact ⟨true, w, rfl, fun _ => (r1 w rfl).1, (r1 w rfl).2⟩
theorem qnv {n : Nat} : ∀ (l : List M) (i : Nat), (∀ k ∈ l, ∃ b, JB n k = some b) → ∃ r, JaX n l i = some r
 | [], i, _ => ⟨_, rfl⟩
 | k :: l, i, h => by
  rw [JaX]
  exact qay (h k (by simp)) fun _ _ => qat (fun _ => ⟨_, rfl⟩) fun _ => qnv l (i + 1) fun k hk => h k (by simp [hk])
theorem qhd {n : Nat} : ∀ (l : List M) (i : Nat), (JaX n l i).bind (fun s0 => s0.el some fun t0 => some true) = some true → ∀ k ∈ l, JB n k = some true
 | [], i, _, k, hk => by cases hk
 | a :: l, i, h, k, hk => by
  rw [JaX] at h
  cases ha : JB n a with
  | none => rw [ha] at h; cases h
  | some b =>
   rw [ha, qx0] at h
   cases b with
   | false => simp [Fl.el] at h
   | true =>
    rw [qx1 (by simp)] at h
    rcases List.mem_cons.1 hk with rfl | hk
    ·exact ha
    ·exact qhd l (i + 1) h k hk
theorem qki {d n : Nat} {x : M} (h : Ok d x) (hn : d + 10000 ≤ n) : ∃ b, JaC n x = some b := by
 cases d with
 | zero => exact h.elim
 | succ d =>
  obtain ⟨b, m, hs, _, _⟩ := qnu (d + 1) n x 512 32 h (by omega) (by omega) (by omega) (by omega) (by omega)
  unfold JaC
  refine qat (fun _ => ⟨_, rfl⟩) fun _ => ?_
  rw [hs, qx0]
  refine qat (fun _ => ⟨_, rfl⟩) fun _ => ?_
  have := h.2.1
  rw [qad (by simp only [qa1]; omega)]
  obtain ⟨r, hr⟩ := qnv (n := n) x.Aa 0 fun k hk => qio d n k (h.2.2 k hk) (by omega)
  rw [hr, qx0]
  cases r <;> exact ⟨_, rfl⟩
theorem qgb {n : Nat} {x : M} (h : JaC n x = some true) : ∀ k ∈ x.Aa, JB n k = some true := by
 unfold JaC at h
 split at h
 ·cases h
 ·obtain ⟨s, hs, h⟩ := bnd h
  split at h
  ·cases h
  ·obtain ⟨_, h⟩ := qax h
   exact qhd x.Aa 0 h
abbrev Ck := Jn
abbrev Bd := Jl
theorem qlj {env : List Bd} {s : Str} (hl : env.length ≤ 100000) : ∀ (n : Nat) (i : Int), -1 ≤ i → i < (env.length : Int) → i + 1 < n → ∃ r, Jar env s n i = some r
 | 0, i, _, _, h => by omega
 | n + 1, i, h0, h1, h => by
  rw [Jar]
  refine qat (fun hi => ?_) fun _ => ⟨_, rfl⟩
  have hi := of_decide_eq_true hi
  obtain ⟨b, hb⟩ := qc4 (s := env) (i := i) (by omega) (by omega)
  rw [hb, qx0]
  refine qat (fun _ => ⟨_, rfl⟩) fun _ => ?_
  rw [qad (by constructor <;> omega)]
  exact qlj hl n (i - 1) (by omega) (by omega) (by omega)
theorem qf0 {env : List Bd} {s : Str} {n : Nat} (hl : env.length ≤ 100000) (hn : env.length + 1 ≤ n) : ∃ t, Jbe n s env = some t := by
 unfold Jbe
 obtain ⟨r, hr⟩ := qlj (s := s) hl n ((env.length : Int) - 1) (by omega) (by omega) (by omega)
 rw [qad (by constructor <;> omega), hr, qx0]
 cases r with
 | ret z => exact ⟨_, rfl⟩
 | go z => rw [el_go]; exact qay ⟨_, rfl⟩ fun _ _ => qat (fun _ => ⟨_, rfl⟩) fun _ => ⟨_, rfl⟩
theorem qsv (t : Int) : ∀ (l : List Int) (i : Nat), ∃ r, JaG t l i = some r
 | [], i => ⟨_, rfl⟩
 | x :: l, i => by
  rw [JaG]
  exact qat (fun _ => ⟨_, rfl⟩) fun _ => qsv t l (i + 1)
theorem qsw (t : Int) {l : List Int} (h : l.length ≤ 1000) : ∃ b, JO t l = some b := by
 obtain ⟨r, hr⟩ := qsv t l 0
 unfold JO
 rw [qad (by simp only [qa1]; omega), hr, qx0]
 cases r <;> exact ⟨_, rfl⟩
theorem qip {x : M} {l : List Int} (h : l.length ≤ 1000) (h16 : x.Ab = 16 → l.length = 2) : ∃ t, Jag x l = some t := by
 have one : ∀ (t a : Int), ∃ r, (JO t l).bind (fun x => if x = true then some a else some 0) = some r := fun t a => qay (qsw t h) fun _ _ => qat (fun _ => ⟨_, rfl⟩) fun _ => ⟨_, rfl⟩
 unfold Jag
 refine qat (fun _ => qay (qsw 1 h) fun _ _ => qat (fun _ => ⟨_, rfl⟩) fun _ => one 2 2) fun _ => ?_
 refine qat (fun _ => one 2 2) fun _ => ?_
 refine qat (fun _ => one 2 2) fun _ => ?_
 refine qat (fun _ => one 3 3) fun _ => ?_
 refine qat (fun _ => one 3 3) fun _ => ?_
 refine qat (fun _ => one 3 3) fun _ => ?_
 refine qat (fun hk => ?_) fun _ => ⟨_, rfl⟩
 have h2 := h16 (of_decide_eq_true hk)
 have cmp : ∃ r, (ix l 0).bind (fun x36 => (ix l 1).bind fun x39 => if decide (x36 = x39) = true then some (3 : Int) else some 0) = some r := qay (qc4 (by omega) (by omega)) fun _ _ => qay (qc4 (by omega) (by omega)) fun _ _ => qat (fun _ => ⟨_, rfl⟩) fun _ => ⟨_, rfl⟩
 refine qat (fun _ => cmp) fun _ => ?_
 refine qat (fun _ => cmp) fun _ => ?_
 refine qat (fun _ => one 2 3) fun _ => ?_
 refine qat (fun _ => one 2 3) fun _ => ?_
 exact one 1 3
theorem qcn (c : Ck) (x : M) (e : Err) : ∃ r, JM c x e = some r := by
 unfold JM
 exact qat (fun _ => ⟨_, rfl⟩) fun _ => ⟨_, rfl⟩
theorem qiq (s : Str) : ∃ r, JaY s = some r := by
 unfold JaY
 repeat (refine qat (fun _ => ⟨_, rfl⟩) fun _ => ?_)
 exact ⟨_, rfl⟩
theorem qt6 (c : Ck) (x : M) (l : List Int) : ∃ r, J6 c x l = some r := by
 unfold J6
 refine qay (qiq _) fun f _ => qat (fun _ => qay (qcn _ _ _) fun _ _ => ⟨_, rfl⟩) fun _ => ?_
 refine qay (qat (fun _ => ⟨_, rfl⟩) fun h => ?_) fun _ _ => qat (fun _ => qay (qcn _ _ _) fun _ _ => ⟨_, rfl⟩) fun _ => ⟨_, rfl⟩
 have h := of_decide_eq_false h
 exact qay (qc4 (by omega) (by omega)) fun _ _ => ⟨_, rfl⟩
theorem qnw {f : Ck → M → List Bd → Option (Int × Ck)} {env : List Bd} : ∀ (l : List M) (i : Nat) (y : List Int) (a : Int) (e : Err), (∀ k ∈ l, ∀ c, ∃ r, f c k env = some r) → y.length + l.length ≤ 1000 →
  ∃ r, JP f env l i y a e = some r ∧ ∀ z, r = Fl.go z → z.1.length = y.length + l.length
 | [], i, y, a, e, _, _ => ⟨_, rfl, fun z h => by cases h; rfl⟩
 | k :: l, i, y, a, e, h, hy => by
  simp only [List.length_cons] at hy
  obtain ⟨r, hr⟩ := h k (by simp) ⟨a, e⟩
  rw [JP, hr, qx0, qad (by simp only [lim, List.length_cons, List.length_nil]; omega)]
  cases q : r.2.err.isSome with
  | true => exact ⟨_, qx2 rfl, fun z h => by cases h⟩
  | false =>
   rw [qx1 (by simp)]
   obtain ⟨r', hr', hl⟩ := qnw (f := f) (env := env) l (i + 1) (y ++ [r.1]) r.2.line r.2.err (fun k hk => h k (by simp [hk])) (by simp only [List.length_append, List.length_cons, List.length_nil]; omega)
   exact ⟨r', hr', fun z hz => by rw [hl z hz]; simp only [List.length_append, List.length_cons, List.length_nil]; omega⟩
theorem operands_16 {m : Nat} {x : M} {k : Int} (hk : x.Ab = 16) (h : J0 m x = some k) : k = 2 ∨ k = -2 := by
 unfold J0 at h
 rw [hk] at h
 rw [qx1 (by decide), qx1 (by decide), qx1 (by decide), qx1 (by decide), qx1 (by decide), qx1 (by decide), qx2 (by decide)] at h
 obtain ⟨a, _, h⟩ := bnd h
 obtain ⟨b, _, h⟩ := bnd h
 split at h <;> cases h <;> simp
theorem qnx {env : List Bd} (he : env.length ≤ 100000) : ∀ (d n m : Nat) (x : M) (c : Ck), Ok d x → Jv m x = some true → d + 200000 ≤ n → ∃ r, JL n c x env = some r
 | d + 1, 0, m, x, c, _, _, hn => by omega
 | d + 1, n + 1, m, x, c, h, hv, hn => by
  obtain ⟨h1, h2, h3⟩ := h
  obtain ⟨m', k, rfl, hk, k2, k3, k4⟩ := qcv hv
  obtain ⟨r, hr, hl⟩ := qnw (f := JL n) (env := env) x.Aa 0 [] c.line c.err (fun q hq c' => qnx he d n m' q c' (h3 q hq) (k4 q hq) (by omega)) (by simp <;> omega)
  rw [JL, qad (by simp only [qa1]; omega), hr, qx0]
  cases r with
  | ret z => exact ⟨_, rfl⟩
  | go z =>
   have hz := hl z rfl
   simp only [List.length_nil, Nat.zero_add] at hz
   rw [el_go]
   refine qat (fun _ => ⟨_, rfl⟩) fun _ => ?_
   refine qat (fun _ => ⟨_, rfl⟩) fun _ => ?_
   refine qat (fun _ => ⟨_, rfl⟩) fun _ => ?_
   refine qat (fun _ => qay (qf0 he (by omega)) fun _ _ => qat (fun _ => qay (qcn _ _ _) fun _ _ => ⟨_, rfl⟩) fun _ => ⟨_, rfl⟩) fun _ => ?_
   refine qat (fun _ => qay (qt6 _ _ _) fun _ _ => ⟨_, rfl⟩) fun _ => ?_
   refine qay (qip (by omega) fun h16 => ?_) fun _ _ => qat (fun _ => qay (qcn _ _ _) fun _ _ => ⟨_, rfl⟩) fun _ => ⟨_, rfl⟩
   rcases operands_16 h16 hk with rfl | rfl
   ·have := k3 (by omega); omega
   ·exact absurd rfl k2
theorem qr0 (x : M) : ∃ t, JbW x = some t := by
 unfold JbW
 repeat (refine qat (fun _ => ⟨_, rfl⟩) fun _ => ?_)
 exact ⟨_, rfl⟩
theorem qms {env : List Bd} {s : Str} {n : Nat} (hl : env.length ≤ 100000) (hn : env.length + 1 ≤ n) : ∃ t, Ja8 n s env = some t := by
 unfold Ja8
 exact qay (qf0 hl hn) fun _ _ => ⟨_, rfl⟩
theorem qd7 {env : List Bd} {s : Str} {t : Int} (hl : env.length ≤ 100000) : Jap env s t = some (env ++ [⟨s, t⟩]) := by
 unfold Jap
 rw [qad (by constructor <;> omega), qad (by simp only [lim]; omega), qad (by simp only [lim, List.length_nil]; omega), qad (by simp only [lim, List.length_append, List.length_cons, List.length_nil]; omega)]; rfl
theorem qcj {n : Nat} {x : M} (h : JB n x = some true) : ∃ m, n = m + 1 ∧ (∀ c, x.Aa[0]? = some c → Jv m c = some true) ∧
  (x.Ab = 2 → 2 ≤ x.Aa.length ∧ ∀ c ∈ x.Aa.drop 1, (c.Ab = 12 ∧ ∀ k ∈ c.Aa, JB m k = some true) ∨ (c.Ab ≠ 12 ∧ JB m c = some true)) := by
 cases n with
 | zero => rw [JB] at h; cases h
 | succ m =>
  have one : (if decide ((x.Aa.length : Int) = 1) then (ix x.Aa 0).bind fun x121 => (Jv m x121).bind fun x123 => some x123 else some false).bind (fun x124 => some x124) = some true → ∀ c, x.Aa[0]? = some c → Jv m c = some true := fun h c hc => by
   obtain ⟨b, hb, h⟩ := bnd h
   cases h
   split at hb
   ·have hx : ix x.Aa 0 = some c := by unfold ix; rw [qx2 (by omega)]; exact hc
    rw [hx, qx0] at hb
    obtain ⟨b2, hb2, hb⟩ := bnd hb
    cases hb; exact hb2
   ·cases hb
  have nil : (x.Aa.length : Int) = 0 → ∀ c, x.Aa[0]? = some c → Jv m c = some true := fun h c hc => by
   rw [List.getElem?_eq_none (by omega)] at hc; cases hc
  refine ⟨m, rfl, ?_⟩
  rw [JB] at h
  by_cases k2 : x.Ab = 2
  ·rw [qx2 (by simpa using k2)] at h
   obtain ⟨a, ha, g⟩ := bnd h
   obtain ⟨b, hb, gg⟩ := bnd g
   cases b with
   | true => rw [qx2 rfl] at gg; cases gg
   | false =>
    rw [qx1 (by simp)] at gg
    cases a with
    | true => rw [qx2 rfl] at hb; cases hb
    | false =>
     cases q : ((decide (x.Ac ≠ ([] : Str)) || decide ((x.Aa.length : Int) < 2)) || decide ((x.Aa.length : Int) > 3)) with
     | true => rw [q, qx2 rfl] at ha; cases ha
     | false =>
      rw [q, qx1 (by simp)] at ha
      simp only [Bool.or_eq_false_iff, decide_eq_false_iff_not] at q
      rw [qx1 (by simp)] at hb
      obtain ⟨c0, hc0, ha⟩ := bnd ha
      obtain ⟨e0, he0, ha⟩ := bnd ha
      obtain ⟨c1, hc1, hb⟩ := bnd hb
      obtain ⟨e1, he1, hb⟩ := bnd hb
      have ha : e0 = true := by simpa using ha
      have hb : e1 = true := by simpa using hb
      subst ha; subst hb
      have g0 : x.Aa[0]? = some c0 := by unfold ix at hc0; rw [qx2 (by omega)] at hc0; exact hc0
      have g1 : x.Aa[1]? = some c1 := by unfold ix at hc1; rw [qx2 (by omega)] at hc1; exact hc1
      obtain ⟨i1, i2⟩ := qde he1
      refine ⟨fun c hc => by rw [g0] at hc; cases hc; exact he0, fun _ => ⟨by omega, fun c hc => ?_⟩⟩
      obtain ⟨i, hi⟩ := List.getElem?_of_mem hc
      rw [List.getElem?_drop] at hi
      have hil : 1 + i < x.Aa.length := (List.getElem?_eq_some_iff.1 hi).1
      by_cases z : i = 0
      ·subst z
       rw [g1] at hi; cases hi
       exact .inl ⟨i1, i2⟩
      ·have : i = 1 := by omega
       subst this
       have hx2 : ix x.Aa 2 = some c := by unfold ix; rw [qx2 (by omega)]; exact hi
       rw [qx1 (by simp <;> omega), hx2, qx0] at gg
       obtain ⟨e, he, g3⟩ := bnd gg
       obtain ⟨e', he', he2⟩ := bnd he
       cases he2
       cases e with
       | true => have := qde he'; exact .inl ⟨this.1, this.2⟩
       | false =>
        rw [qx1 (by simp), qx0] at g3
        obtain ⟨e2, he2, g4⟩ := bnd g3
        cases g4
        split at he2
        ·rename_i hk
         have hk := of_decide_eq_true hk
         rw [qx0] at he2
         obtain ⟨e3, he3, g5⟩ := bnd he2
         cases g5
         exact .inr ⟨by omega, he3⟩
        ·cases he2
  ·rw [qx1 (by simpa using k2)] at h
   refine ⟨?_, fun h2 => absurd h2 k2⟩
   by_cases q6 : x.Ab = 6
   ·rw [qx2 (by simpa using q6)] at h
    obtain ⟨_, _, g⟩ := bnd h
    exact nil (of_decide_eq_true (Bool.and_eq_true_iff.1 (Option.some.inj g)).2)
   rw [qx1 (by simpa using q6)] at h
   by_cases q10 : x.Ab = 10
   ·rw [qx2 (by simpa using q10)] at h
    exact nil (of_decide_eq_true (Bool.and_eq_true_iff.1 (Option.some.inj h)).2)
   rw [qx1 (by simpa using q10)] at h
   by_cases q11 : x.Ab = 11
   ·rw [qx2 (by simpa using q11)] at h
    exact nil (of_decide_eq_true (Bool.and_eq_true_iff.1 (Option.some.inj h)).2)
   rw [qx1 (by simpa using q11)] at h
   have fin : ∀ {b : Bool} {p : Option Bool}, (if b = true then some false else p) = some true → p = some true := fun {b p} h => by
    cases b with
    | true => rw [qx2 rfl] at h; cases h
    | false => rw [qx1 (by simp)] at h; exact h
   by_cases q3 : x.Ab = 3
   ·rw [qx2 (by simpa using q3)] at h
    obtain ⟨_, _, g⟩ := bnd h
    exact one (fin g)
   rw [qx1 (by simpa using q3)] at h
   by_cases q4 : x.Ab = 4
   ·rw [qx2 (by simpa using q4)] at h; exact one (fin h)
   rw [qx1 (by simpa using q4)] at h
   by_cases q5 : x.Ab = 5
   ·rw [qx2 (by simpa using q5)] at h
    obtain ⟨_, _, g⟩ := bnd h
    exact one (fin g)
   rw [qx1 (by simpa using q5)] at h
   by_cases q7 : x.Ab = 7
   ·rw [qx2 (by simpa using q7)] at h; exact one (fin h)
   rw [qx1 (by simpa using q7)] at h
   by_cases q8 : x.Ab = 8
   ·rw [qx2 (by simpa using q8)] at h; exact one (fin h)
   rw [qx1 (by simpa using q8)] at h
   by_cases q9 : x.Ab = 9
   ·rw [qx2 (by simpa using q9)] at h; exact one (fin h)
   rw [qx1 (by simpa using q9)] at h
   cases h
def Gd (d : Nat) (x : M) : Prop := Ok d x ∧ ∃ m, JB m x = some true
theorem qeq {d : Nat} {k : M} (h : Ok d k) (hv : (k.Ab = 12 ∧ ∀ q ∈ k.Aa, ∃ m, JB m q = some true) ∨ (k.Ab ≠ 12 ∧ ∃ m, JB m k = some true)) :
  ∃ l, JaN k = some l ∧ l.length ≤ 700 ∧ ∀ x ∈ l, Gd d x := by
 unfold JaN
 rcases hv with ⟨h1, h2⟩ | ⟨h1, h2⟩
 ·refine ⟨_, qx2 (by simpa using h1), ?_, ?_⟩
  ·cases d with
   | zero => exact h.elim
   | succ d => exact h.2.1
  ·cases d with
   | zero => exact h.elim
   | succ d => exact fun x hx => ⟨(h.2.2 x hx).succ, h2 x hx⟩
 ·refine ⟨_, qx1 (by simpa using h1), by simp, fun x hx => ?_⟩
  simp at hx; subst hx
  exact ⟨h, h2⟩
theorem qny {f : Ck → List M → List Bd → Option Ck} {env : List Bd} : ∀ (l : List M) (i : Nat) (a : Int) (e : Err), (∀ k ∈ l, ∃ q, JaN k = some q ∧ ∀ c, ∃ r, f c q env = some r) → ∃ r, JA f env l i a e = some r
 | [], i, a, e, _ => ⟨_, rfl⟩
 | k :: l, i, a, e, h => by
  obtain ⟨q, hq, hr⟩ := h k (by simp)
  rw [JA, hq, qx0]
  exact qay (hr _) fun _ _ => qny l (i + 1) _ _ fun k hk => h k (by simp [hk])
set_option maxRecDepth 100000 in
theorem qnz {n d : Nat} {f : Ck → List M → List Bd → Option Ck} (hn : d + 200000 ≤ n) (hf : ∀ (l : List M) (env : List Bd) (c : Ck), (∀ x ∈ l, Gd d x) → l.length ≤ 700 → env.length + 701 * (d + 1) ≤ 90000 → ∃ r, f c l env = some r) :
  ∀ (l : List M) (i : Nat) (env : List Bd) (a : Int) (e : Err), (∀ x ∈ l, Gd (d + 1) x) → env.length + l.length + 701 * (d + 1) ≤ 90000 → ∃ r, Js n f l i env a e = some r
 | [], i, env, a, e, _, _ => ⟨_, rfl⟩
 | x :: l, i, env, a, e, h, hl => by
  simp only [List.length_cons] at hl
  have ih : ∀ (env' : List Bd) (a' : Int) (e' : Err), env'.length ≤ env.length + 1 → ∃ r, Js n f l (i + 1) env' a' e' = some r := fun env' a' e' he => qnz hn hf l (i + 1) env' a' e' (fun y hy => h y (by simp [hy])) (by omega)
  obtain ⟨⟨h1, h2, h3⟩, m0, hm⟩ := h x (by simp)
  obtain ⟨m, rfl, k0, k2⟩ := qcj hm
  rw [Js]
  refine qat (fun _ => ih _ _ _ (by omega)) fun hk => ?_
  have hk := of_decide_eq_false hk
  have hg0 : x.Aa[0]? = some (x.Aa[0]'(by omega)) := List.getElem?_eq_getElem (by omega)
  have hi0 : ix x.Aa 0 = some (x.Aa[0]'(by omega)) := by unfold ix; rw [qx2 (by omega)]; exact hg0
  rw [hi0, qx0]
  have tl : ∀ c1 : Ck, ∀ t : Int, ∃ r, (if decide (x.Ab = 3) then
    (Ja8 n x.Ac env).bind fun x61 =>
    if x61 then
    (JM c1 x (some 4)).bind fun x65 =>
    (Jap env x.Ac t).bind fun x70 =>
    if x65.err.isSome then
    some (Fl.ret x65)
    else
    Js n f l (i + 1) x70 x65.line x65.err
    else
    (Jap env x.Ac t).bind fun x70 =>
    if c1.err.isSome then
    some (Fl.ret c1)
    else
    Js n f l (i + 1) x70 c1.line c1.err
    else
    if decide (x.Ab = 2) then
    (chk (0 ≤ (1 : Int) ∧ (1 : Int) ≤ (x.Aa.length : Int) ∧ (x.Aa.length : Int) ≤ (x.Aa.length : Int))).bind fun _ =>
    (chk ((subL x.Aa (1 : Int) (x.Aa.length : Int)).length ≤ qa1)).bind fun _ =>
    (JA f env (subL x.Aa (1 : Int) (x.Aa.length : Int)) 0 c1.line c1.err).bind fun t3 =>
    if t3.2.isSome then
    some (Fl.ret (⟨t3.1, t3.2⟩ : Ck))
    else
    Js n f l (i + 1) env t3.1 t3.2
    else
    if c1.err.isSome then
    some (Fl.ret c1)
    else
    Js n f l (i + 1) env c1.line c1.err : Option (Fl Ck (List Bd × Int × Err))) = some r := fun c1 t => by
   refine qat (fun _ => ?_) fun _ => ?_
   ·refine qay (qms (by omega) (by omega)) fun _ _ => qat (fun _ => ?_) fun _ => ?_
    ·refine qay (qcn _ _ _) fun _ _ => ?_
     rw [qd7 (by omega), qx0]
     exact qat (fun _ => ⟨_, rfl⟩) fun _ => ih _ _ _ (by simp)
    ·rw [qd7 (by omega), qx0]
     exact qat (fun _ => ⟨_, rfl⟩) fun _ => ih _ _ _ (by simp)
   ·refine qat (fun hk2 => ?_) fun _ => qat (fun _ => ⟨_, rfl⟩) fun _ => ih _ _ _ (by omega)
    obtain ⟨g1, g2⟩ := k2 (of_decide_eq_true hk2)
    have hsub : subL x.Aa (1 : Int) (x.Aa.length : Int) = x.Aa.drop 1 := by
     unfold subL
     rw [show ((1 : Int)).toNat = 1 from rfl]
     exact List.take_of_length_le (by rw [List.length_drop]; omega)
    rw [qad (by omega), hsub, qad (by rw [List.length_drop]; simp only [qa1]; omega)]
    refine qay (qny _ 0 _ _ fun k hk => ?_) fun _ _ => qat (fun _ => ⟨_, rfl⟩) fun _ => ih _ _ _ (by omega)
    have hkm : k ∈ x.Aa := List.mem_of_mem_drop hk
    obtain ⟨q, hq, ql, qg⟩ := qeq (h3 k hkm) (by
     rcases g2 k hk with ⟨a1, a2⟩ | ⟨a1, a2⟩
     ·exact .inl ⟨a1, fun q hq => ⟨m, a2 q hq⟩⟩
     ·exact .inr ⟨a1, m, a2⟩)
    exact ⟨q, hq, fun c => hf q env c qg ql (by omega)⟩
  refine qay (qnx (env := env) (by omega) d n m _ _ (h3 _ (List.getElem_mem _)) (k0 _ hg0) (by omega)) fun t ht => ?_
  refine qay (qr0 x) fun nd _ => ?_
  refine qat (fun _ => ?_) fun _ => ?_
  ·refine qay (qcn _ _ _) fun c1 _ => ?_
   exact qat (fun _ => ⟨_, rfl⟩) fun _ => tl c1 t.1
  ·exact qat (fun _ => ⟨_, rfl⟩) fun _ => tl t.2 t.1
set_option maxRecDepth 100000 in
theorem qgc : ∀ (d n : Nat) (l : List M) (env : List Bd) (c : Ck), (∀ x ∈ l, Gd d x) → l.length ≤ 700 → env.length + 701 * (d + 1) ≤ 90000 → d + 300000 ≤ n → ∃ r, Jz n c l env = some r
 | d, 0, l, env, c, _, _, _, hn => by omega
 | 0, n + 1, l, env, c, h, hl, he, hn => by
  have : l = [] := by
   cases l with
   | nil => rfl
   | cons x l => exact (h x (by simp)).1.elim
  subst this
  rw [Jz, qad (by simp [qa1])]
  exact ⟨_, rfl⟩
 | d + 1, n + 1, l, env, c, h, hl, he, hn => by
  obtain ⟨r, hr⟩ := qnz (n := n) (d := d) (f := Jz n) (by omega) (fun l' env' c' h1 h2 h3 => qgc d n l' env' c' h1 h2 h3 (by omega)) l 0 env c.line c.err h (by omega)
  rw [Jz, qad (by simp only [qa1]; omega), hr, qx0]
  cases r <;> exact ⟨_, rfl⟩
inductive A2 {α β : Type} (P : α → β → Prop) : List α → List β → Prop
 | nil : A2 P [] []
 | cons {a : α} {b : β} {l : List α} {k : List β} : P a b → A2 P l k → A2 P (a :: l) (b :: k)
def cnt : Nat → M → Nat
 | 0, _ => 0
 | d + 1, x => 1 + (x.Aa.map (cnt d)).sum
def cntL (d : Nat) (l : List M) : Nat := (l.map (cnt d)).sum
theorem cntL_cons (d : Nat) (x : M) (l : List M) : cntL d (x :: l) = cnt d x + cntL d l := by simp [cntL]
theorem cnt_eq (d : Nat) (x : M) : cnt (d + 1) x = 1 + cntL d x.Aa := rfl
theorem qmt {d : Nat} : ∀ {l : List M} {x : M}, x ∈ l → cnt d x ≤ cntL d l
 | a :: l, x, h => by
  rw [cntL_cons]
  rcases List.mem_cons.1 h with rfl | h
  ·omega
  ·have := qmt (d := d) h; omega
theorem qkj : ∀ {d : Nat} {x : M}, Ok d x → cnt (d + 1) x = cnt d x
 | d + 1, x, h => by
  rw [cnt_eq, cnt_eq]
  have : ∀ l : List M, (∀ k ∈ l, Ok d k) → cntL (d + 1) l = cntL d l := by
   intro l
   induction l with
   | nil => intro _; rfl
   | cons a l ih =>
    intro hl
    rw [cntL_cons, cntL_cons, ih fun k hk => hl k (by simp [hk]), qkj (hl a (by simp))]
  rw [this x.Aa h.2.2]
def pre (s : Str) : Bool := ((decide (s = ([109, 101, 116, 104, 111, 100] : Str)) || decide (s = ([104, 111, 115, 116] : Str))) || decide (s = ([112, 97, 116, 104] : Str))) || decide (s = ([113, 117, 101, 114, 121] : Str))
def lk (s : Str) (env : List Bd) : Int := match env.reverse.find? (fun b => decide (b.Name = s)) with
 | some b => b.Ar
 | none => if pre s then 1 else 0
theorem qt7 (s : Str) (env : List Bd) (b : Bd) : lk s (env ++ [b]) = if b.Name = s then b.Ar else lk s env := by
 unfold lk
 rw [List.reverse_append]
 simp only [List.reverse_cons, List.reverse_nil, List.nil_append, List.cons_append, List.find?_cons]
 by_cases h : b.Name = s <;> simp [h]
theorem qhe {env : List Bd} {s : Str} (hl : env.length ≤ 100000) : ∀ (j n : Nat), j ≤ env.length → j + 1 ≤ n →
  Jar env s n ((j : Int) - 1) = some (match (env.take j).reverse.find? (fun b => decide (b.Name = s)) with | some b => Fl.ret b.Ar | none => Fl.go (-1))
 | 0, n + 1, _, _ => by
  rw [Jar, qx1 (by simp)]; simp
 | j + 1, n + 1, h, hn => by
  have hj : j < env.length := by omega
  have e : ((j + 1 : Nat) : Int) - 1 = (j : Int) := by omega
  have hix : ix env (j : Int) = some env[j] := by unfold ix; rw [qx2 (by omega)]; simp [hj]
  have ht : (env.take (j + 1)).reverse = env[j] :: (env.take j).reverse := by
   rw [List.take_succ_eq_append_getElem hj, List.reverse_append]; rfl
  rw [e, Jar, qx2 (by simp), hix, qx0, qx0, ht, List.find?_cons]
  by_cases q : env[j].Name = s
  ·rw [qx2 (by simpa using q)]; simp [q]
  ·rw [qx1 (by simpa using q), qad (by constructor <;> omega), qhe hl j n (by omega) (by omega)]
   simp [q]
 | 0, 0, _, h => by omega
 | j + 1, 0, _, h => by omega
theorem qir {env : List Bd} {s : Str} {n : Nat} (hl : env.length ≤ 100000) (hn : env.length + 1 ≤ n) : Jbe n s env = some (lk s env) := by
 unfold Jbe
 rw [qad (by constructor <;> omega), qhe hl env.length n (by omega) hn, qx0, List.take_length]
 unfold lk
 cases env.reverse.find? (fun b => decide (b.Name = s)) with
 | some b => rfl
 | none =>
  rw [el_go]
  show (if pre s = true then some (1 : Int) else some 0) = some (if pre s = true then 1 else 0)
  split <;> rfl
def isL (c : UInt8) : Bool := (decide ((c.toNat : Int) ≥ 97) && decide ((c.toNat : Int) ≤ 122)) || decide ((c.toNat : Int) = 95)
def isD (c : UInt8) : Bool := decide ((c.toNat : Int) ≥ 48) && decide ((c.toNat : Int) ≤ 57)
def isA (c : UInt8) : Bool := isL c || isD c
theorem ixn {α : Type} {s : List α} {i : Nat} (h : i < s.length) : ix s (i : Int) = some s[i] := by
 unfold ix; rw [qx2 (by omega)]; exact List.getElem?_eq_getElem h
def wdy : Str → Bool
 | [] => false
 | c :: t => isL c && t.all isA
def nmr : Str → Bool
 | [] => false
 | c :: t => isD c && t.all isD && decide (t.length ≤ 8)
def Tk (k : Int) (w : Str) : Prop := (k = 1 → wdy w = true) ∧ (k = 2 → nmr w = true)
def kw (s : Str) : Bool := decide (s ∈ gkw0)
def nm (s : Str) : Bool := wdy s && decide (s.length ≤ 4096) && !kw s
theorem qhf : ∀ (s : Str) (i : Nat), JaI s i = some (if s.all isD = true then Fl.go () else Fl.ret false)
 | [], i => rfl
 | c :: s, i => by
  have e : (if decide ((c.toNat : Int) < 48) = true then some true else some (decide ((c.toNat : Int) > 57))) = some (!isD c) := by
   by_cases q : (c.toNat : Int) < 48
   ·have : isD c = false := by simp only [isD, Bool.and_eq_false_iff, decide_eq_false_iff_not]; omega
    rw [qx2 (by simpa using q), this]; rfl
   ·rw [qx1 (by simpa using q)]
    by_cases q2 : (c.toNat : Int) > 57
    ·have : isD c = false := by simp only [isD, Bool.and_eq_false_iff, decide_eq_false_iff_not]; omega
     rw [this, decide_eq_true q2]; rfl
    ·have : isD c = true := by simp only [isD, Bool.and_eq_true, decide_eq_true_eq]; omega
     rw [this, decide_eq_false q2]; rfl
  rw [JaI, e, qx0]
  cases q : isD c with
  | true => rw [qx1 (by simp), qhf s (i + 1), List.all_cons, q]; rfl
  | false => rw [qx2 (by simp), List.all_cons, q]; rfl
theorem qp2 {s : Str} (h : s.length ≤ 4200) : JbJ s = some (nmr s) := by
 unfold JbJ
 rw [qad (by simp only [qa1]; omega), qhf, qx0]
 cases s with
 | nil => rfl
 | cons c t =>
  rw [nmr, List.all_cons]
  cases q : (isD c && t.all isD) with
  | true =>
   rw [qx2 rfl, el_go, Bool.true_and]
   have e1 : decide (((c :: t).length : Int) ≥ 1) = true := by simp only [List.length_cons, decide_eq_true_eq]; omega
   have e2 : decide (((c :: t).length : Int) ≤ 9) = decide (t.length ≤ 8) := by
    simp only [List.length_cons, decide_eq_decide]; omega
   rw [e1, e2, Bool.true_and]
  | false => rw [qx1 (by simp), qeo, Bool.false_and]
def prt (s : Str) : Bool := s.all fun c => !(decide ((c.toNat : Int) < 32) || decide ((c.toNat : Int) > 126))
theorem qr1 (c : UInt8) (s : Str) : prt (c :: s) = (!(decide ((c.toNat : Int) < 32) || decide ((c.toNat : Int) > 126)) && prt s) := by simp [prt]
theorem qr2 (c : UInt8) : (if decide ((c.toNat : Int) < 32) = true then some true else some (decide ((c.toNat : Int) > 126))) = some (decide ((c.toNat : Int) < 32) || decide ((c.toNat : Int) > 126)) := by
 cases decide ((c.toNat : Int) < 32) <;> simp
theorem qr3 (c : UInt8) : (if decide ((c.toNat : Int) = 34) = true then some true else some (decide ((c.toNat : Int) = 92))) = some (decide ((c.toNat : Int) = 34) || decide ((c.toNat : Int) = 92)) := by
 cases decide ((c.toNat : Int) = 34) <;> simp
theorem qfk : ∀ (s : Str) (i : Nat) (y : Str), y.length + 2 * s.length ≤ 1000000 → ∃ r, JaS s i y = some r ∧ (prt s = true → ∃ z, r = Fl.go z ∧ z.length ≤ 1000000) ∧ (prt s = false → r = Fl.ret ([], some 2))
 | [], i, y, h => ⟨_, rfl, fun _ => ⟨_, rfl, by simpa using h⟩, fun h => (by simp [prt] at h)⟩
 | c :: s, i, y, h => by
  simp only [List.length_cons] at h
  rw [JaS, qr2, qx0, qr1]
  cases q : (decide ((c.toNat : Int) < 32) || decide ((c.toNat : Int) > 126)) with
  | true => exact ⟨_, qx2 rfl, fun h => (by simp at h), fun _ => rfl⟩
  | false =>
   rw [qx1 (by simp), qr3, qx0, Bool.not_false, Bool.true_and]
   cases q2 : (decide ((c.toNat : Int) = 34) || decide ((c.toNat : Int) = 92)) with
   | true =>
    rw [qx2 rfl, qad (by simp only [lim, List.length_cons, List.length_nil]; omega), qad (by simp only [lim, List.length_append, List.length_cons, List.length_nil]; omega)]
    exact qfk s (i + 1) _ (by simp only [List.length_append, List.length_cons, List.length_nil]; omega)
   | false =>
    rw [qx1 (by simp), qad (by simp only [lim, List.length_cons, List.length_nil]; omega)]
    exact qfk s (i + 1) _ (by simp only [List.length_append, List.length_cons, List.length_nil]; omega)
theorem qer {s : Str} (h : s.length ≤ 4200) : JaJ s = some (prt s) := by
 obtain ⟨r, hr, g1, g2⟩ := qfk s 0 [34] (by simp <;> omega)
 unfold JaJ Jco
 rw [qad (by simp only [qa1]; omega), hr, qx0]
 cases q : prt s with
 | false => rw [g2 q, qeo]; rfl
 | true =>
  obtain ⟨z, rfl, hz⟩ := g1 q
  rw [el_go, qad (by simp only [lim, List.length_cons, List.length_nil]; omega)]; rfl
theorem A2.imp_mem {α β : Type} {P Q : α → β → Prop} {l : List α} {k : List β} (h : A2 P l k) (hf : ∀ a ∈ l, ∀ b, P a b → Q a b) : A2 Q l k := by
 induction h with
 | nil => exact .nil
 | cons hp _ ih => exact .cons (hf _ (by simp) _ hp) (ih fun a ha => hf a (by simp [ha]))
def cmp (s : Str) : Bool := decide (s = [61, 61]) || (decide (s = [33, 61]) || (decide (s = [60]) || (decide (s = [60, 61]) || (decide (s = [115, 116, 97, 114, 116, 115]) || (decide (s = [101, 110, 100, 115]) || decide (s = [99, 111, 110, 116, 97, 105, 110, 115]))))))
theorem qmu (s : Str) : ((J9 4 s).bind fun x22 => (if x22 = true then some true else (J9 1 s).bind fun x26 => some x26)) = some (cmp s) := by
 by_cases h1 : s = [61, 61]; · subst h1; rfl
 by_cases h2 : s = [33, 61]; · subst h2; rfl
 by_cases h3 : s = [60]; · subst h3; rfl
 by_cases h4 : s = [60, 61]; · subst h4; rfl
 by_cases h5 : s = [115, 116, 97, 114, 116, 115]; · subst h5; rfl
 by_cases h6 : s = [101, 110, 100, 115]; · subst h6; rfl
 by_cases h7 : s = [99, 111, 110, 116, 97, 105, 110, 115]; · subst h7; rfl
 simp [J9, h1, h2, h3, h4, h5, h6, h7, cmp]
theorem qgd {a e : Int} {x : M} {f : Err} : JM ⟨a, some e⟩ x f = some ⟨a, some e⟩ := rfl
theorem qdl {a : Int} {x : M} {f : Err} : JM ⟨a, none⟩ x f = some ⟨x.Ad, f⟩ := rfl
theorem qkk {f : Ck → M → List Bd → Option (Int × Ck)} {env : List Bd} {a e : Int} (hf : ∀ k r, f ⟨a, some e⟩ k env = some r → r.2 = ⟨a, some e⟩) : ∀ (l : List M) (i : Nat) (y : List Int) (r : Fl (Int × Ck) (List Int × Int × Err)), JP f env l i y a (some e) = some r →
  (∀ z, r = Fl.ret z → z.2 = ⟨a, some e⟩) ∧ ∀ z, r = Fl.go z → z.2.1 = a ∧ z.2.2 = some e
 | [], i, y, r, h => by
  cases h
  exact ⟨fun z q => (by cases q), fun z q => by cases q; exact ⟨rfl, rfl⟩⟩
 | k :: l, i, y, r, h => by
  rw [JP] at h
  obtain ⟨x, hx, h1⟩ := bnd h
  obtain ⟨_, h2⟩ := qax h1
  have hs := hf _ _ hx
  rw [hs, qx2 (by simp)] at h2
  cases h2
  exact ⟨fun z q2 => (by cases q2; rfl), fun z q => by cases q⟩
theorem call_same {a e : Int} {x : M} {l : List Int} {r : Int × Ck} (h : J6 ⟨a, some e⟩ x l = some r) : r.2 = ⟨a, some e⟩ := by
 unfold J6 at h
 obtain ⟨f, hf, h1⟩ := bnd h
 split at h1
 ·rw [qgd] at h1; cases h1; rfl
 ·obtain ⟨b, hb, h2⟩ := bnd h1
  split at h2
  ·rw [qgd] at h2; cases h2; rfl
  ·cases h2; rfl
theorem qjn {env : List Bd} {a e : Int} : ∀ (n : Nat) (x : M) (r : Int × Ck), JL n ⟨a, some e⟩ x env = some r → r.2 = ⟨a, some e⟩
 | 0, x, r, h => by rw [JL] at h; cases h
 | n + 1, x, r, h => by
  rw [JL] at h
  obtain ⟨_, h1⟩ := qax h
  obtain ⟨s, hs, h2⟩ := bnd h1
  obtain ⟨g1, g2⟩ := qkk (a := a) (e := e) (fun k r => qjn n k r) x.Aa 0 [] s hs
  cases s with
  | ret z => rw [qeo] at h2; cases h2; exact g1 _ rfl
  | go z =>
   obtain ⟨z1, z2, z3⟩ := z
   obtain ⟨k1, k2⟩ := g2 _ rfl
   simp only at k1 k2
   subst k1
   subst k2
   rw [el_go] at h2
   by_cases q20 : x.Ab = 20
   ·rw [qx2 (by simpa using q20)] at h2; cases h2; rfl
   rw [qx1 (by simpa using q20)] at h2
   by_cases q21 : x.Ab = 21
   ·rw [qx2 (by simpa using q21)] at h2; cases h2; rfl
   rw [qx1 (by simpa using q21)] at h2
   by_cases q22 : x.Ab = 22
   ·rw [qx2 (by simpa using q22)] at h2; cases h2; rfl
   rw [qx1 (by simpa using q22)] at h2
   by_cases q23 : x.Ab = 23
   ·rw [qx2 (by simpa using q23)] at h2
    obtain ⟨u, hu, h3⟩ := bnd h2
    split at h3
    ·rw [qgd] at h3; cases h3; rfl
    ·cases h3; rfl
   rw [qx1 (by simpa using q23)] at h2
   by_cases q24 : x.Ab = 24
   ·rw [qx2 (by simpa using q24)] at h2
    obtain ⟨u, hu, h3⟩ := bnd h2
    cases h3; exact call_same hu
   rw [qx1 (by simpa using q24)] at h2
   obtain ⟨u, hu, h3⟩ := bnd h2
   split at h3
   ·rw [qgd] at h3; cases h3; rfl
   ·cases h3; rfl
theorem qge {n : Nat} {f : Ck → List M → List Bd → Option Ck} {a e : Int} : ∀ (l : List M) (i : Nat) (env : List Bd) (r : Fl Ck (List Bd × Int × Err)), Js n f l i env a (some e) = some r →
  (∀ z, r = Fl.ret z → z = ⟨a, some e⟩) ∧ ∀ z, r = Fl.go z → z.2.1 = a ∧ z.2.2 = some e
 | [], i, env, r, h => by
  cases h
  exact ⟨fun z q => (by cases q), fun z q => by cases q; exact ⟨rfl, rfl⟩⟩
 | x :: l, i, env, r, h => by
  rw [Js] at h
  cases q : decide ((x.Aa.length : Int) = 0) with
  | true => rw [q, qx2 rfl] at h; exact qge l (i + 1) env r h
  | false =>
   rw [q, qx1 (by simp)] at h
   obtain ⟨k, hk, h1⟩ := bnd h
   obtain ⟨t, ht, h2⟩ := bnd h1
   obtain ⟨nd, _, h3⟩ := bnd h2
   have hs := qjn n _ _ ht
   rw [hs, qx1 (by simp), qx2 (by simp)] at h3
   cases h3
   exact ⟨fun z q3 => (by cases q3; rfl), fun z q => by cases q⟩
theorem qop : ∀ (n : Nat) (a e : Int) (l : List M) (env : List Bd) (r : Ck), Jz n ⟨a, some e⟩ l env = some r → r = ⟨a, some e⟩
 | 0, a, e, l, env, r, h => by rw [Jz] at h; cases h
 | n + 1, a, e, l, env, r, h => by
  rw [Jz] at h
  obtain ⟨_, h1⟩ := qax h
  obtain ⟨s, hs, h2⟩ := bnd h1
  obtain ⟨g1, g2⟩ := qge l 0 env s hs
  cases s with
  | ret z => rw [qeo] at h2; cases h2; exact g1 _ rfl
  | go z =>
   rw [el_go] at h2; cases h2
   obtain ⟨k1, k2⟩ := g2 z rfl
   rw [k1, k2]
abbrev Env := Str → Int
abbrev qc9 := Int × Int
def base : Env := fun s => if pre s then 1 else 0
def ext (ρ : Env) (s : Str) (t : Int) : Env := fun q => if s = q then t else ρ q
def lkf (env : List Bd) : Env := fun s => lk s env
theorem qmv : lkf [] = base := rfl
theorem qn0 (env : List Bd) (s : Str) (t : Int) : lkf (env ++ [⟨s, t⟩]) = ext (lkf env) s t := by
 funext q; exact qt7 q env ⟨s, t⟩
def kidsE (f : M → Except qc9 Int) : List M → Except qc9 (List Int)
 | [] => .ok []
 | k :: l => match f k with
  | .error e => .error e
  | .ok t => match kidsE f l with
   | .error e => .error e
   | .ok ts => .ok (t :: ts)
noncomputable def fnc (s : Str) : Int × Int := (JaY s).getD (0, 0)
noncomputable def opr (x : M) (ts : List Int) : Int := (Jag x ts).getD 0
noncomputable def tyN (ρ : Env) (x : M) (ts : List Int) : Except qc9 Int :=
 if x.Ab = 20 then .ok 2
 else if x.Ab = 21 then .ok 1
 else if x.Ab = 22 then .ok 3
 else if x.Ab = 23 then (if ρ x.Ac = 0 then .error (x.Ad, 8) else .ok (ρ x.Ac))
 else if x.Ab = 24 then (if (fnc x.Ac).2 = 0 then .error (x.Ad, 8) else if ts = [(fnc x.Ac).1] then .ok (fnc x.Ac).2 else .error (x.Ad, 9))
 else if opr x ts = 0 then .error (x.Ad, 9) else .ok (opr x ts)
noncomputable def tyE : Nat → Env → M → Except qc9 Int
 | 0, _, _ => .error (0, 9)
 | d + 1, ρ, x => match kidsE (tyE d ρ) x.Aa with
  | .error e => .error e
  | .ok ts => tyN ρ x ts
theorem kidsE_len {f : M → Except qc9 Int} : ∀ {l : List M} {ts : List Int}, kidsE f l = .ok ts → ts.length = l.length
 | [], ts, h => by cases h; rfl
 | k :: l, ts, h => by
  rw [kidsE] at h
  cases q : f k with
  | error e => rw [q] at h; cases h
  | ok t =>
   rw [q] at h
   simp only at h
   cases q2 : kidsE f l with
   | error e => rw [q2] at h; cases h
   | ok us => rw [q2] at h; cases h; simp [kidsE_len q2]
def Res (a : Int) (r : Except qc9 Int) (t : Int) (c : Ck) : Prop := match r with
 | .ok v => t = v ∧ c = ⟨a, none⟩
 | .error e => c = ⟨e.1, some e.2⟩
theorem qgf {f : Ck → M → List Bd → Option (Int × Ck)} {g : M → Except qc9 Int} {env : List Bd} {a : Int} : ∀ (l : List M) (i : Nat) (y : List Int), (∀ k ∈ l, ∃ t c, f ⟨a, none⟩ k env = some (t, c) ∧ Res a (g k) t c) → y.length + l.length ≤ 1000 →
  ∃ r, JP f env l i y a none = some r ∧ match kidsE g l with
   | .ok ts => r = Fl.go (y ++ ts, a, none)
   | .error e => r = Fl.ret (0, ⟨e.1, some e.2⟩)
 | [], i, y, _, _ => ⟨_, rfl, by simp [kidsE]⟩
 | k :: l, i, y, h, hy => by
  simp only [List.length_cons] at hy
  obtain ⟨t, c, hr, hq⟩ := h k (by simp)
  rw [JP, hr, qx0, qad (by simp only [lim, List.length_cons, List.length_nil]; omega), kidsE]
  unfold Res at hq
  cases q : g k with
  | error e =>
   rw [q] at hq
   simp only at hq
   subst hq
   exact ⟨_, qx2 rfl, rfl⟩
  | ok v =>
   rw [q] at hq
   simp only at hq
   obtain ⟨rfl, rfl⟩ := hq
   simp only [Option.isSome_none, Bool.false_eq_true, if_false]
   obtain ⟨r, hr, h2⟩ := qgf (f := f) (g := g) (env := env) (a := a) l (i + 1) (y ++ [t]) (fun k hk => h k (by simp [hk])) (by simp only [List.length_append, List.length_cons, List.length_nil]; omega)
   refine ⟨r, hr, ?_⟩
   cases q2 : kidsE g l with
   | error e => rw [q2] at h2; exact h2
   | ok ts => rw [q2] at h2; rw [h2]; simp
theorem qsx (s : Str) : JaY s = some (fnc s) := by
 obtain ⟨r, hr⟩ := qiq s
 unfold fnc; rw [hr]; rfl
theorem qn1 {x : M} {l : List Int} (h : l.length ≤ 1000) (h16 : x.Ab = 16 → l.length = 2) : Jag x l = some (opr x l) := by
 obtain ⟨r, hr⟩ := qip h h16
 unfold opr; rw [hr]; rfl
theorem qlk {a : Int} {x : M} {l : List Int} : J6 ⟨a, none⟩ x l = some ((fnc x.Ac).2, if (fnc x.Ac).2 = 0 then ⟨x.Ad, some 8⟩ else if l = [(fnc x.Ac).1] then ⟨a, none⟩ else ⟨x.Ad, some 9⟩) := by
 unfold J6
 rw [qsx, qx0]
 by_cases q : (fnc x.Ac).2 = 0
 ·rw [qx2 (by simpa using q), qdl, qx2 q]; rfl
 ·rw [qx1 (by simpa using q), qx1 q]
  match l with
  | [] => rw [qx2 (by simp), qx0, qx2 rfl, qdl, qx1 (by simp)]; rfl
  | [t] =>
   rw [qx1 (by simp), show ix [t] 0 = some t from rfl, qx0, qx0]
   by_cases q2 : t = (fnc x.Ac).1
   ·rw [qx1 (by simpa using q2), qx2 (by rw [q2])]
   ·rw [qx2 (by simpa using q2), qdl, qx1 (by simpa using q2)]; rfl
  | t :: u :: l => rw [qx2 (by simp; omega), qx0, qx2 rfl, qdl, qx1 (by simp)]; rfl
theorem qjo {env : List Bd} (he : env.length ≤ 100000) {a : Int} : ∀ (d n m : Nat) (x : M), Ok d x → Jv m x = some true → d + 200000 ≤ n → ∃ t c, JL n ⟨a, none⟩ x env = some (t, c) ∧ Res a (tyE d (lkf env) x) t c
 | d + 1, 0, m, x, _, _, hn => by omega
 | d + 1, n + 1, m, x, h, hv, hn => by
  obtain ⟨h1, h2, h3⟩ := h
  obtain ⟨m', k, rfl, hk, k2, k3, k4⟩ := qcv hv
  obtain ⟨r, hr, hl⟩ := qgf (f := JL n) (g := tyE d (lkf env)) (env := env) (a := a) x.Aa 0 [] (fun q hq => qjo he d n m' q (h3 q hq) (k4 q hq) (by omega)) (by simp <;> omega)
  rw [JL, qad (by simp only [qa1]; omega), hr, qx0, tyE]
  cases q : kidsE (tyE d (lkf env)) x.Aa with
  | error e =>
   rw [q] at hl
   simp only at hl
   subst hl
   exact ⟨_, _, rfl, rfl⟩
  | ok ts =>
   rw [q] at hl
   simp only [List.nil_append] at hl
   subst hl
   have hlen := kidsE_len q
   simp only [el_go, tyN]
   by_cases q20 : x.Ab = 20
   ·rw [qx2 (by simpa using q20), qx2 q20]; exact ⟨_, _, rfl, rfl, rfl⟩
   rw [qx1 (by simpa using q20), qx1 q20]
   by_cases q21 : x.Ab = 21
   ·rw [qx2 (by simpa using q21), qx2 q21]; exact ⟨_, _, rfl, rfl, rfl⟩
   rw [qx1 (by simpa using q21), qx1 q21]
   by_cases q22 : x.Ab = 22
   ·rw [qx2 (by simpa using q22), qx2 q22]; exact ⟨_, _, rfl, rfl, rfl⟩
   rw [qx1 (by simpa using q22), qx1 q22]
   by_cases q23 : x.Ab = 23
   ·rw [qx2 (by simpa using q23), qx2 q23, qir he (by omega), qx0]
    by_cases q0 : lk x.Ac env = 0
    ·rw [qx2 (by simpa using q0), qdl, qx0, qx2 (show lkf env x.Ac = 0 from q0)]; exact ⟨_, _, rfl, rfl⟩
    ·rw [qx1 (by simpa using q0), qx1 (show ¬ lkf env x.Ac = 0 from q0)]; exact ⟨_, _, rfl, rfl, rfl⟩
   rw [qx1 (by simpa using q23), qx1 q23]
   by_cases q24 : x.Ab = 24
   ·rw [qx2 (by simpa using q24), qx2 q24, qlk, qx0]
    refine ⟨_, _, rfl, ?_⟩
    by_cases q0 : (fnc x.Ac).2 = 0
    ·rw [qx2 q0, qx2 q0]; rfl
    ·rw [qx1 q0, qx1 q0]
     by_cases q1 : ts = [(fnc x.Ac).1]
     ·rw [qx2 q1, qx2 q1]; exact ⟨rfl, rfl⟩
     ·rw [qx1 q1, qx1 q1]; rfl
   rw [qx1 (by simpa using q24), qx1 q24, qn1 (by omega) fun h16 => by
    rcases operands_16 h16 hk with rfl | rfl
    ·have := k3 (by omega); omega
    ·exact absurd rfl k2]
   rw [qx0]
   by_cases q0 : opr x ts = 0
   ·rw [qx2 (by simpa using q0), qdl, qx0, qx2 q0]; exact ⟨_, _, rfl, rfl⟩
   ·rw [qx1 (by simpa using q0), qx1 q0]; exact ⟨_, _, rfl, rfl, rfl⟩
def nds (k : Int) : Int := if k = 2 then 3 else if k = 4 then 1 else if k = 5 then 1 else if k = 7 then 1 else if k = 8 then 2 else if k = 9 then 2 else 0
theorem qvf (x : M) : JbW x = some (nds x.Ab) := by
 unfold JbW nds
 by_cases h1 : x.Ab = 2; · rw [qx2 (by simpa using h1), qx2 h1]
 rw [qx1 (by simpa using h1), qx1 h1]
 by_cases h2 : x.Ab = 4; · rw [qx2 (by simpa using h2), qx2 h2]
 rw [qx1 (by simpa using h2), qx1 h2]
 by_cases h3 : x.Ab = 5; · rw [qx2 (by simpa using h3), qx2 h3]
 rw [qx1 (by simpa using h3), qx1 h3]
 by_cases h4 : x.Ab = 7; · rw [qx2 (by simpa using h4), qx2 h4]
 rw [qx1 (by simpa using h4), qx1 h4]
 by_cases h5 : x.Ab = 8; · rw [qx2 (by simpa using h5), qx2 h5]
 rw [qx1 (by simpa using h5), qx1 h5]
 by_cases h6 : x.Ab = 9; · rw [qx2 (by simpa using h6), qx2 h6]
 rw [qx1 (by simpa using h6), qx1 h6]
def brn (k : M) : List M := if k.Ab = 12 then k.Aa else [k]
theorem qis (k : M) : JaN k = some (brn k) := by
 unfold JaN brn
 by_cases h : k.Ab = 12
 ·rw [qx2 (by simpa using h), qx2 h]
 ·rw [qx1 (by simpa using h), qx1 h]
def foldS (g : Env → M → Except qc9 Env) : Env → List M → Except qc9 Env
 | ρ, [] => .ok ρ
 | ρ, x :: l => match g ρ x with
  | .error e => .error e
  | .ok ρ' => foldS g ρ' l
def brs (g : M → Except qc9 Env) : List M → Option qc9
 | [] => none
 | k :: l => match g k with
  | .error e => some e
  | .ok _ => brs g l
noncomputable def stm : Nat → Env → M → Except qc9 Env
 | 0, _, _ => .error (0, 9)
 | d + 1, ρ, x => match x.Aa with
  | [] => .ok ρ
  | k0 :: ks => match tyE d ρ k0 with
   | .error e => .error e
   | .ok t =>
    if nds x.Ab ≠ 0 ∧ t ≠ nds x.Ab then .error (x.Ad, 9)
    else if x.Ab = 3 then (if ρ x.Ac = 0 then .ok (ext ρ x.Ac t) else .error (x.Ad, 4))
    else if x.Ab = 2 then (match brs (fun k => foldS (stm d) ρ (brn k)) ks with
     | some e => .error e
     | none => .ok ρ)
    else .ok ρ
def fin (a : Int) (r : Except qc9 Env) : Ck := match r with
 | .ok _ => ⟨a, none⟩
 | .error e => ⟨e.1, some e.2⟩
theorem qp3 {f : Ck → List M → List Bd → Option Ck} {env : List Bd} {a e : Int} (hs : ∀ l r, f ⟨a, some e⟩ l env = some r → r = ⟨a, some e⟩) : ∀ (l : List M) (i : Nat), (∀ k ∈ l, ∃ r, f ⟨a, some e⟩ (brn k) env = some r) → JA f env l i a (some e) = some (a, some e)
 | [], i, _ => rfl
 | k :: l, i, h => by
  obtain ⟨r, hr⟩ := h k (by simp)
  have := hs _ _ hr
  rw [JA, qis, qx0, hr, qx0, this]
  exact qp3 hs l (i + 1) fun q hq => h q (by simp [hq])
theorem qp4 {f : Ck → List M → List Bd → Option Ck} {g : M → Except qc9 Env} {env : List Bd} {a : Int} (hs : ∀ a e l r, f ⟨a, some e⟩ l env = some r → r = ⟨a, some e⟩) : ∀ (l : List M) (i : Nat), (∀ k ∈ l, f ⟨a, none⟩ (brn k) env = some (fin a (g k))) → (∀ k ∈ l, ∀ c, ∃ r, f c (brn k) env = some r) →
  JA f env l i a none = some (match brs g l with
   | none => (a, none)
   | some e => (e.1, some e.2))
 | [], i, _, _ => rfl
 | k :: l, i, h, h' => by
  rw [JA, qis, qx0, h k (by simp), qx0, brs]
  cases q : g k with
  | error e => exact qp3 (fun l r => hs _ _ l r) l (i + 1) fun q hq => h' q (by simp [hq]) _
  | ok ρ => exact qp4 hs l (i + 1) (fun q hq => h q (by simp [hq])) fun q hq => h' q (by simp [hq])
theorem qwp {α : Type} {x : α} {l : List α} : subL (x :: l) (1 : Int) (((x :: l).length : Nat) : Int) = l := by
 unfold subL
 rw [show ((1 : Int)).toNat = 1 from rfl, List.drop_succ_cons, List.drop_zero, List.take_of_length_le (by simp only [List.length_cons]; omega)]
set_option maxRecDepth 100000 in
theorem qgg {n d : Nat} {f : Ck → List M → List Bd → Option Ck} {a : Int} (hn : d + 200000 ≤ n)
  (hs : ∀ env a e l r, f ⟨a, some e⟩ l env = some r → r = ⟨a, some e⟩)
  (hf : ∀ (l : List M) (env : List Bd), (∀ x ∈ l, Gd d x) → l.length ≤ 700 → env.length + 701 * (d + 1) ≤ 90000 → f ⟨a, none⟩ l env = some (fin a (foldS (stm d) (lkf env) l)))
  (hx : ∀ (l : List M) (env : List Bd) (c : Ck), (∀ x ∈ l, Gd d x) → l.length ≤ 700 → env.length + 701 * (d + 1) ≤ 90000 → ∃ r, f c l env = some r) :
  ∀ (l : List M) (i : Nat) (env : List Bd), (∀ x ∈ l, Gd (d + 1) x) → env.length + l.length + 701 * (d + 1) ≤ 90000 →
   ∃ r, Js n f l i env a none = some r ∧ match foldS (stm (d + 1)) (lkf env) l with
    | .ok ρ => ∃ env', r = Fl.go (env', a, none) ∧ lkf env' = ρ ∧ env'.length ≤ env.length + l.length
    | .error e => r = Fl.ret ⟨e.1, some e.2⟩
 | [], i, env, _, _ => ⟨_, rfl, env, rfl, rfl, by simp⟩
 | x :: l, i, env, hg, he => by
  simp only [List.length_cons] at he
  have hgl : ∀ x ∈ l, Gd (d + 1) x := fun q hq => hg q (by simp [hq])
  have rec_ : ∀ env', env'.length ≤ env.length + 1 → ∃ r, Js n f l (i + 1) env' a none = some r ∧ match foldS (stm (d + 1)) (lkf env') l with
    | .ok ρ => ∃ env2, r = Fl.go (env2, a, none) ∧ lkf env2 = ρ ∧ env2.length ≤ env.length + (l.length + 1)
    | .error e => r = Fl.ret ⟨e.1, some e.2⟩ := fun env' h1 => by
   obtain ⟨r, hr, h2⟩ := qgg hn hs hf hx l (i + 1) env' hgl (by omega)
   refine ⟨r, hr, ?_⟩
   cases q : foldS (stm (d + 1)) (lkf env') l with
   | error e => rw [q] at h2; exact h2
   | ok ρ => rw [q] at h2; obtain ⟨e2, a1, a2, a3⟩ := h2; exact ⟨e2, a1, a2, by omega⟩
  obtain ⟨hok, m, hm⟩ := hg x (by simp)
  obtain ⟨m, rfl, hv0, hv2⟩ := qcj hm
  obtain ⟨o1, o2, o3⟩ := hok
  rw [Js, foldS]
  simp only [List.length_cons]
  cases hk : x.Aa with
  | nil =>
   rw [qx2 (by simp), stm, hk]
   exact rec_ env (by omega)
  | cons k0 ks =>
   have hk0 : k0 ∈ x.Aa := by rw [hk]; simp
   obtain ⟨t, c, ht, hR⟩ := qjo (env := env) (by omega) (a := a) d n m k0 (o3 k0 hk0) (hv0 k0 (by rw [hk]; rfl)) (by omega)
   rw [qx1 (by simp; omega), show ix (k0 :: ks) 0 = some k0 from rfl, qx0, ht, qx0, qvf, qx0, stm, hk]
   simp only
   unfold Res at hR
   cases q : tyE d (lkf env) k0 with
   | error e =>
    rw [q] at hR
    simp only at hR
    subst hR
    rw [qx1 (by simp), qx2 (by simp)]
    exact ⟨_, rfl, rfl⟩
   | ok v =>
    rw [q] at hR
    simp only at hR
    obtain ⟨rfl, rfl⟩ := hR
    simp only
    by_cases qn : nds x.Ab ≠ 0 ∧ t ≠ nds x.Ab
    ·rw [qx2 (by simpa using qn), qdl, qx0, qx2 (by simp), qx2 qn]
     exact ⟨_, rfl, rfl⟩
    ·rw [qx1 (by simpa using qn), qx1 qn, qx1 (by simp)]
     by_cases q3 : x.Ab = 3
     ·rw [qx2 (by simpa using q3), qx2 q3]
      unfold Ja8
      rw [qir (by omega) (by omega), qx0, qx0, qd7 (by omega)]
      by_cases q0 : lk x.Ac env = 0
      ·rw [qx1 (by simpa using q0), qx0, qx1 (by simp), qx2 (show lkf env x.Ac = 0 from q0)]
       simp only
       rw [← qn0]
       exact rec_ _ (by simp)
      ·rw [qx2 (by simpa using q0), qdl, qx0, qx0, qx2 (by simp), qx1 (show ¬ lkf env x.Ac = 0 from q0)]
       exact ⟨_, rfl, rfl⟩
     ·rw [qx1 (by simpa using q3), qx1 q3]
      by_cases q2 : x.Ab = 2
      ·obtain ⟨l2, hb⟩ := hv2 q2
       rw [hk] at l2 hb
       have hbr : ∀ k ∈ ks, (∀ q ∈ brn k, Gd d q) ∧ (brn k).length ≤ 700 := fun k hk1 => by
        have hk2 : k ∈ x.Aa := by rw [hk]; simp [hk1]
        obtain ⟨l', e1, e2, e3⟩ := qeq (o3 k hk2) ((hb k (by simpa using hk1)).imp (fun h => ⟨h.1, fun q hq => ⟨m, h.2 q hq⟩⟩) fun h => ⟨h.1, m, h.2⟩)
        rw [qis] at e1
        cases e1
        exact ⟨e3, e2⟩
       have hkl : (k0 :: ks).length ≤ 700 := by rw [← hk]; exact o2
       rw [qx2 (by simpa using q2), qx2 q2, qad (by simp only [List.length_cons] at l2 ⊢; omega), qwp, qad (by simp only [qa1]; simp only [List.length_cons] at hkl; omega),
        qp4 (g := fun k => foldS (stm d) (lkf env) (brn k)) (hs env) ks 0 (fun k hk1 => hf _ _ (hbr k hk1).1 (hbr k hk1).2 (by omega)) (fun k hk1 c => hx _ _ c (hbr k hk1).1 (hbr k hk1).2 (by omega)), qx0]
       cases brs (fun k => foldS (stm d) (lkf env) (brn k)) ks with
       | some e => rw [qx2 (by simp)]; exact ⟨_, rfl, rfl⟩
       | none => rw [qx1 (by simp)]; exact rec_ env (by omega)
      ·rw [qx1 (by simpa using q2), qx1 q2, qx1 (by simp)]
       exact rec_ env (by omega)
set_option maxRecDepth 100000 in
theorem qjp {a : Int} : ∀ (d n : Nat) (l : List M) (env : List Bd), (∀ x ∈ l, Gd d x) → l.length ≤ 700 → env.length + 701 * (d + 1) ≤ 90000 → d + 300000 ≤ n → Jz n ⟨a, none⟩ l env = some (fin a (foldS (stm d) (lkf env) l))
 | d, 0, l, env, _, _, _, hn => by omega
 | 0, n + 1, l, env, hg, hl, he, hn => by
  have : l = [] := by
   cases l with
   | nil => rfl
   | cons x l => exact (hg x (by simp)).1.elim
  subst this
  rw [Jz, qad (by simp only [qa1]; simp)]; rfl
 | d + 1, n + 1, l, env, hg, hl, he, hn => by
  obtain ⟨r, hr, h2⟩ := qgg (n := n) (d := d) (a := a) (f := Jz n) (by omega) (fun env a e l r => qop n a e l env r) (fun l' env' h1 h2 h3 => qjp d n l' env' h1 h2 h3 (by omega)) (fun l' env' c' h1 h2 h3 => qgc d n l' env' c' h1 h2 h3 (by omega)) l 0 env hg (by omega)
  rw [Jz, qad (by simp only [qa1]; omega)]
  simp only
  rw [hr, qx0]
  cases q : foldS (stm (d + 1)) (lkf env) l with
  | error e => rw [q] at h2; simp only at h2; subst h2; rfl
  | ok ρ => rw [q] at h2; obtain ⟨e2, a1, a2, a3⟩ := h2; subst a1; rfl
noncomputable def chkR (d : Nat) (ys : List M) : Int × Err := match foldS (stm d) base ys with
 | .ok _ => (0, none)
 | .error e => (e.1, some e.2)
set_option maxRecDepth 100000 in
theorem qe2 {n d : Nat} {y : M} {b : Bool} (h : Ok (d + 1) y) (hd : d ≤ 100) (hn : 400000 ≤ n) (hb : JaC n y = some b) : Jbp n y = some (if b = true then chkR d y.Aa else (0, some 2)) := by
 unfold Jbp
 rw [hb, qx0]
 cases b with
 | false => rfl
 | true =>
  have hv := qgb hb
  have := h.2.1
  rw [qx1 (by simp), qjp d n y.Aa [] (fun k hk => ⟨h.2.2 k hk, n, hv k hk⟩) this (by simp only [List.length_nil]; omega) (by omega), qx0]
  unfold chkR
  rw [qmv]
  cases foldS (stm d) base y.Aa <;> rfl
def Ty (t : Int) : Prop := t = 1 ∨ t = 2 ∨ t = 3
def QQ (o : Option Int) : Prop := ∀ t, o = some t → t = 0 ∨ Ty t
theorem QQ.bind {α : Type} {o : Option α} {f : α → Option Int} (h : ∀ a, QQ (f a)) : QQ (o.bind f) := fun t ht => by
 cases o with
 | none => cases ht
 | some a => exact h a t ht
theorem operands_len {m : Nat} {y : M} {k : Int} (h : J0 m y = some k) (hk : k ≠ -2) :
  ((y.Ab = 13 ∨ y.Ab = 14 ∨ y.Ab = 17 ∨ y.Ab = 18 ∨ y.Ab = 19) ∧ k = 2) ∨ (y.Ab = 15 ∧ k = 1) ∨ (y.Ab = 16 ∧ k = 2 ∧ cmp y.Ac = true) ∨ ((y.Ab = 20 ∨ y.Ab = 21 ∨ y.Ab = 22 ∨ y.Ab = 23) ∧ k = 0) ∨ (y.Ab = 24 ∧ k = -1) := by
 unfold J0 at h
 have s2 : ∀ {c : Bool} {v : Int}, (if (!c) = true then some (-2) else some v) = some k → k = v ∧ c = true := fun {c v} h => by
  cases c with
  | false => rw [qx2 (by simp)] at h; cases h; exact absurd rfl hk
  | true => rw [qx1 (by simp)] at h; cases h; exact ⟨rfl, rfl⟩
 by_cases q : y.Ab = 13
 ·rw [qx2 (by simpa using q)] at h
  exact .inl ⟨.inl q, (s2 h).1⟩
 rw [qx1 (by simpa using q)] at h
 clear q
 by_cases q : y.Ab = 14
 ·rw [qx2 (by simpa using q)] at h
  exact .inl ⟨.inr (.inl q), (s2 h).1⟩
 rw [qx1 (by simpa using q)] at h
 clear q
 by_cases q : y.Ab = 17
 ·rw [qx2 (by simpa using q)] at h
  exact .inl ⟨.inr (.inr (.inl q)), (s2 h).1⟩
 rw [qx1 (by simpa using q)] at h
 clear q
 by_cases q : y.Ab = 18
 ·rw [qx2 (by simpa using q)] at h
  exact .inl ⟨.inr (.inr (.inr (.inl q))), (s2 h).1⟩
 rw [qx1 (by simpa using q)] at h
 clear q
 by_cases q : y.Ab = 19
 ·rw [qx2 (by simpa using q)] at h
  exact .inl ⟨.inr (.inr (.inr (.inr q))), (s2 h).1⟩
 rw [qx1 (by simpa using q)] at h
 clear q
 by_cases q : y.Ab = 15
 ·rw [qx2 (by simpa using q)] at h
  exact .inr (.inl ⟨q, (s2 h).1⟩)
 rw [qx1 (by simpa using q)] at h
 clear q
 by_cases q : y.Ab = 16
 ·rw [qx2 (by simpa using q)] at h
  have e := qmu y.Ac
  obtain ⟨a, ha, h⟩ := bnd h
  rw [ha, qx0] at e
  rw [e, qx0] at h
  exact .inr (.inr (.inl ⟨q, s2 h⟩))
 rw [qx1 (by simpa using q)] at h
 clear q
 by_cases q : y.Ab = 20
 ·rw [qx2 (by simpa using q)] at h
  obtain ⟨a, ha, h⟩ := bnd h
  exact .inr (.inr (.inr (.inl ⟨.inl q, (s2 h).1⟩)))
 rw [qx1 (by simpa using q)] at h
 clear q
 by_cases q : y.Ab = 21
 ·rw [qx2 (by simpa using q)] at h
  obtain ⟨a, ha, h⟩ := bnd h
  exact .inr (.inr (.inr (.inl ⟨.inr (.inl q), (s2 h).1⟩)))
 rw [qx1 (by simpa using q)] at h
 clear q
 by_cases q : y.Ab = 22
 ·rw [qx2 (by simpa using q)] at h
  exact .inr (.inr (.inr (.inl ⟨.inr (.inr (.inl q)), (s2 h).1⟩)))
 rw [qx1 (by simpa using q)] at h
 clear q
 by_cases q : y.Ab = 23
 ·rw [qx2 (by simpa using q)] at h
  obtain ⟨a, ha, h⟩ := bnd h
  exact .inr (.inr (.inr (.inl ⟨.inr (.inr (.inr q)), (s2 h).1⟩)))
 rw [qx1 (by simpa using q)] at h
 clear q
 by_cases q : y.Ab = 24
 ·rw [qx2 (by simpa using q)] at h
  obtain ⟨a, ha, h⟩ := bnd h
  exact .inr (.inr (.inr (.inr ⟨q, (s2 h).1⟩)))
 rw [qx1 (by simpa using q)] at h
 clear q
 cases h
 exact absurd rfl hk
theorem qp5 {m : Nat} {x : M} (hk : x.Ab = 2) (h : JB (m + 1) x = some true) : ∀ c ∈ x.Aa.drop 1, c.Ab ≠ 12 → c.Ab = 2 := by
 rw [JB, qx2 (by simpa using hk)] at h
 obtain ⟨a, ha, g⟩ := bnd h
 obtain ⟨b, hb, gg⟩ := bnd g
 cases b with
 | true => rw [qx2 rfl] at gg; cases gg
 | false =>
  rw [qx1 (by simp)] at gg
  cases a with
  | true => rw [qx2 rfl] at hb; cases hb
  | false =>
   cases q : ((decide (x.Ac ≠ ([] : Str)) || decide ((x.Aa.length : Int) < 2)) || decide ((x.Aa.length : Int) > 3)) with
   | true => rw [q, qx2 rfl] at ha; cases ha
   | false =>
    simp only [Bool.or_eq_false_iff, decide_eq_false_iff_not] at q
    rw [qx1 (by simp)] at hb
    obtain ⟨c1, hc1, hb⟩ := bnd hb
    obtain ⟨e1, he1, hb⟩ := bnd hb
    have hb : e1 = true := by simpa using hb
    subst hb
    have g1 : x.Aa[1]? = some c1 := by unfold ix at hc1; rw [qx2 (by omega)] at hc1; exact hc1
    obtain ⟨i1, i2⟩ := qde he1
    intro c hc hne
    obtain ⟨i, hi⟩ := List.getElem?_of_mem hc
    rw [List.getElem?_drop] at hi
    have hil : 1 + i < x.Aa.length := (List.getElem?_eq_some_iff.1 hi).1
    by_cases z : i = 0
    ·subst z
     rw [g1] at hi; cases hi
     exact absurd i1 hne
    ·have : i = 1 := by omega
     subst this
     have hx2 : ix x.Aa 2 = some c := by unfold ix; rw [qx2 (by omega)]; exact hi
     rw [qx1 (by simp <;> omega), hx2, qx0] at gg
     obtain ⟨e, he, g3⟩ := bnd gg
     obtain ⟨e', he', he2⟩ := bnd he
     cases he2
     cases e with
     | true => exact absurd (qde he').1 hne
     | false =>
      rw [qx1 (by simp), qx0] at g3
      obtain ⟨e2, he2, g4⟩ := bnd g3
      cases g4
      split at he2
      ·rename_i hk; exact of_decide_eq_true hk
      ·cases he2
noncomputable def tyv (d : Nat) (ρ : Env) (y : M) : Int := match tyE d ρ y with
 | .ok t => t
 | .error _ => 0
def hd0 : List Int → Int
 | [] => 0
 | s :: _ => s
def stN (k t : Int) (ss : List Int) : Int :=
 if k = 20 then 1 else if k = 21 then 1 else if k = 22 then 3 else if k = 23 then 1
 else if k = 24 then (if t = 1 then ss.sum + 32 else ss.sum) + 1
 else if k = 14 then hd0 ss + 1 + max 3 (ss.sum - hd0 ss + 1)
 else if k = 13 then hd0 ss + 1 + max 4 (ss.sum - hd0 ss)
 else (if t = 1 then ss.sum + 32 else ss.sum) + 1
noncomputable def stE : Nat → Env → M → Int
 | 0, _, _ => 0
 | d + 1, ρ, y => stN y.Ab (tyv (d + 1) ρ y) (y.Aa.map (stE d ρ))
theorem qp6 : ∀ {ss : List Int}, (∀ s ∈ ss, 0 ≤ s) → 0 ≤ hd0 ss ∧ hd0 ss ≤ ss.sum ∧ 0 ≤ ss.sum
 | [], _ => by simp [hd0]
 | s :: ss, h => by
  have := qp6 (ss := ss) fun s hs => h s (by simp [hs])
  have := h s (by simp)
  simp only [hd0, List.sum_cons]
  omega
theorem qvg {k t : Int} {ss : List Int} (h : ∀ s ∈ ss, 0 ≤ s) : 0 ≤ stN k t ss ∧ stN k t ss ≤ ss.sum + 33 := by
 have := qp6 h
 unfold stN
 split; · omega
 split; · omega
 split; · omega
 split; · omega
 split; · split <;> omega
 split; · omega
 split; · omega
 split <;> omega
theorem qjq : ∀ (d : Nat) (ρ : Env) (y : M), 0 ≤ stE d ρ y ∧ stE d ρ y ≤ 64 * (cnt d y : Int)
 | 0, ρ, y => by simp [stE]; omega
 | d + 1, ρ, y => by
  have hs : ∀ (l : List M), (∀ s ∈ l.map (stE d ρ), 0 ≤ s) ∧ (l.map (stE d ρ)).sum ≤ 64 * (cntL d l : Int) := fun l => by
   induction l with
   | nil => simp [cntL]
   | cons k l ih =>
    have := qjq d ρ k
    refine ⟨fun s hs => ?_, ?_⟩
    ·rw [List.map_cons] at hs
     rcases List.mem_cons.1 hs with rfl | hs
     ·exact this.1
     ·exact ih.1 s hs
    ·rw [List.map_cons, List.sum_cons, cntL_cons]
     have := ih.2
     omega
  have h := hs y.Aa
  have := qvg (k := y.Ab) (t := tyv (d + 1) ρ y) h.1
  rw [cnt_eq, stE]
  omega
theorem kidsE_a2 {f : M → Except qc9 Int} : ∀ {l : List M} {ts : List Int}, kidsE f l = .ok ts → A2 (fun k t => f k = .ok t) l ts
 | [], ts, h => by cases h; exact .nil
 | k :: l, ts, h => by
  rw [kidsE] at h
  cases q : f k with
  | error e => rw [q] at h; cases h
  | ok t =>
   rw [q] at h
   simp only at h
   cases q2 : kidsE f l with
   | error e => rw [q2] at h; cases h
   | ok us => rw [q2] at h; cases h; exact .cons q (kidsE_a2 q2)
theorem qll {f : M → List Bd → Option (Int × Int)} {env : List Bd} {g : M → Int} {l : List M} {ts : List Int} (h : A2 (fun k t => f k env = some (t, g k) ∧ 0 ≤ g k) l ts) : ∀ (i : Nat) (y : List Int) (a s : Int), i ≠ 0 → 0 ≤ s → s + (l.map g).sum ≤ 1000000 → y.length + l.length ≤ 1000 →
  Jaq f env l i y a s = some (y ++ ts, a, s + (l.map g).sum) := by
 induction h with
 | nil => intro i y a s _ _ _ _; simp [Jaq]
 | cons hp h ih =>
  rename_i k t l ts
  intro i y a s hi hs hb hl
  have hpos : 0 ≤ (l.map g).sum := by
   clear ih hb hl
   induction h with
   | nil => simp
   | cons hp _ ih => rw [List.map_cons, List.sum_cons]; have := hp.2; omega
  rw [List.map_cons, List.sum_cons] at hb ⊢
  simp only [List.length_cons] at hl
  have := hp.2
  rw [Jaq, hp.1, qx0, qad (by simp only [lim, List.length_cons, List.length_nil]; omega), qx1 (by simpa using hi), qad (by constructor <;> simp only <;> omega), ih (i + 1) _ a _ (by omega) (by omega) (by simp only; omega) (by simp only [List.length_append, List.length_cons, List.length_nil]; omega)]
  simp; omega
theorem qlm {f : M → List Bd → Option (Int × Int)} {env : List Bd} {g : M → Int} {l : List M} {ts : List Int} (h : A2 (fun k t => f k env = some (t, g k) ∧ 0 ≤ g k) l ts) (hb : (l.map g).sum ≤ 1000000) (hl : l.length ≤ 900) :
  Jaq f env l 0 [] 0 0 = some (ts, hd0 (l.map g), (l.map g).sum) := by
 cases h with
 | nil => rfl
 | cons hp h =>
  rename_i k t l ts
  rw [List.map_cons, List.sum_cons] at hb ⊢
  simp only [List.length_cons] at hl
  have := hp.2
  have hs : 0 ≤ (l.map g).sum := by
   have aux : ∀ {l : List M} {ts : List Int}, A2 (fun k t => f k env = some (t, g k) ∧ 0 ≤ g k) l ts → 0 ≤ (l.map g).sum := fun h => by
    induction h with
    | nil => simp
    | cons hp _ ih => rw [List.map_cons, List.sum_cons]; have := hp.2; omega
   exact aux h
  rw [Jaq, hp.1, qx0, qad (by simp [lim]), qx2 (by simp), qad (by constructor <;> simp only <;> omega), qll h 1 _ _ _ (by omega) (by simp only; omega) (by simp only; omega) (by simp only [List.length_append, List.length_cons, List.length_nil]; omega)]
  simp [hd0]
theorem qt8 {ρ : Env} {y : M} {ts : List Int} {t : Int} (h : tyN ρ y ts = .ok t) : (y.Ab = 20 → t = 2) ∧ (y.Ab = 21 → t = 1) ∧ (y.Ab = 22 → t = 3) ∧ (y.Ab = 23 → t = ρ y.Ac) ∧ (y.Ab = 24 → t = (fnc y.Ac).2) ∧ (y.Ab ≠ 20 → y.Ab ≠ 21 → y.Ab ≠ 22 → y.Ab ≠ 23 → y.Ab ≠ 24 → t = opr y ts ∧ opr y ts ≠ 0) := by
 unfold tyN at h
 by_cases q20 : y.Ab = 20
 ·rw [qx2 q20] at h; cases h; exact ⟨fun _ => rfl, fun _ => by omega, fun _ => by omega, fun _ => by omega, fun _ => by omega, fun a => absurd q20 a⟩
 rw [qx1 q20] at h
 by_cases q21 : y.Ab = 21
 ·rw [qx2 q21] at h; cases h; exact ⟨fun _ => by omega, fun _ => rfl, fun _ => by omega, fun _ => by omega, fun _ => by omega, fun _ a => absurd q21 a⟩
 rw [qx1 q21] at h
 by_cases q22 : y.Ab = 22
 ·rw [qx2 q22] at h; cases h; exact ⟨fun _ => by omega, fun _ => by omega, fun _ => rfl, fun _ => by omega, fun _ => by omega, fun _ _ a => absurd q22 a⟩
 rw [qx1 q22] at h
 by_cases q23 : y.Ab = 23
 ·rw [qx2 q23] at h
  split at h
  ·cases h
  ·cases h; exact ⟨fun _ => by omega, fun _ => by omega, fun _ => by omega, fun _ => rfl, fun _ => by omega, fun _ _ _ a => absurd q23 a⟩
 rw [qx1 q23] at h
 by_cases q24 : y.Ab = 24
 ·rw [qx2 q24] at h
  split at h
  ·cases h
  ·split at h
   ·cases h; exact ⟨fun _ => by omega, fun _ => by omega, fun _ => by omega, fun _ => by omega, fun _ => rfl, fun _ _ _ _ a => absurd q24 a⟩
   ·cases h
 rw [qx1 q24] at h
 split at h
 ·cases h
 ·rename_i q
  cases h; exact ⟨fun a => absurd a q20, fun a => absurd a q21, fun a => absurd a q22, fun a => absurd a q23, fun a => absurd a q24, fun _ _ _ _ _ => ⟨rfl, q⟩⟩
theorem qt9 {d : Nat} {ρ : Env} {y : M} {t : Int} (h : tyE (d + 1) ρ y = .ok t) : ∃ ts, kidsE (tyE d ρ) y.Aa = .ok ts ∧ tyN ρ y ts = .ok t := by
 rw [tyE] at h
 cases q : kidsE (tyE d ρ) y.Aa with
 | error e => rw [q] at h; cases h
 | ok ts => rw [q] at h; exact ⟨ts, rfl, h⟩
theorem qjr {env : List Bd} (he : env.length ≤ 100000) : ∀ (d n m : Nat) (y : M) (t : Int), Ok d y → Jv m y = some true → tyE d (lkf env) y = .ok t → cnt d y ≤ 10000 → d + 200000 ≤ n → Jbr n y env = some (t, stE d (lkf env) y)
 | 0, n, m, y, t, h, _, _, _, _ => h.elim
 | d + 1, 0, m, y, t, h, _, _, _, hn => by omega
 | d + 1, n + 1, m, y, t, h, hv, ht, hc, hn => by
  have htv : tyv (d + 1) (lkf env) y = t := by unfold tyv; rw [ht]
  obtain ⟨h1, h2, h3⟩ := h
  obtain ⟨m', k, rfl, hk, k2, k3, k4⟩ := qcv hv
  obtain ⟨ts, hks, hN⟩ := qt9 ht
  have hlen := kidsE_len hks
  rw [cnt_eq] at hc
  have hA := (kidsE_a2 hks).imp_mem (Q := fun k t => Jbr n k env = some (t, stE d (lkf env) k) ∧ 0 ≤ stE d (lkf env) k) fun k hk t ht => ⟨qjr he d n m' k t (h3 k hk) (k4 k hk) ht (by have := qmt (d := d) hk; omega) (by omega), (qjq d _ k).1⟩
  have hpos : ∀ s ∈ y.Aa.map (stE d (lkf env)), 0 ≤ s := fun s hs => by
   obtain ⟨k, _, rfl⟩ := List.mem_map.1 hs
   exact (qjq d _ k).1
  have hsum : (y.Aa.map (stE d (lkf env))).sum ≤ 64 * (cntL d y.Aa : Int) := by
   have : ∀ l : List M, (l.map (stE d (lkf env))).sum ≤ 64 * (cntL d l : Int) := fun l => by
    induction l with
    | nil => simp [cntL]
    | cons k l ih =>
     have := (qjq d (lkf env) k).2
     rw [List.map_cons, List.sum_cons, cntL_cons]
     omega
   exact this _
  have hb := qp6 hpos
  obtain ⟨t20, t21, t22, t23, t24, top⟩ := qt8 hN
  rw [Jbr, qad (by simp only [qa1]; omega), qlm hA (by omega) (by omega), qx0, stE, htv]
  generalize y.Aa.map (stE d (lkf env)) = ss at hb hsum
  unfold stN
  simp only
  by_cases q20 : y.Ab = 20
  ·rw [qx2 (by simpa using q20), qx2 q20, t20 q20]
  rw [qx1 (by simpa using q20), qx1 q20]
  by_cases q21 : y.Ab = 21
  ·rw [qx2 (by simpa using q21), qx2 q21, t21 q21]
  rw [qx1 (by simpa using q21), qx1 q21]
  by_cases q22 : y.Ab = 22
  ·rw [qx2 (by simpa using q22), qx2 q22, t22 q22]
  rw [qx1 (by simpa using q22), qx1 q22]
  by_cases q23 : y.Ab = 23
  ·rw [qx2 (by simpa using q23), qx2 q23, qir he (by omega), qx0, t23 q23]; rfl
  rw [qx1 (by simpa using q23), qx1 q23]
  by_cases q24 : y.Ab = 24
  ·rw [qx2 (by simpa using q24), qx2 q24, qlk, qx0, ← t24 q24]
   by_cases q1 : t = 1
   ·rw [qx2 (by simpa using q1), qx2 q1, qad (by constructor <;> omega), qad (by constructor <;> omega)]
   ·rw [qx1 (by simpa using q1), qx1 q1, qad (by constructor <;> omega)]
  rw [qx1 (by simpa using q24), qx1 q24]
  by_cases q14 : y.Ab = 14
  ·have ht3 : t = 3 := by
    have := top q20 q21 q22 q23 q24
    have h16 : Jag y ts = some (opr y ts) := qn1 (by omega) fun h => by omega
    unfold Jag at h16
    rw [qx1 (by simp [q14]), qx1 (by simp [q14]), qx1 (by simp [q14]), qx1 (by simp [q14]), qx2 (by simpa using q14)] at h16
    obtain ⟨b, _, h16⟩ := bnd h16
    cases b with
    | true => rw [qx2 rfl] at h16; have := Option.some.inj h16; omega
    | false => rw [qx1 (by simp)] at h16; have := Option.some.inj h16; omega
   rw [qx2 (by simpa using q14), qx2 q14, qx2 (by simpa using q14), qad (by constructor <;> omega), qad (by constructor <;> omega), qad (by constructor <;> omega), qad (by constructor <;> omega), ht3]
  rw [qx1 (by simpa using q14), qx1 q14]
  by_cases q13 : y.Ab = 13
  ·have ht3 : t = 3 := by
    have := top q20 q21 q22 q23 q24
    have h16 : Jag y ts = some (opr y ts) := qn1 (by omega) fun h => by omega
    unfold Jag at h16
    rw [qx1 (by simp [q13]), qx1 (by simp [q13]), qx1 (by simp [q13]), qx2 (by simpa using q13)] at h16
    obtain ⟨b, _, h16⟩ := bnd h16
    cases b with
    | true => rw [qx2 rfl] at h16; have := Option.some.inj h16; omega
    | false => rw [qx1 (by simp)] at h16; have := Option.some.inj h16; omega
   rw [qx2 (by simpa using q13), qx2 q13, qx1 (by simpa using q14), qad (by constructor <;> omega), qad (by constructor <;> omega), qad (by constructor <;> omega), ht3]
  rw [qx1 (by simpa using q13), qx1 q13, qn1 (by omega) fun h16 => by
   rcases operands_16 h16 hk with rfl | rfl
   ·have := k3 (by omega); omega
   ·exact absurd rfl k2]
  rw [qx0, ← (top q20 q21 q22 q23 q24).1]
  by_cases q1 : t = 1
  ·rw [qx2 (by simpa using q1), qx2 q1, qad (by constructor <;> omega), qad (by constructor <;> omega)]
  ·rw [qx1 (by simpa using q1), qx1 q1, qad (by constructor <;> omega)]
def foldW (w : Env → M → Int) (g : Env → M → Except qc9 Env) : Env → List M → Int
 | _, [] => 0
 | ρ, x :: l => w ρ x + (match g ρ x with
  | .ok ρ' => foldW w g ρ' l
  | .error _ => 0)
noncomputable def wS : Nat → Env → M → Int
 | 0, _, _ => 0
 | d + 1, ρ, x => match x.Aa with
  | [] => 1
  | k0 :: ks => 1 + stE d ρ k0 + (if x.Ab = 2 then (match ks with
   | [] => 0
   | [b] => foldW (wS d) (stm d) ρ (brn b)
   | b :: c :: _ => max (foldW (wS d) (stm d) ρ (brn b) + 1) (foldW (wS d) (stm d) ρ (brn c))) else 0)
theorem qjs {d : Nat} {k : M} (h : Ok d k) : (∀ q ∈ brn k, Ok d q) ∧ cntL d (brn k) ≤ cnt d k := by
 cases d with
 | zero => exact h.elim
 | succ d =>
  unfold brn
  split
  ·refine ⟨fun q hq => (h.2.2 q hq).succ, ?_⟩
   rw [cnt_eq]
   have : ∀ l : List M, (∀ q ∈ l, Ok d q) → cntL (d + 1) l = cntL d l := fun l => by
    induction l with
    | nil => intro _; rfl
    | cons q l ih => intro hq; rw [cntL_cons, cntL_cons, qkj (hq q (by simp)), ih fun p hp => hq p (by simp [hp])]
   rw [this k.Aa h.2.2]; omega
  ·exact ⟨fun q hq => by rw [List.mem_singleton] at hq; subst hq; exact h, by simp [cntL]⟩
theorem qgh {d : Nat} {w : Env → M → Int} {g : Env → M → Except qc9 Env} : ∀ (l : List M) (ρ : Env), (∀ x ∈ l, ∀ ρ, 0 ≤ w ρ x ∧ w ρ x ≤ 200 * (cnt d x : Int)) → 0 ≤ foldW w g ρ l ∧ foldW w g ρ l ≤ 200 * (cntL d l : Int)
 | [], ρ, _ => by simp [foldW, cntL]
 | x :: l, ρ, h => by
  rw [foldW, cntL_cons]
  have h1 := h x (by simp) ρ
  have h2 : 0 ≤ (match g ρ x with | .ok ρ' => foldW w g ρ' l | .error _ => (0 : Int)) ∧ (match g ρ x with | .ok ρ' => foldW w g ρ' l | .error _ => (0 : Int)) ≤ 200 * (cntL d l : Int) := by
   cases g ρ x with
   | error e => simp only; omega
   | ok ρ' => exact qgh l ρ' fun q hq => h q (by simp [hq])
  omega
theorem qp7 : ∀ (d : Nat) (x : M), Ok d x → ∀ ρ, 0 ≤ wS d ρ x ∧ wS d ρ x ≤ 200 * (cnt d x : Int)
 | 0, x, h, ρ => h.elim
 | d + 1, x, h, ρ => by
  have br : ∀ b, Ok d b → 0 ≤ foldW (wS d) (stm d) ρ (brn b) ∧ foldW (wS d) (stm d) ρ (brn b) ≤ 200 * (cnt d b : Int) := fun b hb => by
   obtain ⟨b1, b2⟩ := qjs hb
   have := qgh (d := d) (w := wS d) (g := stm d) (brn b) ρ fun q hq ρ => qp7 d q (b1 q hq) ρ
   omega
  rw [wS, cnt_eq]
  match hk : x.Aa with
  | [] => simp only [cntL, List.map_nil, List.sum_nil]; omega
  | k0 :: ks =>
   have h0 := qjq d ρ k0
   simp only [cntL_cons]
   split
   ·match hks : ks with
    | [] => simp only; omega
    | [b] =>
     have := br b (h.2.2 b (by rw [hk]; simp))
     simp only [cntL_cons]; omega
    | b :: c :: r =>
     have := br b (h.2.2 b (by rw [hk]; simp))
     have := br c (h.2.2 c (by rw [hk]; simp))
     simp only [cntL_cons]; omega
   ·omega
theorem qgy {d : Nat} {ρ ρ' : Env} {x k0 : M} {ks : List M} (hk : x.Aa = k0 :: ks) (h : stm (d + 1) ρ x = .ok ρ') : ∃ t, tyE d ρ k0 = .ok t ∧
  ((x.Ab = 3 ∧ ρ' = ext ρ x.Ac t) ∨ (x.Ab = 2 ∧ ρ' = ρ ∧ brs (fun k => foldS (stm d) ρ (brn k)) ks = none) ∨ (x.Ab ≠ 3 ∧ x.Ab ≠ 2 ∧ ρ' = ρ)) := by
 rw [stm, hk] at h
 simp only at h
 cases q : tyE d ρ k0 with
 | error e => rw [q] at h; cases h
 | ok t =>
  rw [q] at h
  simp only at h
  refine ⟨t, rfl, ?_⟩
  split at h
  ·cases h
  ·split at h
   ·rename_i q3
    split at h
    ·cases h; exact .inl ⟨q3, rfl⟩
    ·cases h
   ·rename_i q3
    split at h
    ·rename_i q2
     split at h
     ·cases h
     ·rename_i qb
      cases h; exact .inr (.inl ⟨q2, rfl, qb⟩)
    ·rename_i q2
     cases h; exact .inr (.inr ⟨q3, q2, rfl⟩)
theorem qhp {g : M → Except qc9 Env} : ∀ {l : List M}, brs g l = none → ∀ k ∈ l, ∃ ρ, g k = .ok ρ
 | [], _, k, hk => by cases hk
 | a :: l, h, k, hk => by
  rw [brs] at h
  cases q : g a with
  | error e => rw [q] at h; cases h
  | ok ρ =>
   rw [q] at h
   rcases List.mem_cons.1 hk with rfl | hk
   ·exact ⟨ρ, q⟩
   ·exact qhp h k hk
theorem qe3 {g : Env → M → Except qc9 Env} {ρ ρ' : Env} {x : M} {l : List M} (h : foldS g ρ (x :: l) = .ok ρ') : ∃ ρ1, g ρ x = .ok ρ1 ∧ foldS g ρ1 l = .ok ρ' := by
 rw [foldS] at h
 cases q : g ρ x with
 | error e => rw [q] at h; cases h
 | ok ρ1 => rw [q] at h; exact ⟨ρ1, rfl, h⟩
theorem qjt {m : Nat} {x : M} (hk : x.Ab = 2) (h : JB (m + 1) x = some true) : x.Aa.length ≤ 3 ∧ ∀ c, x.Aa[1]? = some c → c.Ab = 12 := by
 rw [JB, qx2 (by simpa using hk)] at h
 obtain ⟨a, ha, g⟩ := bnd h
 obtain ⟨b, hb, gg⟩ := bnd g
 cases b with
 | true => rw [qx2 rfl] at gg; cases gg
 | false =>
  cases a with
  | true => rw [qx2 rfl] at hb; cases hb
  | false =>
   cases q : ((decide (x.Ac ≠ ([] : Str)) || decide ((x.Aa.length : Int) < 2)) || decide ((x.Aa.length : Int) > 3)) with
   | true => rw [q, qx2 rfl] at ha; cases ha
   | false =>
    simp only [Bool.or_eq_false_iff, decide_eq_false_iff_not] at q
    rw [qx1 (by simp)] at hb
    obtain ⟨c1, hc1, hb⟩ := bnd hb
    obtain ⟨e1, he1, hb⟩ := bnd hb
    have hb : e1 = true := by simpa using hb
    subst hb
    have g1 : x.Aa[1]? = some c1 := by unfold ix at hc1; rw [qx2 (by omega)] at hc1; exact hc1
    refine ⟨by omega, fun c hc => ?_⟩
    rw [g1] at hc; cases hc
    exact (qde he1).1
set_option maxRecDepth 100000 in
theorem qgi {n d : Nat} {f : List M → List Bd → Option Int} (hn : d + 200000 ≤ n)
  (hf : ∀ (l : List M) (env : List Bd) (ρ' : Env), (∀ x ∈ l, Gd d x) → l.length ≤ 700 → cntL d l ≤ 10000 → env.length + 701 * (d + 1) ≤ 90000 → foldS (stm d) (lkf env) l = .ok ρ' → f l env = some (foldW (wS d) (stm d) (lkf env) l)) :
  ∀ (l : List M) (i : Nat) (env : List Bd) (y : Int) (ρ' : Env), (∀ x ∈ l, Gd (d + 1) x) → cntL (d + 1) l ≤ 10000 → env.length + l.length + 701 * (d + 1) ≤ 90000 → 0 ≤ y → y + 200 * (cntL (d + 1) l : Int) ≤ 5000000 → foldS (stm (d + 1)) (lkf env) l = .ok ρ' →
   ∃ env', Jaa n f l i env y = some (env', y + foldW (wS (d + 1)) (stm (d + 1)) (lkf env) l)
 | [], i, env, y, ρ', _, _, _, _, _, _ => ⟨env, by simp [Jaa, foldW]⟩
 | x :: l, i, env, y, ρ', hg, hc, he, h0, hy, hs => by
  simp only [List.length_cons] at he
  rw [cntL_cons] at hc hy
  obtain ⟨ρ1, hx, hl⟩ := qe3 hs
  have hgl : ∀ x ∈ l, Gd (d + 1) x := fun q hq => hg q (by simp [hq])
  obtain ⟨hok, m, hm⟩ := hg x (by simp)
  have hm' := hm
  have hwb := qp7 (d + 1) x hok (lkf env)
  have rec_ : ∀ (env1 : List Bd) (y1 : Int), env1.length ≤ env.length + 1 → lkf env1 = ρ1 → y1 = y + wS (d + 1) (lkf env) x → ∃ env', Jaa n f l (i + 1) env1 y1 = some (env', y + foldW (wS (d + 1)) (stm (d + 1)) (lkf env) (x :: l)) := fun env1 y1 a1 a2 a3 => by
   obtain ⟨e2, h2⟩ := qgi hn hf l (i + 1) env1 y1 ρ' hgl (by omega) (by omega) (by omega) (by omega) (by rw [a2]; exact hl)
   refine ⟨e2, ?_⟩
   rw [h2, foldW, hx, a2, a3]
   simp only
   congr 2; omega
  obtain ⟨m, rfl, hv0, hv2⟩ := qcj hm
  obtain ⟨o1, o2, o3⟩ := hok
  rw [cnt_eq] at hc hy hwb
  rw [Jaa, qad (by constructor <;> omega)]
  match hk : x.Aa with
  | [] =>
   have hw : wS (d + 1) (lkf env) x = 1 := by rw [wS, hk]
   rw [qx2 (by simp)]
   refine rec_ env (y + 1) (by omega) ?_ (by rw [hw])
   rw [stm, hk] at hx
   cases hx; rfl
  | k0 :: ks =>
   have hk0 : k0 ∈ x.Aa := by rw [hk]; simp
   obtain ⟨t, ht, hcase⟩ := qgy hk hx
   have hcl : cntL d x.Aa = cnt d k0 + cntL d ks := by rw [hk, cntL_cons]
   have hst := qjq d (lkf env) k0
   have hstp := qjr (env := env) (by omega) d n m k0 t (o3 k0 hk0) (hv0 k0 (by rw [hk]; rfl)) ht (by omega) (by omega)
   rw [qx1 (by simp; omega), show ix (k0 :: ks) 0 = some k0 from rfl, qx0, hstp, qx0, qad (by constructor <;> simp only <;> omega)]
   simp only
   rcases hcase with ⟨q3, e⟩ | ⟨q2, e, hb⟩ | ⟨q3, q2, e⟩
   ·have hw : wS (d + 1) (lkf env) x = 1 + stE d (lkf env) k0 := by rw [wS, hk]; simp only; rw [qx1 (by omega)]; omega
    rw [qx2 (by simpa using q3), qd7 (by omega), qx0]
    exact rec_ _ _ (by simp) (by rw [qn0, e]) (by rw [hw]; omega)
   ·obtain ⟨l2, hbl⟩ := hv2 q2
    have hif := qjt q2 hm'
    rw [hk] at l2 hbl hif
    have hall := qhp hb
    have hbr : ∀ k ∈ ks, JaN k = some (brn k) ∧ f (brn k) env = some (foldW (wS d) (stm d) (lkf env) (brn k)) ∧ 0 ≤ foldW (wS d) (stm d) (lkf env) (brn k) ∧ foldW (wS d) (stm d) (lkf env) (brn k) ≤ 200 * (cnt d k : Int) := fun k hk1 => by
     have hk2 : k ∈ x.Aa := by rw [hk]; simp [hk1]
     obtain ⟨l', e1, e2, e3⟩ := qeq (o3 k hk2) ((hbl k (by simpa using hk1)).imp (fun h => ⟨h.1, fun q hq => ⟨m, h.2 q hq⟩⟩) fun h => ⟨h.1, m, h.2⟩)
     rw [qis] at e1
     cases e1
     obtain ⟨b1, b2⟩ := qjs (o3 k hk2)
     obtain ⟨ρk, hρ⟩ := hall k hk1
     have := qmt (d := d) hk1
     have bd := qgh (d := d) (w := wS d) (g := stm d) (brn k) (lkf env) fun q hq ρ => qp7 d q (b1 q hq) ρ
     exact ⟨qis k, hf _ _ ρk e3 e2 (by omega) (by omega) hρ, by omega, by omega⟩
    rw [qx1 (by simp [q2]), qx2 (by simpa using q2)]
    match hks : ks, l2 with
    | [b], _ =>
     obtain ⟨b0, b1, b2, b3⟩ := hbr b (by simp)
     have hw : wS (d + 1) (lkf env) x = 1 + stE d (lkf env) k0 + foldW (wS d) (stm d) (lkf env) (brn b) := by rw [wS, hk]; simp only; rw [qx2 q2]
     simp only [cntL_cons] at hcl
     rw [show ix [k0, b] 1 = some b from rfl, qx0, b0, qx0, b1, qx0, qx1 (by simp), qad (by constructor <;> omega)]
     exact rec_ env _ (by omega) e.symm (by rw [hw]; omega)
    | b :: c :: r, _ =>
     obtain ⟨b0, b1, b2, b3⟩ := hbr b (by simp)
     obtain ⟨c0, c1, c2, c3⟩ := hbr c (by simp)
     have hw : wS (d + 1) (lkf env) x = 1 + stE d (lkf env) k0 + max (foldW (wS d) (stm d) (lkf env) (brn b) + 1) (foldW (wS d) (stm d) (lkf env) (brn c)) := by rw [wS, hk]; simp only; rw [qx2 q2]
     simp only [cntL_cons] at hcl
     rw [show ix (k0 :: b :: c :: r) 1 = some b from rfl, qx0, b0, qx0, b1, qx0, qx2 (by simp only [List.length_cons, decide_eq_true_eq]; omega), qad (by constructor <;> omega),
      show ix (k0 :: b :: c :: r) 2 = some c from rfl, qx0, c0, qx0, c1, qx0, qad (by constructor <;> omega)]
     exact rec_ env _ (by omega) e.symm (by rw [hw]; omega)
    | [], l2 => simp at l2
   ·have hw : wS (d + 1) (lkf env) x = 1 + stE d (lkf env) k0 := by rw [wS, hk]; simp only; rw [qx1 q2]; omega
    rw [qx1 (by simpa using q3), qx1 (by simpa using q2)]
    exact rec_ env _ (by omega) e.symm (by rw [hw]; omega)
set_option maxRecDepth 100000 in
theorem qgz : ∀ (d n : Nat) (l : List M) (env : List Bd) (ρ' : Env), (∀ x ∈ l, Gd d x) → l.length ≤ 700 → cntL d l ≤ 10000 → env.length + 701 * (d + 1) ≤ 90000 → d + 300000 ≤ n → foldS (stm d) (lkf env) l = .ok ρ' → Ja9 n l env = some (foldW (wS d) (stm d) (lkf env) l)
 | d, 0, l, env, ρ', _, _, _, _, hn, _ => by omega
 | 0, n + 1, l, env, ρ', hg, hl, hc, he, hn, hs => by
  have : l = [] := by
   cases l with
   | nil => rfl
   | cons x l => exact (hg x (by simp)).1.elim
  subst this
  rw [Ja9, qad (by simp only [qa1]; simp)]; rfl
 | d + 1, n + 1, l, env, ρ', hg, hl, hc, he, hn, hs => by
  obtain ⟨e2, h2⟩ := qgi (n := n) (d := d) (f := Ja9 n) (by omega) (fun l' env' ρ' h1 h2 h3 h4 h5 => qgz d n l' env' ρ' h1 h2 h3 h4 (by omega) h5) l 0 env 0 ρ' hg hc (by omega) (by omega) (by omega) hs
  rw [Ja9, qad (by simp only [qa1]; omega), h2, qx0]
  simp
end Rt
namespace Rt.Rc
abbrev I := Jg
abbrev Cp := Jd
abbrev Sg := Str → Option Int
def num (s : Str) : Int := s.foldl (fun n c => 10 * n + ((c.toNat : Int) - 48)) 0
def qvh : Str := [116, 114, 117, 101]
def tr (b : Bool) : List I := [⟨1, 0, []⟩, ⟨1, if b then 0 else 1, []⟩, ⟨7, 0, [61, 61]⟩]
theorem qcq (b : Bool) : (tr b).length = 3 := rfl
def opw (x : M) : Str := if x.Ab = 17 then [43] else if x.Ab = 18 then [45] else if x.Ab = 19 then [42] else x.Ac
def nmI (σ : Sg) (s : Str) : I := match σ s with
 | some k => ⟨3, k, []⟩
 | none => ⟨5, 0, s⟩
def cE : Nat → Sg → Nat → M → List I
 | 0, _, _, _ => []
 | d + 1, σ, b, x =>
  if x.Ab = 20 then [⟨1, num x.Ac, []⟩]
  else if x.Ab = 21 then [⟨2, 0, x.Ac⟩]
  else if x.Ab = 22 then tr (decide (x.Ac = qvh))
  else if x.Ab = 23 then [nmI σ x.Ac]
  else match x.Aa with
   | [k] => cE d σ b k ++ [if x.Ab = 24 then ⟨6, 0, x.Ac⟩ else ⟨8, 0, []⟩]
   | [k, l] =>
    if x.Ab = 14 then cE d σ b k ++ ⟨10, (b + (cE d σ b k).length + 1 + (cE d σ (b + (cE d σ b k).length + 1) l).length + 1 : Nat), []⟩ :: (cE d σ (b + (cE d σ b k).length + 1) l ++ ⟨9, (b + (cE d σ b k).length + 1 + (cE d σ (b + (cE d σ b k).length + 1) l).length + 4 : Nat), []⟩ :: tr false)
    else if x.Ab = 13 then cE d σ b k ++ ⟨10, (b + (cE d σ b k).length + 5 : Nat), []⟩ :: (tr true ++ ⟨9, (b + (cE d σ b k).length + 5 + (cE d σ (b + (cE d σ b k).length + 5) l).length : Nat), []⟩ :: cE d σ (b + (cE d σ b k).length + 5) l)
    else cE d σ b k ++ (cE d σ (b + (cE d σ b k).length) l ++ [⟨7, 0, opw x⟩])
   | _ => []
def XE (ρ : Env) : Nat → M → Prop
 | 0, _ => False
 | d + 1, x => x.Ac.length ≤ 4200 ∧
  ((x.Ab = 20 ∧ nmr x.Ac = true ∧ x.Aa = []) ∨ (x.Ab = 21 ∧ prt x.Ac = true ∧ x.Aa = []) ∨ (x.Ab = 22 ∧ x.Aa = []) ∨ (x.Ab = 23 ∧ ρ x.Ac ≠ 0 ∧ x.Aa = []) ∨
   (((x.Ab = 24 ∧ (fnc x.Ac).2 ≠ 0) ∨ x.Ab = 15) ∧ ∃ k, x.Aa = [k] ∧ XE ρ d k) ∨
   ((x.Ab = 13 ∨ x.Ab = 14 ∨ x.Ab = 17 ∨ x.Ab = 18 ∨ x.Ab = 19 ∨ (x.Ab = 16 ∧ cmp x.Ac = true)) ∧ ∃ k l, x.Aa = [k, l] ∧ XE ρ d k ∧ XE ρ d l))
theorem qln {f : M → Except qc9 Int} : ∀ {l : List M} {ts : List Int}, kidsE f l = .ok ts → ∀ k ∈ l, ∃ t, f k = .ok t
 | [], _, _, k, hk => by cases hk
 | a :: l, ts, h, k, hk => by
  rw [kidsE] at h
  cases q : f a with
  | error e => rw [q] at h; cases h
  | ok t =>
   rw [q] at h
   simp only at h
   cases q2 : kidsE f l with
   | error e => rw [q2] at h; cases h
   | ok us =>
    rcases List.mem_cons.1 hk with rfl | hk
    ·exact ⟨t, q⟩
    ·exact qln q2 k hk
theorem qxs {α : Type} {l : List α} (h : (l.length : Int) = 2) : ∃ a b, l = [a, b] := by
 match l, h with
 | [a, b], _ => exact ⟨a, b, rfl⟩
 | [], h => simp at h
 | [a], h => simp at h
 | a :: b :: c :: l, h => simp at h; omega
theorem qwq {α : Type} {l : List α} (h : (l.length : Int) = 1) : ∃ a, l = [a] := by
 match l, h with
 | [a], _ => exact ⟨a, rfl⟩
 | [], h => simp at h
 | a :: b :: l, h => simp at h; omega
theorem qxt {α : Type} {l : List α} (h : (l.length : Int) = 0) : l = [] := by
 cases l with
 | nil => rfl
 | cons a l => simp at h; omega
theorem qmw {m : Nat} {x : M} {k : Int} (ht : x.Ac.length ≤ 4200) (hk : x.Ab = 20) (h : J0 m x = some k) (h2 : k ≠ -2) : nmr x.Ac = true := by
 unfold J0 at h
 rw [hk] at h
 rw [qx1 (by decide), qx1 (by decide), qx1 (by decide), qx1 (by decide), qx1 (by decide), qx1 (by decide), qx1 (by decide), qx2 (by decide), qp2 ht, qx0] at h
 cases q : nmr x.Ac with
 | true => rfl
 | false => rw [q, qx2 (by simp)] at h; cases h; exact absurd rfl h2
theorem qmx {m : Nat} {x : M} {k : Int} (ht : x.Ac.length ≤ 4200) (hk : x.Ab = 21) (h : J0 m x = some k) (h2 : k ≠ -2) : prt x.Ac = true := by
 unfold J0 at h
 rw [hk] at h
 rw [qx1 (by decide), qx1 (by decide), qx1 (by decide), qx1 (by decide), qx1 (by decide), qx1 (by decide), qx1 (by decide), qx1 (by decide), qx2 (by decide), qer (by omega), qx0] at h
 cases q : prt x.Ac with
 | true => rfl
 | false => rw [q, qx2 (by simp)] at h; cases h; exact absurd rfl h2
theorem qoq {ρ : Env} : ∀ {d m : Nat} {x : M} {t : Int}, Ok d x → Jv m x = some true → tyE d ρ x = .ok t → XE ρ d x
 | 0, _, _, _, h, _, _ => h.elim
 | d + 1, m, x, t, h, hv, ht => by
  obtain ⟨h1, h2, h3⟩ := h
  obtain ⟨m', k, rfl, hk, k2, k3, k4⟩ := qcv hv
  rw [tyE] at ht
  cases q : kidsE (tyE d ρ) x.Aa with
  | error e => rw [q] at ht; cases ht
  | ok ts =>
   rw [q] at ht
   simp only at ht
   have hm := qln q
   have rec_ : ∀ c ∈ x.Aa, XE ρ d c := fun c hc => by
    obtain ⟨t', h'⟩ := hm c hc
    exact qoq (h3 c hc) (k4 c hc) h'
   refine ⟨h1, ?_⟩
   have two : k = 2 → ∃ k l, x.Aa = [k, l] ∧ XE ρ d k ∧ XE ρ d l := fun e => by
    obtain ⟨a, b, e⟩ := qxs (by rw [k3 (by omega), e])
    exact ⟨a, b, e, rec_ a (by rw [e]; simp), rec_ b (by rw [e]; simp)⟩
   rcases operands_len hk k2 with ⟨q1, e⟩ | ⟨q1, e⟩ | ⟨q1, e, e2⟩ | ⟨q1, e⟩ | ⟨q1, e⟩
   ·exact .inr (.inr (.inr (.inr (.inr ⟨by omega, two e⟩))))
   ·obtain ⟨a, e⟩ := qwq (by rw [k3 (by omega), e])
    exact .inr (.inr (.inr (.inr (.inl ⟨.inr q1, a, e, rec_ a (by rw [e]; simp)⟩))))
   ·exact .inr (.inr (.inr (.inr (.inr ⟨.inr (.inr (.inr (.inr (.inr ⟨q1, e2⟩)))), two e⟩))))
   ·have e0 : x.Aa = [] := qxt (by rw [k3 (by omega), e])
    rcases q1 with q1 | q1 | q1 | q1
    ·exact .inl ⟨q1, qmw h1 q1 hk k2, e0⟩
    ·exact .inr (.inl ⟨q1, qmx h1 q1 hk k2, e0⟩)
    ·exact .inr (.inr (.inl ⟨q1, e0⟩))
    ·refine .inr (.inr (.inr (.inl ⟨q1, fun hz => ?_, e0⟩)))
     unfold tyN at ht
     rw [qx1 (by omega), qx1 (by omega), qx1 (by omega), qx2 q1, qx2 hz] at ht
     cases ht
   ·unfold tyN at ht
    rw [qx1 (by omega), qx1 (by omega), qx1 (by omega), qx1 (by omega), qx2 q1] at ht
    by_cases q0 : (fnc x.Ac).2 = 0
    ·rw [qx2 q0] at ht; cases ht
    ·rw [qx1 q0] at ht
     by_cases q3 : ts = [(fnc x.Ac).1]
     ·have hl := kidsE_len q
      obtain ⟨a, e'⟩ := qwq (l := x.Aa) (by rw [← hl, q3]; rfl)
      exact .inr (.inr (.inr (.inr (.inl ⟨.inl ⟨q1, q0⟩, a, e', rec_ a (by rw [e']; simp)⟩))))
     ·rw [qx1 q3] at ht; cases ht
theorem qdf {σ : Sg} : ∀ (d b : Nat) (x : M), (cE d σ b x).length ≤ 6 * cnt d x
 | 0, b, x => by simp [cE]
 | d + 1, b, x => by
  rw [cE, cnt_eq]
  by_cases q20 : x.Ab = 20; · rw [qx2 q20]; simp; omega
  by_cases q21 : x.Ab = 21; · rw [qx1 q20, qx2 q21]; simp; omega
  by_cases q22 : x.Ab = 22; · rw [qx1 q20, qx1 q21, qx2 q22, qcq]; omega
  by_cases q23 : x.Ab = 23; · rw [qx1 q20, qx1 q21, qx1 q22, qx2 q23]; simp; omega
  rw [qx1 q20, qx1 q21, qx1 q22, qx1 q23]
  split
  ·rename_i k e
   have := qdf (σ := σ) d b k
   rw [e, cntL_cons]
   simp only [List.length_append, List.length_cons, List.length_nil]; omega
  ·rename_i k l e
   rw [e, cntL_cons, cntL_cons]
   have h1 := qdf (σ := σ) d b k
   split
   ·have h2 := qdf (σ := σ) d (b + (cE d σ b k).length + 1) l
    simp only [List.length_append, List.length_cons, qcq]; omega
   ·split
    ·have h2 := qdf (σ := σ) d (b + (cE d σ b k).length + 5) l
     simp only [List.length_append, List.length_cons, qcq]; omega
    ·have h2 := qdf (σ := σ) d (b + (cE d σ b k).length) l
     simp only [List.length_append, List.length_cons, List.length_nil]; omega
  ·simp
def sgP (nm : List Jj) : Sg := fun s => (nm.reverse.find? (fun b => decide (b.name = s))).map (·.slot)
theorem qbe {C : List I} {nm : List Jj} {k op n : Int} {s : Str} (h : C.length ≤ 1000000) : Jf ⟨C, nm, k⟩ op n s = some ((C.length : Int), ⟨C ++ [⟨op, n, s⟩], nm, k⟩) := by
 unfold Jf
 rw [qad (by simp only [List.length_cons, List.length_nil, lim]; omega), qad (by simp only [List.length_append, List.length_cons, List.length_nil]; constructor <;> omega)]
 simp
theorem qua {C D : List I} {i : I} {nm : List Jj} {k : Int} : JC ⟨C ++ i :: D, nm, k⟩ (C.length : Int) = some ⟨C ++ ⟨i.Op, ((C ++ i :: D).length : Int), i.S⟩ :: D, nm, k⟩ := by
 unfold JC ix
 rw [qx2 (by omega), show ((C.length : Nat) : Int).toNat = C.length from by simp]
 simp
theorem qfl {L C D : List I} {i : I} {j : Int} {nm : List Jj} {k : Int} (t : Nat) (hL : L = C ++ i :: D) (hj : j = (C.length : Int)) (ht : L.length = t) : JC ⟨L, nm, k⟩ j = some ⟨C ++ ⟨i.Op, (t : Int), i.S⟩ :: D, nm, k⟩ := by
 subst hL hj ht; exact qua
theorem qkl {C : List I} {nm : List Jj} {k : Int} {b : Bool} (h : C.length ≤ 900000) : J4 ⟨C, nm, k⟩ b = some ⟨C ++ tr b, nm, k⟩ := by
 unfold J4
 cases b with
 | true => rw [qx2 rfl, qbe (by omega), qx0, qbe (by simp; omega), qx0, qbe (by simp; omega), qx0]; simp [tr]
 | false => rw [qx1 (by simp), qbe (by omega), qx0, qbe (by simp; omega), qx0, qbe (by simp; omega), qx0]; simp [tr]
theorem qju {C : List I} {nm : List Jj} {k : Int} {s : Str} (hC : C.length ≤ 1000000) (hl : nm.length ≤ 100000) : ∀ (j n : Nat), j ≤ nm.length → j + 1 ≤ n →
  J7 ⟨C, nm, k⟩ s n ((j : Int) - 1) = some (match (nm.take j).reverse.find? (fun b => decide (b.name = s)) with
   | some b => Fl.ret ⟨C ++ [⟨3, b.slot, []⟩], nm, k⟩
   | none => Fl.go (-1))
 | 0, n + 1, _, _ => by
  rw [J7, qx1 (by simp)]; simp
 | j + 1, n + 1, hj, hn => by
  have hlt : j < nm.length := by omega
  rw [J7, qx2 (by simp), show (((j + 1 : Nat) : Int) - 1) = (j : Int) by omega]
  simp only
  rw [ixn hlt, qx0, qx0, List.take_succ_eq_append_getElem hlt, List.reverse_append, List.reverse_cons, List.reverse_nil, List.nil_append, List.cons_append, List.find?_cons]
  by_cases q : nm[j].name = s
  ·rw [qx2 (by simpa using q), qbe hC, qx0, decide_eq_true q]
  ·rw [qx1 (by simpa using q), qad (by constructor <;> omega), qju hC hl j n (by omega) (by omega), decide_eq_false q]
   rfl
theorem qub {C : List I} {nm : List Jj} {k : Int} {s : Str} {n : Nat} (hC : C.length ≤ 1000000) (hl : nm.length ≤ 100000) (hn : nm.length + 1 ≤ n) : Jbm n ⟨C, nm, k⟩ s = some ⟨C ++ [nmI (sgP nm) s], nm, k⟩ := by
 unfold Jbm
 rw [qad (by simp only []; constructor <;> omega)]
 have h := qju (s := s) (k := k) hC hl nm.length n (by omega) hn
 rw [List.take_length] at h
 simp only at h ⊢
 rw [h, qx0]
 unfold nmI sgP
 cases q : nm.reverse.find? (fun b => decide (b.name = s)) with
 | some b => rw [qeo]; rfl
 | none => rw [el_go, qbe hC, qx0]; rfl
theorem qmy {c : UInt8} (h : isD c = true) : Go.Lib.digitVal c = some (c.toNat - 48) := by
 simp only [isD, Bool.and_eq_true, decide_eq_true_eq] at h
 unfold Go.Lib.digitVal
 rw [qx2 (by omega)]
theorem qjv : ∀ (s : Str) (a : Nat), s.all isD = true → Go.Lib.decFrom a s = some (s.foldl (fun n c => 10 * n + (c.toNat - 48)) a)
 | [], a, _ => rfl
 | c :: s, a, h => by
  simp only [List.all_cons, Bool.and_eq_true] at h
  rw [Go.Lib.decFrom, qmy h.1]
  simp only
  rw [qjv s _ h.2, List.foldl_cons, Nat.mul_comm a 10]
theorem qn2 : ∀ (s : Str) (a : Nat), s.all isD = true → s.foldl (fun (n : Int) c => 10 * n + ((c.toNat : Int) - 48)) (a : Int) = ((s.foldl (fun n c => 10 * n + (c.toNat - 48)) a : Nat) : Int)
 | [], a, _ => rfl
 | c :: s, a, h => by
  simp only [List.all_cons, Bool.and_eq_true] at h
  have h1 := h.1
  simp only [isD, Bool.and_eq_true, decide_eq_true_eq] at h1
  rw [List.foldl_cons, List.foldl_cons, ← qn2 s _ h.2]
  congr 1
  omega
theorem qp8 {s : Str} (h : nmr s = true) : s.all isD = true ∧ s.length ≤ 9 ∧ 1 ≤ s.length := by
 cases s with
 | nil => simp [nmr] at h
 | cons c t =>
  simp only [nmr, Bool.and_eq_true, decide_eq_true_eq] at h
  exact ⟨by rw [List.all_cons, h.1.1, h.1.2]; rfl, by simp; omega, by simp⟩
theorem qvi {s : Str} (h : nmr s = true) : qok s = some (num s, none) := by
 obtain ⟨h1, h2, h3⟩ := qp8 h
 unfold qok
 rw [qx2 (by omega)]
 have e : Go.Lib.atoi s = some (num s) := by
  cases s with
  | nil => simp at h3
  | cons c t =>
   have hc : isD c = true := by simp only [List.all_cons, Bool.and_eq_true] at h1; exact h1.1
   simp only [isD, Bool.and_eq_true, decide_eq_true_eq] at hc
   have n1 : (c == 45) = false := by
    rw [beq_eq_false_iff_ne]; intro e; subst e; simp at hc
   have n2 : (c == 43) = false := by
    rw [beq_eq_false_iff_ne]; intro e; subst e; simp at hc
   rw [Go.Lib.atoi, n1, n2]
   simp only [Bool.false_eq_true, if_false]
   rw [Go.Lib.decNat]
   simp only [List.isEmpty_cons, Bool.false_eq_true, if_false]
   rw [qjv _ _ h1, Option.map_some, num, ← qn2 _ 0 h1]
   rfl
 rw [e]; rfl
theorem qvj {d b : Nat} {σ : Sg} {x : M} (h : x.Ab = 20) : cE (d + 1) σ b x = [⟨1, num x.Ac, []⟩] := by rw [cE, qx2 h]
theorem qvk {d b : Nat} {σ : Sg} {x : M} (h : x.Ab = 21) : cE (d + 1) σ b x = [⟨2, 0, x.Ac⟩] := by rw [cE, qx1 (by omega), qx2 h]
theorem qvl {d b : Nat} {σ : Sg} {x : M} (h : x.Ab = 22) : cE (d + 1) σ b x = tr (decide (x.Ac = qvh)) := by rw [cE, qx1 (by omega), qx1 (by omega), qx2 h]
theorem qvm {d b : Nat} {σ : Sg} {x : M} (h : x.Ab = 23) : cE (d + 1) σ b x = [nmI σ x.Ac] := by rw [cE, qx1 (by omega), qx1 (by omega), qx1 (by omega), qx2 h]
theorem qvn {d b : Nat} {σ : Sg} {x k : M} (h : x.Ab = 24) (hk : x.Aa = [k]) : cE (d + 1) σ b x = cE d σ b k ++ [⟨6, 0, x.Ac⟩] := by
 rw [cE, qx1 (by omega), qx1 (by omega), qx1 (by omega), qx1 (by omega), hk]; simp only; rw [qx2 h]
theorem qvo {d b : Nat} {σ : Sg} {x k : M} (h : x.Ab = 15) (hk : x.Aa = [k]) : cE (d + 1) σ b x = cE d σ b k ++ [⟨8, 0, []⟩] := by
 rw [cE, qx1 (by omega), qx1 (by omega), qx1 (by omega), qx1 (by omega), hk]; simp only; rw [qx1 (by omega)]
theorem qvp {d b : Nat} {σ : Sg} {x k l : M} (h : x.Ab = 14) (hk : x.Aa = [k, l]) : cE (d + 1) σ b x = cE d σ b k ++ ⟨10, (b + (cE d σ b k).length + 1 + (cE d σ (b + (cE d σ b k).length + 1) l).length + 1 : Nat), []⟩ :: (cE d σ (b + (cE d σ b k).length + 1) l ++ ⟨9, (b + (cE d σ b k).length + 1 + (cE d σ (b + (cE d σ b k).length + 1) l).length + 4 : Nat), []⟩ :: tr false) := by
 rw [cE, qx1 (by omega), qx1 (by omega), qx1 (by omega), qx1 (by omega), hk]; simp only; rw [qx2 h]
theorem qvq {d b : Nat} {σ : Sg} {x k l : M} (h : x.Ab = 13) (hk : x.Aa = [k, l]) : cE (d + 1) σ b x = cE d σ b k ++ ⟨10, (b + (cE d σ b k).length + 5 : Nat), []⟩ :: (tr true ++ ⟨9, (b + (cE d σ b k).length + 5 + (cE d σ (b + (cE d σ b k).length + 5) l).length : Nat), []⟩ :: cE d σ (b + (cE d σ b k).length + 5) l) := by
 rw [cE, qx1 (by omega), qx1 (by omega), qx1 (by omega), qx1 (by omega), hk]; simp only; rw [qx1 (by omega), qx2 h]
theorem qvr {d b : Nat} {σ : Sg} {x k l : M} (h : x.Ab = 17 ∨ x.Ab = 18 ∨ x.Ab = 19 ∨ x.Ab = 16) (hk : x.Aa = [k, l]) : cE (d + 1) σ b x = cE d σ b k ++ (cE d σ (b + (cE d σ b k).length) l ++ [⟨7, 0, opw x⟩]) := by
 rw [cE, qx1 (by omega), qx1 (by omega), qx1 (by omega), qx1 (by omega), hk]; simp only; rw [qx1 (by omega), qx1 (by omega)]
theorem ix0 {α : Type} {a : α} {l : List α} : ix (a :: l) 0 = some a := rfl
theorem ix1 {α : Type} {a b : α} {l : List α} : ix (a :: b :: l) 1 = some b := rfl
theorem qwr {n : Nat} {f : Cp → M → Option Cp} {c c1 c2 : Cp} {x k l : M} {w : Str} (hk : x.Aa = [k, l]) (h1 : f c k = some c1) (h2 : f c1 l = some c2) (hl : c2.code.length ≤ 1000000) :
  Jad f n c x w = some ⟨c2.code ++ [⟨7, 0, w⟩], c2.names, c2.Ap⟩ := by
 unfold Jad
 rw [hk, ix0, qx0, h1, qx0, ix1, qx0, h2, qx0, qbe hl, qx0]
theorem qxu {f : Cp → M → Option Cp} {C A B : List I} {nm : List Jj} {z : Int} {k l : M} (h1 : f ⟨C, nm, z⟩ k = some ⟨C ++ A, nm, z⟩) (h2 : f ⟨C ++ A ++ [⟨10, 0, []⟩], nm, z⟩ l = some ⟨C ++ A ++ [⟨10, 0, []⟩] ++ B, nm, z⟩) (hl : C.length + A.length + B.length ≤ 800000) :
  ((f ⟨C, nm, z⟩ k).bind fun x95 => (Jf x95 10 0 []).bind fun x97 => (f x97.2 l).bind fun x103 => (Jf x103 9 0 []).bind fun x105 => (JC x105.2 x97.1).bind fun x108 =>
   (J4 x108 false).bind fun x110 => (JC x110 x105.1).bind fun x113 => some x113) = some ⟨C ++ (A ++ ⟨10, (C.length + A.length + 1 + B.length + 1 : Nat), []⟩ :: (B ++ ⟨9, (C.length + A.length + 1 + B.length + 4 : Nat), []⟩ :: tr false)), nm, z⟩ := by
 rw [h1, qx0, qbe (by simp; omega), qx0]
 simp only
 rw [h2, qx0, qbe (by simp; omega), qx0]
 simp only
 rw [qfl (C := C ++ A) (i := ⟨10, 0, []⟩) (D := B ++ [⟨9, 0, []⟩]) (C.length + A.length + 1 + B.length + 1) (by simp) rfl (by simp; omega), qx0, qkl (by simp; omega), qx0]
 rw [qfl (C := C ++ A ++ (⟨10, (C.length + A.length + 1 + B.length + 1 : Nat), []⟩ : I) :: B) (i := ⟨9, 0, []⟩) (D := tr false) (C.length + A.length + 1 + B.length + 4) (by simp) (by simp) (by simp [qcq]; omega), qx0]
 simp only [List.append_assoc, List.cons_append, List.nil_append]
theorem por {f : Cp → M → Option Cp} {C A B : List I} {nm : List Jj} {z : Int} {k l : M} (h1 : f ⟨C, nm, z⟩ k = some ⟨C ++ A, nm, z⟩)
  (h2 : f ⟨C ++ (A ++ ⟨10, (C.length + A.length + 5 : Nat), []⟩ :: (tr true ++ [⟨9, 0, []⟩])), nm, z⟩ l = some ⟨C ++ (A ++ ⟨10, (C.length + A.length + 5 : Nat), []⟩ :: (tr true ++ [⟨9, 0, []⟩])) ++ B, nm, z⟩) (hl : C.length + A.length + B.length ≤ 800000) :
  ((f ⟨C, nm, z⟩ k).bind fun x121 => (Jf x121 10 0 []).bind fun x123 => (J4 x123.2 true).bind fun x125 => (Jf x125 9 0 []).bind fun x127 => (JC x127.2 x123.1).bind fun x130 =>
   (f x130 l).bind fun x136 => (JC x136 x127.1).bind fun x139 => some x139) = some ⟨C ++ (A ++ ⟨10, (C.length + A.length + 5 : Nat), []⟩ :: (tr true ++ ⟨9, (C.length + A.length + 5 + B.length : Nat), []⟩ :: B)), nm, z⟩ := by
 rw [h1, qx0, qbe (by simp; omega), qx0]
 simp only
 rw [qkl (by simp; omega), qx0, qbe (by simp [qcq]; omega), qx0]
 simp only
 rw [qfl (C := C ++ A) (i := ⟨10, 0, []⟩) (D := tr true ++ [⟨9, 0, []⟩]) (C.length + A.length + 5) (by simp) (by simp) (by simp [qcq]; omega), qx0, List.append_assoc]
 simp only
 rw [h2, qx0]
 rw [qfl (C := C ++ (A ++ ⟨10, (C.length + A.length + 5 : Nat), []⟩ :: tr true)) (i := ⟨9, 0, []⟩) (D := B) (C.length + A.length + 5 + B.length) (by simp) (by simp [qcq]) (by simp [qcq]; omega), qx0]
 simp only [List.append_assoc, List.cons_append, List.nil_append]
theorem qmz {ρ : Env} {nm : List Jj} {z : Int} (hnm : nm.length ≤ 100000) : ∀ (d n : Nat) (C : List I) (x : M), XE ρ d x → d + 200000 ≤ n → C.length + 6 * cnt d x ≤ 800000 →
  JD n ⟨C, nm, z⟩ x = some ⟨C ++ cE d (sgP nm) C.length x, nm, z⟩
 | 0, _, _, _, h, _, _ => h.elim
 | d + 1, 0, _, _, _, hn, _ => by omega
 | d + 1, n + 1, C, x, ⟨h1, h2⟩, hn, hC => by
  rw [cnt_eq] at hC
  rw [JD]
  rcases h2 with ⟨q, ht, hk⟩ | ⟨q, ht, hk⟩ | ⟨q, hk⟩ | ⟨q, ht, hk⟩ | ⟨q, k, hk, hx⟩ | ⟨q, k, l, hk, hx, hy⟩
  ·rw [qx2 (by simpa using q), qvi ht, qx0, qx1 (by simp), qbe (by omega), qx0, qvj q]
  ·rw [qx1 (by simp; omega), qx2 (by simpa using q), qbe (by omega), qx0, qvk q]
  ·rw [qx1 (by simp; omega), qx1 (by simp; omega), qx2 (by simpa using q), qkl (by omega), qx0, qvl q]; rfl
  ·rw [qx1 (by simp; omega), qx1 (by simp; omega), qx1 (by simp; omega), qx2 (by simpa using q), qub (by omega) hnm (by omega), qx0, qvm q]
  ·rw [hk, cntL_cons] at hC
   have hl := qdf (σ := sgP nm) d C.length k
   have e := qmz (z := z) hnm d n C k hx (by omega) (by omega)
   rcases q with ⟨q, _⟩ | q
   ·rw [qx1 (by simp; omega), qx1 (by simp; omega), qx1 (by simp; omega), qx1 (by simp; omega), qx2 (by simpa using q), hk, ix0, qx0, e, qx0, qbe (by simp; omega), qx0, qvn q hk, List.append_assoc]
   ·rw [qx1 (by simp; omega), qx1 (by simp; omega), qx1 (by simp; omega), qx1 (by simp; omega), qx1 (by simp; omega), qx2 (by simpa using q), hk, ix0, qx0, e, qx0, qbe (by simp; omega), qx0, qvo q hk, List.append_assoc]
  ·rw [hk, cntL_cons, cntL_cons] at hC
   have hl := qdf (σ := sgP nm) d C.length k
   have e := qmz (z := z) hnm d n C k hx (by omega) (by omega)
   have both : ∀ w, opw x = w → (x.Ab = 17 ∨ x.Ab = 18 ∨ x.Ab = 19 ∨ x.Ab = 16) → Jad (JD n) n ⟨C, nm, z⟩ x w = some ⟨C ++ cE (d + 1) (sgP nm) C.length x, nm, z⟩ := fun w hw hq => by
    have e2 := qmz (z := z) hnm d n (C ++ cE d (sgP nm) C.length k) l hy (by omega) (by simp only [List.length_append]; omega)
    have hl2 := qdf (σ := sgP nm) d (C ++ cE d (sgP nm) C.length k).length l
    rw [qwr hk e e2 (by simp only [List.length_append] at hl2 ⊢; omega), qvr hq hk, hw]
    simp only [List.length_append, List.append_assoc]
   by_cases q17 : x.Ab = 17
   ·rw [qx1 (by simp; omega), qx1 (by simp; omega), qx1 (by simp; omega), qx1 (by simp; omega), qx1 (by simp; omega), qx1 (by simp; omega), qx2 (by simpa using q17), both [43] (by simp [opw, q17]) (by omega), qx0]
   by_cases q18 : x.Ab = 18
   ·rw [qx1 (by simp; omega), qx1 (by simp; omega), qx1 (by simp; omega), qx1 (by simp; omega), qx1 (by simp; omega), qx1 (by simp; omega), qx1 (by simp; omega), qx2 (by simpa using q18), both [45] (by simp [opw, q18]) (by omega), qx0]
   by_cases q19 : x.Ab = 19
   ·rw [qx1 (by simp; omega), qx1 (by simp; omega), qx1 (by simp; omega), qx1 (by simp; omega), qx1 (by simp; omega), qx1 (by simp; omega), qx1 (by simp; omega), qx1 (by simp; omega), qx2 (by simpa using q19), both [42] (by simp [opw, q19]) (by omega), qx0]
   by_cases q16 : x.Ab = 16
   ·rw [qx1 (by simp; omega), qx1 (by simp; omega), qx1 (by simp; omega), qx1 (by simp; omega), qx1 (by simp; omega), qx1 (by simp; omega), qx1 (by simp; omega), qx1 (by simp; omega), qx1 (by simp; omega), qx2 (by simpa using q16), both x.Ac (by simp [opw, q16]) (by omega), qx0]
   by_cases q14 : x.Ab = 14
   ·have hl2 := qdf (σ := sgP nm) d (C.length + (cE d (sgP nm) C.length k).length + 1) l
    have e2 := qmz (z := z) hnm d n (C ++ cE d (sgP nm) C.length k ++ [⟨10, 0, []⟩]) l hy (by omega) (by simp only [List.length_append, List.length_cons, List.length_nil]; omega)
    simp only [List.length_append, List.length_cons, List.length_nil, Nat.zero_add] at e2
    have h := qxu e e2 (by omega)
    rw [qx1 (by simp; omega), qx1 (by simp; omega), qx1 (by simp; omega), qx1 (by simp; omega), qx1 (by simp; omega), qx1 (by simp; omega), qx1 (by simp; omega), qx1 (by simp; omega), qx1 (by simp; omega), qx1 (by simp; omega), qx2 (by simpa using q14), hk, ix0, qx0, ix1]
    simp only [qx0] at h ⊢
    rw [h, qvp q14 hk]
   ·have q13 : x.Ab = 13 := by omega
    have hl2 := qdf (σ := sgP nm) d (C.length + (cE d (sgP nm) C.length k).length + 5) l
    have e2 := qmz (z := z) hnm d n (C ++ (cE d (sgP nm) C.length k ++ ⟨10, (C.length + (cE d (sgP nm) C.length k).length + 5 : Nat), []⟩ :: (tr true ++ [⟨9, 0, []⟩]))) l hy (by omega) (by simp only [List.length_append, List.length_cons, List.length_nil, qcq]; omega)
    rw [show (C ++ (cE d (sgP nm) C.length k ++ (⟨10, (C.length + (cE d (sgP nm) C.length k).length + 5 : Nat), []⟩ : I) :: (tr true ++ [⟨9, 0, []⟩]))).length = C.length + (cE d (sgP nm) C.length k).length + 5 by simp [qcq]; omega] at e2
    have h := por e e2 (by omega)
    rw [qx1 (by simp; omega), qx1 (by simp; omega), qx1 (by simp; omega), qx1 (by simp; omega), qx1 (by simp; omega), qx1 (by simp; omega), qx1 (by simp; omega), qx1 (by simp; omega), qx1 (by simp; omega), qx1 (by simp; omega), qx1 (by simp; omega), qx2 (by simpa using q13), hk, ix0, qx0, ix1]
    simp only [qx0] at h ⊢
    rw [h, qvq q13 hk]
def acw (x : M) : Option Str :=
 if x.Ab = 4 then some x.Ac
 else if x.Ab = 5 then some ([104, 101, 97, 100, 101, 114, 58] ++ x.Ac)
 else if x.Ab = 6 then some ([118, 97, 114, 121, 58] ++ x.Ac)
 else if x.Ab = 7 then some [116, 97, 103]
 else if x.Ab = 8 then some [116, 116, 108]
 else if x.Ab = 9 then some [100, 101, 110, 121]
 else if x.Ab = 10 then some [112, 97, 115, 115]
 else if x.Ab = 11 then some [116, 111, 107, 101, 110]
 else none
def acs (x : M) : List I := match acw x with
 | some w => [⟨11, 0, w⟩]
 | none => []
theorem quc (x : M) : (acs x).length ≤ 1 := by unfold acs; split <;> simp
def foldC (g : Sg → Int → Nat → M → List I × Int × Sg) : Sg → Int → Nat → List M → List I × Int
 | _, k, _, [] => ([], k)
 | σ, k, b, x :: l => ((g σ k b x).1 ++ (foldC g (g σ k b x).2.2 (g σ k b x).2.1 (b + (g σ k b x).1.length) l).1, (foldC g (g σ k b x).2.2 (g σ k b x).2.1 (b + (g σ k b x).1.length) l).2)
def upd (σ : Sg) (s : Str) (k : Int) : Sg := fun q => if s = q then some k else σ q
def if2 (b : Nat) (A T : List I) : List I := A ++ ⟨10, (b + A.length + 1 + T.length : Nat), []⟩ :: T
def if3 (b : Nat) (A T O : List I) : List I := A ++ ⟨10, (b + A.length + 1 + T.length + 1 : Nat), []⟩ :: (T ++ ⟨9, (b + A.length + 1 + T.length + 1 + O.length : Nat), []⟩ :: O)
def hdC (d : Nat) (σ : Sg) (b : Nat) : List M → List I
 | [] => []
 | e :: _ => cE d σ b e
def cS : Nat → Sg → Int → Nat → M → List I × Int × Sg
 | 0, σ, k, _, _ => ([], k, σ)
 | d + 1, σ, k, b, x =>
  if x.Ab = 2 then match x.Aa with
   | [e, t] => (if2 b (cE d σ b e) (foldC (cS d) σ k (b + (cE d σ b e).length + 1) t.Aa).1, (foldC (cS d) σ k (b + (cE d σ b e).length + 1) t.Aa).2, σ)
   | [e, t, o] => (if3 b (cE d σ b e) (foldC (cS d) σ k (b + (cE d σ b e).length + 1) t.Aa).1 (foldC (cS d) σ (foldC (cS d) σ k (b + (cE d σ b e).length + 1) t.Aa).2 (b + (cE d σ b e).length + 1 + (foldC (cS d) σ k (b + (cE d σ b e).length + 1) t.Aa).1.length + 1) (brn o)).1,
     (foldC (cS d) σ (foldC (cS d) σ k (b + (cE d σ b e).length + 1) t.Aa).2 (b + (cE d σ b e).length + 1 + (foldC (cS d) σ k (b + (cE d σ b e).length + 1) t.Aa).1.length + 1) (brn o)).2, σ)
   | _ => ([], k, σ)
  else if x.Ab = 3 then (hdC d σ b x.Aa ++ [⟨4, k, []⟩], k + 1, upd σ x.Ac k)
  else (hdC d σ b x.Aa ++ acs x, k, σ)
theorem qws {d b : Nat} {σ : Sg} {k : Int} {x e t : M} (h : x.Ab = 2) (hk : x.Aa = [e, t]) {T : List I × Int} (hT : foldC (cS d) σ k (b + (cE d σ b e).length + 1) t.Aa = T) : cS (d + 1) σ k b x = (if2 b (cE d σ b e) T.1, T.2, σ) := by
 rw [cS, qx2 h, hk]; simp only; rw [hT]
theorem qwt {d b : Nat} {σ : Sg} {k : Int} {x e t o : M} (h : x.Ab = 2) (hk : x.Aa = [e, t, o]) {T O : List I × Int} (hT : foldC (cS d) σ k (b + (cE d σ b e).length + 1) t.Aa = T)
  (hO : foldC (cS d) σ T.2 (b + (cE d σ b e).length + 1 + T.1.length + 1) (brn o) = O) : cS (d + 1) σ k b x = (if3 b (cE d σ b e) T.1 O.1, O.2, σ) := by
 rw [cS, qx2 h, hk]; simp only; rw [hT, hO]
theorem qlo {d b : Nat} {σ : Sg} {k : Int} {x : M} (h : x.Ab = 3) : cS (d + 1) σ k b x = (hdC d σ b x.Aa ++ [⟨4, k, []⟩], k + 1, upd σ x.Ac k) := by
 rw [cS, qx1 (by omega), qx2 h]
theorem qlp {d b : Nat} {σ : Sg} {k : Int} {x : M} (h2 : x.Ab ≠ 2) (h3 : x.Ab ≠ 3) : cS (d + 1) σ k b x = (hdC d σ b x.Aa ++ acs x, k, σ) := by
 rw [cS, qx1 h2, qx1 h3]
theorem qp9 {d b : Nat} {σ : Sg} : ∀ (l : List M), (hdC d σ b l).length ≤ 6 * cntL d l
 | [] => by simp [hdC]
 | e :: l => by
  have := qdf (σ := σ) d b e
  rw [hdC, cntL_cons]; omega
theorem qce {d : Nat} {g : Sg → Int → Nat → M → List I × Int × Sg} : ∀ (l : List M) (σ : Sg) (k : Int) (b : Nat), (∀ x ∈ l, ∀ σ k b, (g σ k b x).1.length ≤ 6 * cnt d x ∧ k ≤ (g σ k b x).2.1 ∧ (g σ k b x).2.1 ≤ k + cnt d x) → (foldC g σ k b l).1.length ≤ 6 * cntL d l ∧ k ≤ (foldC g σ k b l).2 ∧ (foldC g σ k b l).2 ≤ k + cntL d l
 | [], σ, k, b, _ => by simp [foldC, cntL]
 | x :: l, σ, k, b, h => by
  obtain ⟨h1, h2, h3⟩ := h x (by simp) σ k b
  obtain ⟨g1, g2, g3⟩ := qce (d := d) l (g σ k b x).2.2 (g σ k b x).2.1 (b + (g σ k b x).1.length) fun q hq => h q (by simp [hq])
  rw [foldC, cntL_cons]
  simp only [List.length_append]
  omega
theorem qes : ∀ (d : Nat) (x : M), Ok d x → ∀ (σ : Sg) (k : Int) (b : Nat), (cS d σ k b x).1.length ≤ 6 * cnt d x ∧ k ≤ (cS d σ k b x).2.1 ∧ (cS d σ k b x).2.1 ≤ k + cnt d x
 | 0, x, h, _, _, _ => h.elim
 | d + 1, x, h, σ, k, b => by
  obtain ⟨h1, h2, h3⟩ := h
  rw [cnt_eq]
  have kidsL : ∀ t ∈ x.Aa, ∀ (σ : Sg) (k : Int) (b : Nat), (foldC (cS d) σ k b t.Aa).1.length ≤ 6 * cnt d t ∧ k ≤ (foldC (cS d) σ k b t.Aa).2 ∧ (foldC (cS d) σ k b t.Aa).2 ≤ k + cnt d t := fun t ht σ k b => by
   have hok := h3 t ht
   cases d with
   | zero => exact hok.elim
   | succ d =>
    obtain ⟨g1, g2, g3⟩ := qce (d := d + 1) (g := cS (d + 1)) t.Aa σ k b fun q hq => qes (d + 1) q (hok.2.2 q hq).succ
    have e : cntL (d + 1) t.Aa = cntL d t.Aa := by
     unfold cntL
     congr 1
     exact List.map_congr_left fun q hq => qkj (hok.2.2 q hq)
    rw [cnt_eq]
    rw [e] at g1 g3
    omega
  have brL : ∀ t ∈ x.Aa, ∀ (σ : Sg) (k : Int) (b : Nat), (foldC (cS d) σ k b (brn t)).1.length ≤ 6 * cnt d t ∧ k ≤ (foldC (cS d) σ k b (brn t)).2 ∧ (foldC (cS d) σ k b (brn t)).2 ≤ k + cnt d t := fun t ht σ k b => by
   obtain ⟨o1, o2⟩ := qjs (h3 t ht)
   obtain ⟨g1, g2, g3⟩ := qce (d := d) (g := cS d) (brn t) σ k b fun q hq => qes d q (o1 q hq)
   omega
  by_cases q2 : x.Ab = 2
  ·rw [cS, qx2 q2]
   split
   ·rename_i e t hk
    have hA := qdf (σ := σ) d b e
    obtain ⟨t1, t2, t3⟩ := kidsL t (by rw [hk]; simp) σ k (b + (cE d σ b e).length + 1)
    rw [hk, cntL_cons, cntL_cons]
    simp only [if2, List.length_append, List.length_cons]
    omega
   ·rename_i e t o hk
    have hA := qdf (σ := σ) d b e
    obtain ⟨t1, t2, t3⟩ := kidsL t (by rw [hk]; simp) σ k (b + (cE d σ b e).length + 1)
    obtain ⟨o1, o2, o3⟩ := brL o (by rw [hk]; simp) σ (foldC (cS d) σ k (b + (cE d σ b e).length + 1) t.Aa).2 (b + (cE d σ b e).length + 1 + (foldC (cS d) σ k (b + (cE d σ b e).length + 1) t.Aa).1.length + 1)
    rw [hk, cntL_cons, cntL_cons, cntL_cons]
    simp only [if3, List.length_append, List.length_cons]
    omega
   ·simp; omega
  ·have hA := qp9 (σ := σ) (d := d) (b := b) x.Aa
   by_cases q3 : x.Ab = 3
   ·rw [qlo q3]
    simp only [List.length_append, List.length_cons, List.length_nil]
    omega
   ·rw [qlp q2 q3]
    have := quc x
    simp only [List.length_append]
    omega
def HB (d : Nat) (f : Cp → List M → Option Cp) : Prop := ∀ (C : List I) (nm : List Jj) (z : Int) (l : List M) (ρ ρ' : Env), (∀ x ∈ l, Gd d x) → foldS (stm d) ρ l = .ok ρ' → l.length ≤ 700 → nm.length + 701 * (d + 1) ≤ 90000 → C.length + 6 * cntL d l ≤ 700000 → 0 ≤ z → z + cntL d l ≤ 1000000 →
 f ⟨C, nm, z⟩ l = some ⟨C ++ (foldC (cS d) (sgP nm) z C.length l).1, nm, (foldC (cS d) (sgP nm) z C.length l).2⟩
theorem qr4 (nm : List Jj) (s : Str) (k : Int) : sgP (nm ++ [⟨s, k⟩]) = upd (sgP nm) s k := by
 funext q
 unfold sgP upd
 rw [List.reverse_append, List.reverse_cons, List.reverse_nil, List.nil_append, List.cons_append, List.find?_cons]
 by_cases h : s = q
 ·rw [decide_eq_true h, qx2 h]; rfl
 ·rw [decide_eq_false h, qx1 h]; rfl
theorem qm0 {m : Nat} {x : M} (hk : x.Ab = 2) (h : JB (m + 1) x = some true) : ∃ e t, t.Ab = 12 ∧ (x.Aa = [e, t] ∨ ∃ o, (o.Ab = 12 ∨ o.Ab = 2) ∧ x.Aa = [e, t, o]) := by
 obtain ⟨l3, k1⟩ := qjt hk h
 have k2 := qp5 hk h
 obtain ⟨m', e, _, hv⟩ := qcj h
 cases e
 obtain ⟨l2, _⟩ := hv hk
 match hx : x.Aa, l2, l3 with
 | [e, t], _, _ => exact ⟨e, t, k1 t (by rw [hx]; rfl), .inl rfl⟩
 | [e, t, o], _, _ =>
  refine ⟨e, t, k1 t (by rw [hx]; rfl), .inr ⟨o, ?_, rfl⟩⟩
  by_cases q : o.Ab = 12
  ·exact .inl q
  ·exact .inr (k2 o (by rw [hx]; simp) q)
 | [], h, _ => simp at h
 | [a], h, _ => simp at h
 | a :: b :: c :: e :: l, _, h => simp at h
theorem qr5 {t : M} (h : t.Ab = 12) : brn t = t.Aa := by unfold brn; rw [qx2 h]
theorem qxh {t : M} (h : t.Ab = 2) : brn t = [t] := by unfold brn; rw [qx1 (by omega)]
set_option maxRecDepth 100000 in
theorem qqa {f : Cp → List M → Option Cp} : ∀ (d n : Nat) (C : List I) (nm : List Jj) (z : Int) (x : M) (ρ ρ' : Env), (∀ e, e ≤ d → HB e f) → x.Ab = 2 → Gd (d + 1) x → stm (d + 1) ρ x = .ok ρ' → d + 250000 ≤ n → nm.length + 701 * (d + 1) ≤ 90000 → C.length + 6 * cnt (d + 1) x ≤ 700000 → 0 ≤ z → z + cnt (d + 1) x ≤ 1000000 →
  Jaf f n ⟨C, nm, z⟩ x = some ⟨C ++ (cS (d + 1) (sgP nm) z C.length x).1, nm, (cS (d + 1) (sgP nm) z C.length x).2.1⟩
 | d, 0, _, _, _, _, _, _, _, _, _, _, hn, _, _, _, _ => by omega
 | d, n + 1, C, nm, z, x, ρ, ρ', hf, q2, hg, hs, hn, hnm, hC, hz, hz2 => by
  obtain ⟨⟨h1, h2, h3⟩, m, hm⟩ := hg
  obtain ⟨m, rfl, hv0, hv2⟩ := qcj hm
  obtain ⟨l2, hb⟩ := hv2 q2
  obtain ⟨e, t, ht12, hk⟩ := qm0 q2 hm
  rw [cnt_eq] at hC hz2
  have hex : ∃ ks, x.Aa = e :: t :: ks := by rcases hk with hk | ⟨o, _, hk⟩ <;> exact ⟨_, hk⟩
  obtain ⟨ks, hks⟩ := hex
  obtain ⟨te, hte, hst⟩ := qgy hks hs
  rcases hst with ⟨q, _⟩ | ⟨_, rfl, hbr⟩ | ⟨_, q, _⟩
  ·omega
  ·have hE : XE ρ' d e := qoq (h3 e (by rw [hks]; simp)) (hv0 e (by rw [hks]; rfl)) hte
   have hT := qhp hbr
   have gd : ∀ k ∈ t :: ks, (∀ q ∈ brn k, Gd d q) ∧ (brn k).length ≤ 700 := fun k hk1 => by
    have hk2 : k ∈ x.Aa := by rw [hks]; simp at hk1 ⊢; exact .inr hk1
    obtain ⟨l', e1, e2, e3⟩ := qeq (h3 k hk2) ((hb k (by rw [hks]; simpa using hk1)).imp (fun h => ⟨h.1, fun q hq => ⟨m, h.2 q hq⟩⟩) fun h => ⟨h.1, m, h.2⟩)
    rw [qis] at e1
    cases e1
    exact ⟨e3, e2⟩
   have hAl := qdf (σ := sgP nm) d C.length e
   rw [hks, cntL_cons, cntL_cons] at hC hz2
   have eA := qmz (z := z) (by omega) d n C e hE (by omega) (by omega) (nm := nm)
   obtain ⟨gt, lt⟩ := gd t (by simp)
   obtain ⟨ρt, hρt⟩ := hT t (by simp)
   obtain ⟨okt, ct⟩ := qjs (h3 t (by rw [hks]; simp))
   rw [qr5 ht12] at gt lt hρt okt ct
   have lT := qce (d := d) (g := cS d) t.Aa (sgP nm) z (C.length + (cE d (sgP nm) C.length e).length + 1) fun q hq => qes d q (okt q hq)
   have eT := hf d (Nat.le_refl _) (C ++ cE d (sgP nm) C.length e ++ [⟨10, 0, []⟩]) nm z t.Aa ρ' ρt gt hρt lt (by omega) (by simp only [List.length_append, List.length_cons, List.length_nil]; omega) hz (by omega)
   simp only [List.length_append, List.length_cons, List.length_nil, Nat.zero_add] at eT
   rw [Jaf, hks, ix0, qx0, eA, qx0, qbe (by simp only [List.length_append]; omega), qx0, ix1, qx0]
   simp only
   rw [eT, qx0]
   generalize hTT : foldC (cS d) (sgP nm) z (C.length + (cE d (sgP nm) C.length e).length + 1) t.Aa = T at lT ⊢
   generalize hAA : cE d (sgP nm) C.length e = A at hAl hTT ⊢
   rcases hk with hk | ⟨o, ho, hk⟩
   ·rw [hks] at hk
    cases hk
    rw [qx2 (by simp), qfl (C := C ++ A) (i := ⟨10, 0, []⟩) (D := T.1) (C.length + A.length + 1 + T.1.length) (by simp) (by simp) (by simp <;> omega), qx0, qws (T := T) q2 hks (by rw [hAA]; exact hTT), hAA]
    simp [if2]
   ·rw [hks] at hk
    cases hk
    have hot : (∀ q ∈ brn o, Gd d q) ∧ (brn o).length ≤ 700 := gd o (by simp)
    obtain ⟨go, lo⟩ := hot
    obtain ⟨ρo, hρo⟩ := hT o (by simp)
    obtain ⟨oko, co⟩ := qjs (h3 o (by rw [hks]; simp))
    rw [cntL_cons] at hC hz2
    rw [qx1 (by simp <;> omega), qbe (by simp only [List.length_append, List.length_cons, List.length_nil]; omega), qx0]
    simp only
    rw [qfl (C := C ++ A) (i := ⟨10, 0, []⟩) (D := T.1 ++ [⟨9, 0, []⟩]) (C.length + A.length + 1 + T.1.length + 1) (by simp) (by simp) (by simp; omega), qx0, show ix [e, t, o] 2 = some o from rfl, qx0, qx0]
    have eO : (if decide (o.Ab = 2) = true then (Jaf f n ⟨C ++ A ++ (⟨10, (C.length + A.length + 1 + T.1.length + 1 : Nat), []⟩ : I) :: (T.1 ++ [⟨9, 0, []⟩]), nm, T.2⟩ o) else f ⟨C ++ A ++ (⟨10, (C.length + A.length + 1 + T.1.length + 1 : Nat), []⟩ : I) :: (T.1 ++ [⟨9, 0, []⟩]), nm, T.2⟩ o.Aa) =
      some ⟨C ++ A ++ (⟨10, (C.length + A.length + 1 + T.1.length + 1 : Nat), []⟩ : I) :: (T.1 ++ [⟨9, 0, []⟩]) ++ (foldC (cS d) (sgP nm) T.2 (C.length + A.length + 1 + T.1.length + 1) (brn o)).1, nm, (foldC (cS d) (sgP nm) T.2 (C.length + A.length + 1 + T.1.length + 1) (brn o)).2⟩ := by
     have len : (C ++ A ++ (⟨10, (C.length + A.length + 1 + T.1.length + 1 : Nat), []⟩ : I) :: (T.1 ++ [⟨9, 0, []⟩])).length = C.length + A.length + 1 + T.1.length + 1 := by simp; omega
     by_cases qo : o.Ab = 2
     ·rw [qx2 (by simpa using qo), qxh qo]
      rw [qxh qo] at go hρo
      obtain ⟨ρ2, ho1, _⟩ := qe3 hρo
      have hgo := go o (by simp)
      cases d with
      | zero => exact hgo.1.elim
      | succ d =>
       have := qqa d n (C ++ A ++ (⟨10, (C.length + A.length + 1 + T.1.length + 1 : Nat), []⟩ : I) :: (T.1 ++ [⟨9, 0, []⟩])) nm T.2 o ρ' ρ2 (fun e he => hf e (by omega)) qo hgo ho1 (by omega) (by omega) (by rw [len]; omega) (by omega) (by omega)
       rw [this, len]
       simp [foldC]
     ·have q12 : o.Ab = 12 := by omega
      rw [qx1 (by simpa using qo), qr5 q12]
      rw [qr5 q12] at go lo hρo oko co
      have := hf d (Nat.le_refl _) (C ++ A ++ (⟨10, (C.length + A.length + 1 + T.1.length + 1 : Nat), []⟩ : I) :: (T.1 ++ [⟨9, 0, []⟩])) nm T.2 o.Aa ρ' ρo go hρo lo (by omega) (by rw [len]; omega) (by omega) (by omega)
      rw [this, len]
    have lO := qce (d := d) (g := cS d) (brn o) (sgP nm) T.2 (C.length + A.length + 1 + T.1.length + 1) fun q hq => qes d q (oko q hq)
    generalize hOO : foldC (cS d) (sgP nm) T.2 (C.length + A.length + 1 + T.1.length + 1) (brn o) = O at eO lO
    have fin : JC ⟨C ++ A ++ (⟨10, (C.length + A.length + 1 + T.1.length + 1 : Nat), []⟩ : I) :: (T.1 ++ [⟨9, 0, []⟩]) ++ O.1, nm, O.2⟩ (((C ++ A ++ [(⟨10, 0, []⟩ : I)] ++ T.1).length : Nat) : Int) = some ⟨C ++ (cS (d + 1) (sgP nm) z C.length x).1, nm, (cS (d + 1) (sgP nm) z C.length x).2.1⟩ := by
     rw [qfl (C := C ++ A ++ (⟨10, (C.length + A.length + 1 + T.1.length + 1 : Nat), []⟩ : I) :: T.1) (i := ⟨9, 0, []⟩) (D := O.1) (C.length + A.length + 1 + T.1.length + 1 + O.1.length) (by simp) (by simp <;> omega) (by simp <;> omega), qwt (T := T) (O := O) q2 hks (by rw [hAA]; exact hTT) (by rw [hAA]; exact hOO), hAA]
     simp [if3]
    by_cases qo : o.Ab = 2
    ·rw [qx2 (by simpa using qo)] at eO ⊢
     rw [eO, qx0, fin, qx0]
    ·rw [qx1 (by simpa using qo)] at eO ⊢
     rw [qx0, eO, qx0, fin, qx0]
  ·omega
theorem stm_other {d : Nat} {ρ ρ' : Env} {x : M} (h : stm (d + 1) ρ x = .ok ρ') : (∃ e ks, x.Aa = e :: ks ∧ ∃ t, tyE d ρ e = .ok t) ∨ x.Aa = [] := by
 cases hk : x.Aa with
 | nil => exact .inr rfl
 | cons e ks =>
  obtain ⟨t, ht, _⟩ := qgy hk h
  exact .inl ⟨e, ks, rfl, t, ht⟩
theorem qsy {C : List I} {nm : List Jj} {z : Int} {x : M} (hC : C.length ≤ 900000) (ht : x.Ac.length ≤ 4200) (q3 : x.Ab ≠ 3) {P : Option Cp} :
  (if decide (x.Ab = 3) = true then P else if decide (x.Ab = 4) then (Jf ⟨C, nm, z⟩ 11 0 x.Ac).bind fun x58 => some x58.2 else
   if decide (x.Ab = 5) then (chk (([104, 101, 97, 100, 101, 114, 58] : Str).length + x.Ac.length ≤ lim)).bind fun _ => (Jf ⟨C, nm, z⟩ 11 0 (([104, 101, 97, 100, 101, 114, 58] : Str) ++ x.Ac)).bind fun x65 => some x65.2 else
   if decide (x.Ab = 6) then (chk (([118, 97, 114, 121, 58] : Str).length + x.Ac.length ≤ lim)).bind fun _ => (Jf ⟨C, nm, z⟩ 11 0 (([118, 97, 114, 121, 58] : Str) ++ x.Ac)).bind fun x72 => some x72.2 else
   if decide (x.Ab = 7) then (Jf ⟨C, nm, z⟩ 11 0 ([116, 97, 103] : Str)).bind fun x76 => some x76.2 else
   if decide (x.Ab = 8) then (Jf ⟨C, nm, z⟩ 11 0 ([116, 116, 108] : Str)).bind fun x80 => some x80.2 else
   if decide (x.Ab = 9) then (Jf ⟨C, nm, z⟩ 11 0 ([100, 101, 110, 121] : Str)).bind fun x84 => some x84.2 else
   if decide (x.Ab = 10) then (Jf ⟨C, nm, z⟩ 11 0 ([112, 97, 115, 115] : Str)).bind fun x88 => some x88.2 else
   if decide (x.Ab = 11) then (Jf ⟨C, nm, z⟩ 11 0 ([116, 111, 107, 101, 110] : Str)).bind fun x92 => some x92.2 else some ⟨C, nm, z⟩) = some ⟨C ++ acs x, nm, z⟩ := by
 unfold acs acw
 rw [qx1 (by simpa using q3)]
 by_cases q4 : x.Ab = 4
 ·rw [qx2 (by simpa using q4), qbe (by omega), qx0, qx2 q4]
 rw [qx1 (by simpa using q4), qx1 q4]
 by_cases q5 : x.Ab = 5
 ·rw [qx2 (by simpa using q5), qad (by simp [lim]; omega), qbe (by omega), qx0, qx2 q5]
 rw [qx1 (by simpa using q5), qx1 q5]
 by_cases q6 : x.Ab = 6
 ·rw [qx2 (by simpa using q6), qad (by simp [lim]; omega), qbe (by omega), qx0, qx2 q6]
 rw [qx1 (by simpa using q6), qx1 q6]
 by_cases q7 : x.Ab = 7
 ·rw [qx2 (by simpa using q7), qbe (by omega), qx0, qx2 q7]
 rw [qx1 (by simpa using q7), qx1 q7]
 by_cases q8 : x.Ab = 8
 ·rw [qx2 (by simpa using q8), qbe (by omega), qx0, qx2 q8]
 rw [qx1 (by simpa using q8), qx1 q8]
 by_cases q9 : x.Ab = 9
 ·rw [qx2 (by simpa using q9), qbe (by omega), qx0, qx2 q9]
 rw [qx1 (by simpa using q9), qx1 q9]
 by_cases q10 : x.Ab = 10
 ·rw [qx2 (by simpa using q10), qbe (by omega), qx0, qx2 q10]
 rw [qx1 (by simpa using q10), qx1 q10]
 by_cases q11 : x.Ab = 11
 ·rw [qx2 (by simpa using q11), qbe (by omega), qx0, qx2 q11]
 rw [qx1 (by simpa using q11), qx1 q11]
 simp
set_option maxRecDepth 100000 in
theorem qwu {f : Cp → List M → Option Cp} {d n : Nat} {C : List I} {nm : List Jj} {z : Int} {x : M} {ρ ρ' : Env} (hf : ∀ e, e ≤ d → HB e f) (hg : Gd (d + 1) x) (hs : stm (d + 1) ρ x = .ok ρ') (hn : d + 250000 ≤ n) (hnm : nm.length + 701 * (d + 1) ≤ 90000) (hC : C.length + 6 * cnt (d + 1) x ≤ 700000) (hz : 0 ≤ z) (hz2 : z + cnt (d + 1) x ≤ 1000000) :
  ∃ nm', JaO f n ⟨C, nm, z⟩ x = some ⟨C ++ (cS (d + 1) (sgP nm) z C.length x).1, nm ++ nm', (cS (d + 1) (sgP nm) z C.length x).2.1⟩ ∧ nm'.length ≤ 1 ∧ sgP (nm ++ nm') = (cS (d + 1) (sgP nm) z C.length x).2.2 := by
 unfold JaO
 by_cases q2 : x.Ab = 2
 ·rw [qx2 (by simpa using q2), qqa d n C nm z x ρ ρ' hf q2 hg hs hn hnm hC hz hz2, qx0]
  refine ⟨[], by simp, by simp, ?_⟩
  rw [List.append_nil, cS, qx2 q2]
  split <;> rfl
 ·rw [qx1 (by simpa using q2)]
  obtain ⟨⟨h1, h2, h3⟩, m, hm⟩ := hg
  obtain ⟨m, rfl, hv0, hv2⟩ := qcj hm
  rw [cnt_eq] at hC hz2
  have key : ∀ (C' : List I), C'.length ≤ 800000 → C' = C ++ hdC d (sgP nm) C.length x.Aa → ∃ nm', (if decide (x.Ab = 3) = true then (Jf ⟨C', nm, z⟩ 4 (⟨C', nm, z⟩ : Cp).Ap ([] : Str)).bind fun x29 =>
    (chk (x29.2.names.length + [(⟨x.Ac, x29.2.Ap⟩ : Jj)].length ≤ lim)).bind fun _ => (chk (InI (x29.2.Ap + 1))).bind fun _ =>
    some (⟨x29.2.code, (x29.2.names ++ [(⟨x.Ac, x29.2.Ap⟩ : Jj)]), (x29.2.Ap + 1)⟩ : Jd) else some ⟨C' ++ acs x, nm, z⟩) = some ⟨C ++ (cS (d + 1) (sgP nm) z C.length x).1, nm ++ nm', (cS (d + 1) (sgP nm) z C.length x).2.1⟩ ∧ nm'.length ≤ 1 ∧ sgP (nm ++ nm') = (cS (d + 1) (sgP nm) z C.length x).2.2 := fun C' hl e => by
   by_cases q3 : x.Ab = 3
   ·rw [qx2 (by simpa using q3), qbe (by omega), qx0]
    simp only
    rw [qad (by simp only [lim, List.length_cons, List.length_nil]; omega), qad (by constructor <;> omega), qlo q3, e]
    exact ⟨[⟨x.Ac, z⟩], by simp, by simp, qr4 _ _ _⟩
   ·rw [qx1 (by simpa using q3), qlp q2 q3, e]
    exact ⟨[], by simp, by simp, by simp⟩
  have hl := qp9 (σ := sgP nm) (d := d) (b := C.length) x.Aa
  rcases stm_other hs with ⟨e, ks, hk, t, ht⟩ | hk
  ·have hE : XE ρ d e := qoq (h3 e (by rw [hk]; simp)) (hv0 e (by rw [hk]; rfl)) ht
   have hc : cnt d e ≤ cntL d x.Aa := by rw [hk, cntL_cons]; omega
   have hAl := qdf (σ := sgP nm) d C.length e
   have eA := qmz (z := z) (by omega) d n C e hE (by omega) (by omega) (nm := nm)
   rw [qx2 (by rw [hk]; simp <;> omega), hk, ix0, qx0, eA, qx0]
   rw [hk] at hl key
   have k := key (C ++ cE d (sgP nm) C.length e) (by simp only [List.length_append]; omega) rfl
   by_cases q3 : x.Ab = 3
   ·rw [qx2 (by simpa using q3)] at k ⊢
    exact k
   ·rw [qsy (by simp only [List.length_append]; omega) h1 q3]
    rw [qx1 (by simpa using q3)] at k
    exact k
  ·rw [qx1 (by rw [hk]; simp)]
   rw [hk] at key
   have k := key C (by omega) (by simp [hdC])
   by_cases q3 : x.Ab = 3
   ·rw [qx2 (by simpa using q3)] at k ⊢
    exact k
   ·rw [qsy (by omega) h1 q3]
    rw [qx1 (by simpa using q3)] at k
    exact k
set_option maxRecDepth 100000 in
theorem qlq {f : Cp → List M → Option Cp} {d n : Nat} (hf : ∀ e, e ≤ d → HB e f) (hn : d + 250000 ≤ n) : ∀ (l : List M) (i : Nat) (C : List I) (nm : List Jj) (z : Int) (ρ ρ' : Env), (∀ x ∈ l, Gd (d + 1) x) → foldS (stm (d + 1)) ρ l = .ok ρ' → nm.length + l.length + 701 * (d + 1) ≤ 90000 → C.length + 6 * cntL (d + 1) l ≤ 700000 → 0 ≤ z → z + cntL (d + 1) l ≤ 1000000 →
  ∃ nm', JX f n l i ⟨C, nm, z⟩ = some ⟨C ++ (foldC (cS (d + 1)) (sgP nm) z C.length l).1, nm ++ nm', (foldC (cS (d + 1)) (sgP nm) z C.length l).2⟩
 | [], i, C, nm, z, ρ, ρ', _, _, _, _, _, _ => ⟨[], by simp [JX, foldC]⟩
 | x :: l, i, C, nm, z, ρ, ρ', hg, hs, hnm, hC, hz, hz2 => by
  obtain ⟨ρ1, hs1, hs2⟩ := qe3 hs
  rw [cntL_cons] at hC hz2
  simp only [List.length_cons] at hnm
  have hgx := hg x (by simp)
  obtain ⟨nm1, e1, e2, e3⟩ := qwu hf hgx hs1 hn (by omega) (C := C) (by omega) hz (by omega) (nm := nm)
  obtain ⟨c1, c2, c3⟩ := qes (d + 1) x hgx.1 (sgP nm) z C.length
  obtain ⟨nm2, g⟩ := qlq hf hn l (i + 1) (C ++ (cS (d + 1) (sgP nm) z C.length x).1) (nm ++ nm1) (cS (d + 1) (sgP nm) z C.length x).2.1 ρ1 ρ' (fun q hq => hg q (by simp [hq])) hs2 (by simp only [List.length_append]; omega) (by simp only [List.length_append]; omega) (by omega) (by omega)
  refine ⟨nm1 ++ nm2, ?_⟩
  rw [JX, e1, qx0, g, e3, foldC]
  simp only [List.append_assoc, List.length_append]
set_option maxRecDepth 100000 in
theorem qsz : ∀ (d n : Nat), d + 300000 ≤ n → HB d (JZ n)
 | d, 0, h => by omega
 | 0, n + 1, _ => fun C nm z l ρ ρ' hg hs hl hnm hC hz hz2 => by
  cases l with
  | nil =>
   rw [JZ, qad (by simp [qa1]), JX, qx0]
   simp only
   rw [qad (by omega)]
   simp only [foldC, List.append_nil]
   rw [show subL nm (0 : Int) (nm.length : Int) = nm by simp [subL]]
  | cons x l => exact (hg x (by simp)).1.elim
 | d + 1, n + 1, hn => fun C nm z l ρ ρ' hg hs hl hnm hC hz hz2 => by
  obtain ⟨nm', e⟩ := qlq (f := JZ n) (d := d) (n := n) (fun e he => qsz e n (by omega)) (by omega) l 0 C nm z ρ ρ' hg hs (by omega) hC hz hz2
  rw [JZ, qad (by simp only [qa1]; omega), e, qx0]
  simp only
  rw [qad (by simp only [List.length_append]; omega)]
  rw [show subL (nm ++ nm') (0 : Int) (nm.length : Int) = nm by simp [subL]]
def haltI : I := ⟨12, 0, []⟩
def prog (d : Nat) (l : List M) : List I := (foldC (cS d) (fun _ => none) 0 0 l).1 ++ [haltI]
set_option maxRecDepth 100000 in
theorem Compile_pure {n d : Nat} {y : M} {b : Bool} (hy : Ok (d + 1) y) (hd : d ≤ 100) (hn : 400000 ≤ n) (hc : cntL d y.Aa ≤ 10000) (hv : JaC n y = some b) :
  JaT n y = some (if b = true then (match foldS (stm d) base y.Aa with
   | .ok _ => if (prog d y.Aa).length ≤ 2048 then (prog d y.Aa, none) else ([], some 5)
   | .error e => ([], some e.2)) else ([], some 2)) := by
 unfold JaT
 rw [qe2 (d := d) hy (by omega) (by omega) hv, qx0]
 cases b with
 | false => rfl
 | true =>
  simp only [if_true]
  unfold chkR
  cases q : foldS (stm d) base y.Aa with
  | error e => rw [qx2 (by simp)]
  | ok ρ =>
   obtain ⟨o1, o2, o3⟩ := hy
   have hv := qgb hv
   have hg : ∀ k ∈ y.Aa, Gd d k := fun k hk => ⟨o3 k hk, n, hv k hk⟩
   have h := qsz d n (by omega) [] [] 0 y.Aa base ρ hg q o2 (by simp only [List.length_nil]; omega) (by simp only [List.length_nil]; omega) (by omega) (by omega)
   rw [qx1 (by simp), h, qx0]
   obtain ⟨l1, l2, l3⟩ := qce (d := d) (g := cS d) y.Aa (fun _ => none) 0 0 fun q hq => qes d q (o3 q hq)
   have e : sgP [] = fun _ => none := rfl
   simp only [List.nil_append, List.length_nil, e]
   rw [qbe (by omega), qx0]
   simp only
   unfold prog haltI
   by_cases q2 : ((foldC (cS d) (fun _ => none) 0 0 y.Aa).1 ++ [(⟨12, 0, []⟩ : I)]).length ≤ 2048
   ·rw [qx1 (by simp only [decide_eq_true_eq]; omega), qx2 q2]
   ·rw [qx2 (by simp only [decide_eq_true_eq]; omega), qx1 q2]
end Rt.Rc
