import Derived.Test.YtmpdebfckeahmaaGreatDoorR
import Derived.Test.YtmpdebfckeahmaaGreatDoorPlain
import Derived.Test.YtmpdebfckeahmaaGreatDoorG2
import Derived.Test.YtmpdebfckeahmaaGreatDoorLS
set_option linter.unusedVariables false
set_option linter.unusedSimpArgs false
open Go Go.SL Go.Proofs Pl
namespace Rt
theorem el_go {ρ σ γ : Type} {y : σ} {f : ρ → Option γ} {g : σ → Option γ} : (Fl.go y : Fl ρ σ).el f g = g y := rfl
theorem el_ret {ρ σ γ : Type} {y : ρ} {f : ρ → Option γ} {g : σ → Option γ} : (Fl.ret y : Fl ρ σ).el f g = f y := rfl
theorem qcy {α : Type} {s : List α} {i : Int} (h0 : 0 ≤ i) (h1 : i < (s.length : Int)) : ∃ x, ix s i = some x := by
 unfold ix
 rw [qzv h0]
 exact ⟨s[i.toNat]'(by omega), List.getElem?_eq_getElem (by omega)⟩
theorem qa8 {α : Type} {b : Bool} {x y : Option α} (h1 : b = true → ∃ r, x = some r) (h2 : b = false → ∃ r, y = some r) : ∃ r, (if b = true then x else y) = some r := by
 cases b with
 | true => exact h1 rfl
 | false => exact h2 rfl
theorem qgv {s : Str} (hs : s.length ≤ 5000) : ∀ (n : Nat) (y : Str) (i : Int), 0 ≤ i → i ≤ (s.length : Int) → (s.length : Int) - i < n → (y.length : Int) + (s.length - i) ≤ 100000 → ∃ r, JaL s n y i = some r ∧ ∀ a b, r = Fl.ret (a, b) → a = 0 ∨ (0 < a ∧ a ≤ (s.length : Int))
 | 0, y, i, h0, h3, h1, h2 => by omega
 | n + 1, y, i, h0, h3, h1, h2 => by
  rw [JaL]
  by_cases hi : i < (s.length : Int)
  ·obtain ⟨c, hc⟩ := qcy h0 hi
   rw [qzv (by simpa using hi), hc, qzt]
   by_cases q : (c.toNat : Int) = 34
   ·rw [qzv (by simpa using q), qab (by constructor <;> omega)]
    exact ⟨_, rfl, fun a b e => by cases e; right; omega⟩
   ·rw [qzu (by simpa using q)]
    by_cases q2 : (c.toNat : Int) = 92
    ·rw [qzv (by simpa using q2), qab (by constructor <;> omega)]
     by_cases q3 : i + 1 = (s.length : Int)
     ·rw [qzv (by simpa using q3)]; exact ⟨_, rfl, fun a b e => by cases e; left; rfl⟩
     ·obtain ⟨d, hd⟩ := qcy (s := s) (i := i + 1) (by omega) (by omega)
      rw [qzu (by simpa using q3), hd, qzt]
      have e2 : ∃ b, (if decide ((d.toNat : Int) ≠ 34) = true then (some d).bind fun x40 => some (decide ((x40.toNat : Int) ≠ 92)) else some false) = some b := qa8 (fun _ => ⟨_, rfl⟩) (fun _ => ⟨_, rfl⟩)
      obtain ⟨b, hb⟩ := e2
      rw [hb, qzt]
      cases b with
      | true => exact ⟨_, qzv rfl, fun a b e => by cases e; left; rfl⟩
      | false =>
       rw [qzu (by simp), qzt, qab (by simp only [lim, List.length_cons, List.length_nil]; omega), qab (by constructor <;> omega)]
       exact qgv hs n _ _ (by omega) (by omega) (by omega) (by simp only [List.length_append, List.length_cons, List.length_nil]; omega)
    ·rw [qzu (by simpa using q2)]
     refine (fun (h : ∀ b : Bool, b = (decide ((c.toNat : Int) < 32) || decide ((c.toNat : Int) > 126)) → _) => h _ rfl) fun b hb => ?_
     rw [← hb]
     cases b with
     | true => exact ⟨_, qzv rfl, fun a b e => by cases e; left; rfl⟩
     | false =>
      rw [qzu (by simp), qab (by simp only [lim, List.length_cons, List.length_nil]; omega), qab (by constructor <;> omega)]
      exact qgv hs n _ _ (by omega) (by omega) (by omega) (by simp only [List.length_append, List.length_cons, List.length_nil]; omega)
  ·rw [qzu (by simpa using hi)]; exact ⟨_, rfl, fun a b e => by cases e⟩
theorem ql5 {s : Str} (hs : s.length ≤ 5000) : ∀ (n : Nat) (i : Int), 0 < i → i ≤ (s.length : Int) → (s.length : Int) - i < n → ∃ r, JaG s n i = some r ∧ 0 < r ∧ r ≤ (s.length : Int)
 | 0, i, h0, h1, h2 => by omega
 | n + 1, i, h0, h1, h2 => by
  rw [JaG]
  by_cases hi : i < (s.length : Int)
  ·obtain ⟨c, hc⟩ := qcy (by omega) hi
   rw [qzv (by simpa using hi), hc, qzt]
   unfold Jba JaS
   rw [qzt]
   have e : ∀ b : Bool, ∃ d, (if b = true then some true else (some c).bind fun x28 => (some (decide ((x28.toNat : Int) ≥ 48) && decide ((x28.toNat : Int) ≤ 57))).bind fun x29 => some x29) = some d := fun b => qa8 (fun _ => ⟨_, rfl⟩) (fun _ => ⟨_, rfl⟩)
   obtain ⟨d, hd⟩ := e _
   rw [hd, qzt]
   cases d with
   | true => rw [qzv rfl, qab (by constructor <;> omega)]; exact ql5 hs n (i + 1) (by omega) (by omega) (by omega)
   | false => exact ⟨i, qzu (by simp), h0, h1⟩
  ·exact ⟨i, qzu (by simpa using hi), h0, h1⟩
theorem ql6 {s : Str} (hs : s.length ≤ 5000) : ∀ (n : Nat) (i : Int), 0 < i → i ≤ (s.length : Int) → (s.length : Int) - i < n → ∃ r, Jbj s n i = some r ∧ 0 < r ∧ r ≤ (s.length : Int)
 | 0, i, h0, h1, h2 => by omega
 | n + 1, i, h0, h1, h2 => by
  rw [Jbj]
  by_cases hi : i < (s.length : Int)
  ·obtain ⟨c, hc⟩ := qcy (by omega) hi
   rw [qzv (by simpa using hi), hc, qzt]
   unfold JaS
   rw [qzt, qzt]
   refine (fun (h : ∀ b : Bool, b = (decide ((c.toNat : Int) ≥ 48) && decide ((c.toNat : Int) ≤ 57)) → _) => h _ rfl) fun b hb => ?_
   rw [← hb]
   cases b with
   | true => rw [qzv rfl, qab (by constructor <;> omega)]; exact ql6 hs n (i + 1) (by omega) (by omega) (by omega)
   | false => exact ⟨i, qzu (by simp), h0, h1⟩
  ·rw [qzu (by simpa using hi), qzt]
   exact ⟨i, qzu (by simp), h0, h1⟩
theorem qgw (s p : Str) : J2 s p = some (decide ((s.length : Int) ≥ (p.length : Int)) && decide (subL s (0 : Int) (p.length : Int) = p)) := by
 unfold J2 Jad
 by_cases h : (s.length : Int) ≥ (p.length : Int)
 ·rw [qzv (by simpa using h), qab (by omega)]; simp [h]
 ·rw [qzu (by simpa using h)]
  have : ¬ p.length ≤ s.length := by omega
  simp [this]
theorem ql7 {s : Str} : ∀ (k i : Nat), i + k = 14 → ∃ r, JaH s k i = some r ∧ ∀ a b c, r = Fl.ret (a, b, c) → 0 ≤ b ∧ b ≤ (s.length : Int)
 | 0, i, h => ⟨_, rfl, fun a b c e => by cases e⟩
 | k + 1, i, h => by
  rw [JaH]
  obtain ⟨p, hp⟩ := qcy (s := ([([61, 61] : Str), ([33, 61] : Str), ([60, 61] : Str), ([60] : Str), ([43] : Str), ([45] : Str), ([42] : Str), ([40] : Str), ([41] : Str), ([123] : Str), ([125] : Str), ([44] : Str), ([59] : Str), ([61] : Str)])) (i := (i : Int)) (by omega) (by simp; omega)
  rw [hp, qzt, qgw, qzt]
  by_cases q : (decide ((s.length : Int) ≥ (p.length : Int)) && decide (subL s (0 : Int) (p.length : Int) = p)) = true
  ·rw [qzv q]
   simp only [Bool.and_eq_true, decide_eq_true_eq] at q
   exact ⟨_, rfl, fun a b c e => by cases e; omega⟩
  ·rw [qzu q]; exact ql7 k (i + 1) (by omega)
theorem qrv {n : Nat} {s : Str} (hn : 10000 ≤ n) (h0 : 0 < s.length) (hs : s.length ≤ 5000) : ∃ a b c, Jbq n s = some (a, b, c) ∧ 0 ≤ b ∧ b ≤ (s.length : Int) := by
 unfold Jbq
 obtain ⟨c, hc⟩ := qcy (s := s) (i := 0) (by omega) (by omega)
 rw [hc, qzt]
 unfold Jba
 rw [qzt]
 split
 ·obtain ⟨r, hr, h1, h2⟩ := ql5 hs n 1 (by omega) (by omega) (by omega)
  rw [hr, qzt, qab (by omega)]
  exact ⟨_, _, _, rfl, by omega, h2⟩
 ·unfold JaS
  rw [qzt]
  split
  ·obtain ⟨r, hr, h1, h2⟩ := ql6 hs n 1 (by omega) (by omega) (by omega)
   rw [hr, qzt]
   split
   ·exact ⟨_, _, _, rfl, by omega, by omega⟩
   ·rw [qab (by omega)]; exact ⟨_, _, _, rfl, by omega, h2⟩
  ·split
   ·unfold Jdm
    obtain ⟨r, hr, h1⟩ := qgv hs n [] 1 (by omega) (by omega) (by omega) (by simp; omega)
    rw [hr, qzt]
    cases r with
    | ret z =>
     obtain ⟨a, b⟩ := z
     rw [el_ret, qzt]
     have := h1 a b rfl
     exact ⟨_, _, _, rfl, by omega, by omega⟩
    | go z => rw [el_go, qzt]; exact ⟨_, _, _, rfl, by omega, by omega⟩
   ·obtain ⟨r, hr, h1⟩ := ql7 (s := s) 14 0 rfl
    rw [qab (by constructor <;> omega), show ((14 : Int)).toNat = 14 from rfl, hr, qzt]
    cases r with
    | ret z =>
     obtain ⟨a, b, c⟩ := z
     have := h1 a b c rfl
     exact ⟨_, _, _, rfl, this.1, this.2⟩
    | go z => exact ⟨_, _, _, rfl, by omega, by omega⟩
theorem ql8 {s : Str} (hs : s.length ≤ 5000) : ∀ (n : Nat) (i : Int), 0 ≤ i → i ≤ (s.length : Int) → (s.length : Int) - i < n → ∃ r, Jbk s n i = some r ∧ i ≤ r ∧ r ≤ (s.length : Int) ∧ (∀ c, ix s i = some c → (c.toNat : Int) ≠ 10 → i < r)
 | 0, i, h0, h1, h2 => by omega
 | n + 1, i, h0, h1, h2 => by
  rw [Jbk]
  by_cases hi : i < (s.length : Int)
  ·obtain ⟨c, hc⟩ := qcy h0 hi
   rw [qzv (by simpa using hi), hc, qzt, qzt]
   by_cases q : (c.toNat : Int) = 10
   ·exact ⟨i, qzu (by simpa using q), by omega, h1, fun d e => by cases e; exact fun h => absurd q h⟩
   ·obtain ⟨r, hr, h3, h4, _⟩ := ql8 hs n (i + 1) (by omega) (by omega) (by omega)
    rw [qzv (by simpa using q), qab (by constructor <;> omega)]
    exact ⟨r, hr, by omega, h4, fun _ _ _ => by omega⟩
  ·rw [qzu (by simpa using hi), qzt]
   refine ⟨i, qzu (by simp), by omega, h1, fun c e => ?_⟩
   unfold ix at e
   rw [qzv h0, List.getElem?_eq_none (by omega)] at e; cases e
theorem qdt {s : Str} {m : Nat} (hm : 10000 ≤ m) (hs : s.length ≤ 5000) : ∀ (n : Nat) (y : List JB) (a b i : Int), 0 ≤ i → i ≤ (s.length : Int) → (s.length : Int) - i < n → (y.length : Int) + (s.length - i) ≤ 100000 → 0 ≤ a → a + (s.length - i) ≤ 100000 → 0 ≤ b → b ≤ i →
  ∃ r, JR s m n y a b i = some r ∧ ∀ p q u v, r = Fl.go (p, q, u, v) → p.length ≤ 100000 ∧ 0 ≤ u ∧ u ≤ (s.length : Int)
 | 0, y, a, b, i, h0, h1, h2, h3, h4, h5, h6, h7 => by omega
 | n + 1, y, a, b, i, h0, h1, h2, h3, h4, h5, h6, h7 => by
  rw [JR]
  by_cases hi : i < (s.length : Int)
  ·obtain ⟨c, hc⟩ := qcy h0 hi
   rw [qzv (by simpa using hi), hc, qzt]
   split
   ·rw [qab (by constructor <;> omega), qab (by constructor <;> omega)]
    exact qdt hm hs n _ _ _ _ (by omega) (by omega) (by omega) (by omega) (by omega) (by omega) (by omega) (by omega)
   ·rename_i h10
    split
    ·rw [qab (by constructor <;> omega)]
     exact qdt hm hs n _ _ _ _ (by omega) (by omega) (by omega) (by omega) (by omega) (by omega) (by omega) (by omega)
    ·split
     ·rw [qab (by constructor <;> omega)]
      exact qdt hm hs n _ _ _ _ (by omega) (by omega) (by omega) (by omega) (by omega) (by omega) (by omega) (by omega)
     ·split
      ·rw [qab (by constructor <;> omega)]
       exact qdt hm hs n _ _ _ _ (by omega) (by omega) (by omega) (by omega) (by omega) (by omega) (by omega) (by omega)
      ·split
       ·obtain ⟨r, hr, g1, g2, g3⟩ := ql8 hs m i h0 h1 (by omega)
        have := g3 c hc (by simpa using h10)
        rw [hr, qzt]
        exact qdt hm hs n _ _ _ _ (by omega) (by omega) (by omega) (by omega) (by omega) (by omega) (by omega) (by omega)
       ·have hsl : (subL s i (s.length : Int)).length = s.length - i.toNat := by
         unfold subL
         rw [List.length_take, List.length_drop]; omega
        rw [qab (by omega)]
        obtain ⟨u, v, w, hr, g1, g2⟩ := qrv (n := m) (s := subL s i (s.length : Int)) hm (by omega) (by omega)
        rw [hr, qzt]
        split
        ·exact ⟨_, rfl, fun p q u v e => by cases e⟩
        ·rename_i hz
         have hz' : v ≠ 0 := by simpa using hz
         rw [qab (by constructor <;> omega), qab (by constructor <;> omega), qab (by simp only [lim, List.length_cons, List.length_nil]; omega), qab (by constructor <;> simp only <;> omega)]
         exact qdt hm hs n _ _ _ _ (by simp only; omega) (by simp only; omega) (by simp only; omega) (by simp only [List.length_append, List.length_cons, List.length_nil]; omega) (by omega) (by simp only; omega) (by omega) (by simp only; omega)
  ·rw [qzu (by simpa using hi)]
   exact ⟨_, rfl, fun p q u v e => by cases e; omega⟩
theorem qf6 {n : Nat} {s : Str} (hn : 10000 ≤ n) : ∃ r, Jbr n s = some r := by
 unfold Jbr
 by_cases h : (s.length : Int) > 4096
 ·exact ⟨_, qzv (by simpa using h)⟩
 ·obtain ⟨r, hr, h1⟩ := qdt hn (s := s) (by omega) n [] 1 0 0 (by omega) (by omega) (by omega) (by simp; omega) (by omega) (by omega) (by omega) (by omega)
  rw [qzu (by simpa using h), hr, qzt]
  cases r with
  | ret z => rw [el_ret]; exact ⟨_, rfl⟩
  | go z =>
   obtain ⟨p, q, u, v⟩ := z
   obtain ⟨g1, g2, g3⟩ := h1 p q u v rfl
   rw [el_go, qab (by constructor <;> simp only <;> omega), qab (by constructor <;> simp only <;> omega), qab (by simp only [lim, List.length_cons, List.length_nil]; omega)]
   exact ⟨_, rfl⟩
theorem qbi {α β : Type} {o : Option α} {f : α → Option β} (h1 : ∃ a, o = some a) (h2 : ∀ a, o = some a → ∃ r, f a = some r) : ∃ r, o.bind f = some r := by
 obtain ⟨a, ha⟩ := h1
 rw [ha, qzt]; exact h2 a ha
abbrev M := Ja
abbrev N := Jb
def Ok : Nat → M → Prop
 | 0, _ => False
 | d + 1, x => x.Ac.length ≤ 3000 ∧ x.Aa.length ≤ 700 ∧ ∀ k ∈ x.Aa, Ok d k
theorem Ok.succ : ∀ {d : Nat} {x : M}, Ok d x → Ok (d + 1) x
 | d + 1, x, h => ⟨h.1, h.2.1, fun k hk => (h.2.2 k hk).succ⟩
theorem qdp {f : M → Option Bool} : ∀ (l : List M) (i : Nat), (JJ f l i).bind (fun s0 => s0.el some fun t0 => some true) = some true → ∀ k ∈ l, f k = some true
 | [], i, _, k, hk => by cases hk
 | a :: l, i, h, k, hk => by
  rw [JJ] at h
  cases ha : f a with
  | none => rw [ha] at h; cases h
  | some b =>
   rw [ha, qzt] at h
   cases b with
   | false => simp [Fl.el] at h
   | true =>
    rw [qzu (by simp)] at h
    rcases List.mem_cons.1 hk with rfl | hk
    ·exact ha
    ·exact qdp l (i + 1) h k hk
theorem qcq {n : Nat} {x : M} (h : Jr n x = some true) : ∃ m k, n = m + 1 ∧ Jv m x = some k ∧ k ≠ -2 ∧ (0 ≤ k → (x.Aa.length : Int) = k) ∧ ∀ c ∈ x.Aa, Jr m c = some true := by
 cases n with
 | zero => rw [Jr] at h; cases h
 | succ m =>
  rw [Jr] at h
  obtain ⟨k, hk, h⟩ := bnd h
  refine ⟨m, k, rfl, hk, ?_⟩
  cases q : decide (k = -2) with
  | true => rw [q, qzv rfl] at h; cases h
  | false =>
   rw [q, qzu (by simp)] at h
   refine ⟨of_decide_eq_false q, ?_⟩
   cases q2 : (decide (k ≥ 0) && decide ((x.Aa.length : Int) ≠ k)) with
   | true => rw [q2, qzv rfl] at h; cases h
   | false =>
    rw [q2, qzu (by simp)] at h
    obtain ⟨_, h⟩ := qay h
    refine ⟨fun h0 => ?_, qdp x.Aa 0 h⟩
    simp only [Bool.and_eq_false_iff, decide_eq_false_iff_not] at q2
    omega
theorem qef {f : M → Option Bool} : ∀ (l : List M) (i : Nat), (JW f l i).bind (fun s0 => s0.el some fun t0 => some true) = some true → ∀ k ∈ l, f k = some true
 | [], i, _, k, hk => by cases hk
 | a :: l, i, h, k, hk => by
  rw [JW] at h
  cases ha : f a with
  | none => rw [ha] at h; cases h
  | some b =>
   rw [ha, qzt] at h
   cases b with
   | false => simp [Fl.el] at h
   | true =>
    rw [qzu (by simp)] at h
    rcases List.mem_cons.1 hk with rfl | hk
    ·exact ha
    ·exact qef l (i + 1) h k hk
theorem qc6 {f : M → Option Bool} {n : Nat} {x : M} (h : JaI f n x = some true) : x.Ab = 12 ∧ ∀ k ∈ x.Aa, f k = some true := by
 unfold JaI at h
 cases q : (decide (x.Ab ≠ 12) || decide (x.Ac ≠ ([] : Str))) with
 | true => rw [q, qzv rfl] at h; cases h
 | false =>
  rw [q, qzu (by simp)] at h
  obtain ⟨_, h⟩ := qay h
  simp only [Bool.or_eq_false_iff, decide_eq_false_iff_not, Classical.not_not] at q
  exact ⟨q.1, qef x.Aa 0 h⟩
theorem qfs {n : Nat} : ∀ (l : List M) (i : Nat), (Jaz n l i).bind (fun s0 => s0.el some fun t0 => some true) = some true → ∀ k ∈ l, Js n k = some true
 | [], i, _, k, hk => by cases hk
 | a :: l, i, h, k, hk => by
  rw [Jaz] at h
  cases ha : Js n a with
  | none => rw [ha] at h; cases h
  | some b =>
   rw [ha, qzt] at h
   cases b with
   | false => simp [Fl.el] at h
   | true =>
    rw [qzu (by simp)] at h
    rcases List.mem_cons.1 hk with rfl | hk
    ·exact ha
    ·exact qfs l (i + 1) h k hk
theorem qgx {n : Nat} {x : M} (h : Jau n x = some true) : ∀ k ∈ x.Aa, Js n k = some true := by
 unfold Jau at h
 split at h
 ·cases h
 ·obtain ⟨s, hs, h⟩ := bnd h
  split at h
  ·cases h
  ·obtain ⟨_, h⟩ := qay h
   exact qfs x.Aa 0 h
abbrev Ck := Jm
abbrev Bd := Jk
theorem qjj {env : List Bd} {s : Str} (hl : env.length ≤ 100000) : ∀ (n : Nat) (i : Int), -1 ≤ i → i < (env.length : Int) → i + 1 < n → ∃ r, Jac env s n i = some r
 | 0, i, _, _, h => by omega
 | n + 1, i, h0, h1, h => by
  rw [Jac]
  refine qa8 (fun hi => ?_) fun _ => ⟨_, rfl⟩
  have hi := of_decide_eq_true hi
  obtain ⟨b, hb⟩ := qcy (s := env) (i := i) (by omega) (by omega)
  rw [hb, qzt]
  refine qa8 (fun _ => ⟨_, rfl⟩) fun _ => ?_
  rw [qab (by constructor <;> omega)]
  exact qjj hl n (i - 1) (by omega) (by omega) (by omega)
theorem qgk {env : List Bd} {s : Str} {n : Nat} (hl : env.length ≤ 100000) (hn : env.length + 1 ≤ n) : ∃ t, JaT n s env = some t := by
 unfold JaT
 obtain ⟨r, hr⟩ := qjj (s := s) hl n ((env.length : Int) - 1) (by omega) (by omega) (by omega)
 rw [qab (by constructor <;> omega), hr, qzt]
 cases r with
 | ret z => exact ⟨_, rfl⟩
 | go z => rw [el_go]; exact qbi ⟨_, rfl⟩ fun _ _ => qa8 (fun _ => ⟨_, rfl⟩) fun _ => ⟨_, rfl⟩
theorem qtb (t : Int) : ∀ (l : List Int) (i : Nat), ∃ r, JK t l i = some r
 | [], i => ⟨_, rfl⟩
 | x :: l, i => by
  rw [JK]
  exact qa8 (fun _ => ⟨_, rfl⟩) fun _ => qtb t l (i + 1)
theorem qtc (t : Int) {l : List Int} (h : l.length ≤ 1000) : ∃ b, Jw t l = some b := by
 obtain ⟨r, hr⟩ := qtb t l 0
 unfold Jw
 rw [qab (by simp only [qax]; omega), hr, qzt]
 cases r <;> exact ⟨_, rfl⟩
theorem qgy {x : M} {l : List Int} (h : l.length ≤ 1000) (h16 : x.Ab = 16 → l.length = 2) : ∃ t, JM x l = some t := by
 have one : ∀ (t a : Int), ∃ r, (Jw t l).bind (fun x => if x = true then some a else some 0) = some r := fun t a => qbi (qtc t h) fun _ _ => qa8 (fun _ => ⟨_, rfl⟩) fun _ => ⟨_, rfl⟩
 unfold JM
 refine qa8 (fun _ => qbi (qtc 1 h) fun _ _ => qa8 (fun _ => ⟨_, rfl⟩) fun _ => one 2 2) fun _ => ?_
 refine qa8 (fun _ => one 2 2) fun _ => ?_
 refine qa8 (fun _ => one 2 2) fun _ => ?_
 refine qa8 (fun _ => one 3 3) fun _ => ?_
 refine qa8 (fun _ => one 3 3) fun _ => ?_
 refine qa8 (fun _ => one 3 3) fun _ => ?_
 refine qa8 (fun hk => ?_) fun _ => ⟨_, rfl⟩
 have h2 := h16 (of_decide_eq_true hk)
 have cmp : ∃ r, (ix l 0).bind (fun x36 => (ix l 1).bind fun x39 => if decide (x36 = x39) = true then some (3 : Int) else some 0) = some r := qbi (qcy (by omega) (by omega)) fun _ _ => qbi (qcy (by omega) (by omega)) fun _ _ => qa8 (fun _ => ⟨_, rfl⟩) fun _ => ⟨_, rfl⟩
 refine qa8 (fun _ => cmp) fun _ => ?_
 refine qa8 (fun _ => cmp) fun _ => ?_
 refine qa8 (fun _ => one 2 3) fun _ => ?_
 refine qa8 (fun _ => one 2 3) fun _ => ?_
 exact one 1 3
theorem qfd (c : Ck) (x : M) (e : Err) : ∃ r, JI c x e = some r := by
 unfold JI
 exact qa8 (fun _ => ⟨_, rfl⟩) fun _ => ⟨_, rfl⟩
theorem qgz (s : Str) : ∃ r, J3 s = some r := by
 unfold J3
 repeat (refine qa8 (fun _ => ⟨_, rfl⟩) fun _ => ?_)
 exact ⟨_, rfl⟩
theorem qux (c : Ck) (x : M) (l : List Int) : ∃ r, JX c x l = some r := by
 unfold JX
 refine qbi (qgz _) fun f _ => qa8 (fun _ => qbi (qfd _ _ _) fun _ _ => ⟨_, rfl⟩) fun _ => ?_
 refine qbi (qa8 (fun _ => ⟨_, rfl⟩) fun h => ?_) fun _ _ => qa8 (fun _ => qbi (qfd _ _ _) fun _ _ => ⟨_, rfl⟩) fun _ => ⟨_, rfl⟩
 have h := of_decide_eq_false h
 exact qbi (qcy (by omega) (by omega)) fun _ _ => ⟨_, rfl⟩
theorem ql9 {f : Ck → M → List Bd → Option (Int × Ck)} {env : List Bd} : ∀ (l : List M) (i : Nat) (y : List Int) (a : Int) (e : Err), (∀ k ∈ l, ∀ c, ∃ r, f c k env = some r) → y.length + l.length ≤ 1000 →
  ∃ r, JN f env l i y a e = some r ∧ ∀ z, r = Fl.go z → z.1.length = y.length + l.length
 | [], i, y, a, e, _, _ => ⟨_, rfl, fun z h => by cases h; rfl⟩
 | k :: l, i, y, a, e, h, hy => by
  simp only [List.length_cons] at hy
  obtain ⟨r, hr⟩ := h k (by simp) ⟨a, e⟩
  rw [JN, hr, qzt, qab (by simp only [lim, List.length_cons, List.length_nil]; omega)]
  cases q : r.2.err.isSome with
  | true => exact ⟨_, qzv rfl, fun z h => by cases h⟩
  | false =>
   rw [qzu (by simp)]
   obtain ⟨r', hr', hl⟩ := ql9 (f := f) (env := env) l (i + 1) (y ++ [r.1]) r.2.line r.2.err (fun k hk => h k (by simp [hk])) (by simp only [List.length_append, List.length_cons, List.length_nil]; omega)
   exact ⟨r', hr', fun z hz => by rw [hl z hz]; simp only [List.length_append, List.length_cons, List.length_nil]; omega⟩
theorem operands_16 {m : Nat} {x : M} {k : Int} (hk : x.Ab = 16) (h : Jv m x = some k) : k = 2 ∨ k = -2 := by
 unfold Jv at h
 rw [hk] at h
 rw [qzu (by decide), qzu (by decide), qzu (by decide), qzu (by decide), qzu (by decide), qzu (by decide), qzv (by decide)] at h
 obtain ⟨a, _, h⟩ := bnd h
 obtain ⟨b, _, h⟩ := bnd h
 split at h <;> cases h <;> simp
theorem qma {env : List Bd} (he : env.length ≤ 100000) : ∀ (d n m : Nat) (x : M) (c : Ck), Ok d x → Jr m x = some true → d + 200000 ≤ n → ∃ r, JF n c x env = some r
 | d + 1, 0, m, x, c, _, _, hn => by omega
 | d + 1, n + 1, m, x, c, h, hv, hn => by
  obtain ⟨h1, h2, h3⟩ := h
  obtain ⟨m', k, rfl, hk, k2, k3, k4⟩ := qcq hv
  obtain ⟨r, hr, hl⟩ := ql9 (f := JF n) (env := env) x.Aa 0 [] c.line c.err (fun q hq c' => qma he d n m' q c' (h3 q hq) (k4 q hq) (by omega)) (by simp <;> omega)
  rw [JF, qab (by simp only [qax]; omega), hr, qzt]
  cases r with
  | ret z => exact ⟨_, rfl⟩
  | go z =>
   have hz := hl z rfl
   simp only [List.length_nil, Nat.zero_add] at hz
   rw [el_go]
   refine qa8 (fun _ => ⟨_, rfl⟩) fun _ => ?_
   refine qa8 (fun _ => ⟨_, rfl⟩) fun _ => ?_
   refine qa8 (fun _ => ⟨_, rfl⟩) fun _ => ?_
   refine qa8 (fun _ => qbi (qgk he (by omega)) fun _ _ => qa8 (fun _ => qbi (qfd _ _ _) fun _ _ => ⟨_, rfl⟩) fun _ => ⟨_, rfl⟩) fun _ => ?_
   refine qa8 (fun _ => qbi (qux _ _ _) fun _ _ => ⟨_, rfl⟩) fun _ => ?_
   refine qbi (qgy (by omega) fun h16 => ?_) fun _ _ => qa8 (fun _ => qbi (qfd _ _ _) fun _ _ => ⟨_, rfl⟩) fun _ => ⟨_, rfl⟩
   rcases operands_16 h16 hk with rfl | rfl
   ·have := k3 (by omega); omega
   ·exact absurd rfl k2
theorem qrw (x : M) : ∃ t, JbZ x = some t := by
 unfold JbZ
 repeat (refine qa8 (fun _ => ⟨_, rfl⟩) fun _ => ?_)
 exact ⟨_, rfl⟩
theorem qkz {env : List Bd} {s : Str} {n : Nat} (hl : env.length ≤ 100000) (hn : env.length + 1 ≤ n) : ∃ t, JaM n s env = some t := by
 unfold JaM
 exact qbi (qgk hl hn) fun _ _ => ⟨_, rfl⟩
theorem qen {env : List Bd} {s : Str} {t : Int} (hl : env.length ≤ 100000) : Jab env s t = some (env ++ [⟨s, t⟩]) := by
 unfold Jab
 rw [qab (by constructor <;> omega), qab (by simp only [lim]; omega), qab (by simp only [lim, List.length_nil]; omega), qab (by simp only [lim, List.length_append, List.length_cons, List.length_nil]; omega)]; rfl
theorem qc0 {n : Nat} {x : M} (h : Js n x = some true) : ∃ m, n = m + 1 ∧ (∀ c, x.Aa[0]? = some c → Jr m c = some true) ∧
  (x.Ab = 2 → 2 ≤ x.Aa.length ∧ ∀ c ∈ x.Aa.drop 1, (c.Ab = 12 ∧ ∀ k ∈ c.Aa, Js m k = some true) ∨ (c.Ab ≠ 12 ∧ Js m c = some true)) := by
 cases n with
 | zero => rw [Js] at h; cases h
 | succ m =>
  have one : (if decide ((x.Aa.length : Int) = 1) then (ix x.Aa 0).bind fun x121 => (Jr m x121).bind fun x123 => some x123 else some false).bind (fun x124 => some x124) = some true → ∀ c, x.Aa[0]? = some c → Jr m c = some true := fun h c hc => by
   obtain ⟨b, hb, h⟩ := bnd h
   cases h
   split at hb
   ·have hx : ix x.Aa 0 = some c := by unfold ix; rw [qzv (by omega)]; exact hc
    rw [hx, qzt] at hb
    obtain ⟨b2, hb2, hb⟩ := bnd hb
    cases hb; exact hb2
   ·cases hb
  have nil : (x.Aa.length : Int) = 0 → ∀ c, x.Aa[0]? = some c → Jr m c = some true := fun h c hc => by
   rw [List.getElem?_eq_none (by omega)] at hc; cases hc
  refine ⟨m, rfl, ?_⟩
  rw [Js] at h
  by_cases k2 : x.Ab = 2
  ·rw [qzv (by simpa using k2)] at h
   obtain ⟨a, ha, g⟩ := bnd h
   obtain ⟨b, hb, gg⟩ := bnd g
   cases b with
   | true => rw [qzv rfl] at gg; cases gg
   | false =>
    rw [qzu (by simp)] at gg
    cases a with
    | true => rw [qzv rfl] at hb; cases hb
    | false =>
     cases q : ((decide (x.Ac ≠ ([] : Str)) || decide ((x.Aa.length : Int) < 2)) || decide ((x.Aa.length : Int) > 3)) with
     | true => rw [q, qzv rfl] at ha; cases ha
     | false =>
      rw [q, qzu (by simp)] at ha
      simp only [Bool.or_eq_false_iff, decide_eq_false_iff_not] at q
      rw [qzu (by simp)] at hb
      obtain ⟨c0, hc0, ha⟩ := bnd ha
      obtain ⟨e0, he0, ha⟩ := bnd ha
      obtain ⟨c1, hc1, hb⟩ := bnd hb
      obtain ⟨e1, he1, hb⟩ := bnd hb
      have ha : e0 = true := by simpa using ha
      have hb : e1 = true := by simpa using hb
      subst ha; subst hb
      have g0 : x.Aa[0]? = some c0 := by unfold ix at hc0; rw [qzv (by omega)] at hc0; exact hc0
      have g1 : x.Aa[1]? = some c1 := by unfold ix at hc1; rw [qzv (by omega)] at hc1; exact hc1
      obtain ⟨i1, i2⟩ := qc6 he1
      refine ⟨fun c hc => by rw [g0] at hc; cases hc; exact he0, fun _ => ⟨by omega, fun c hc => ?_⟩⟩
      obtain ⟨i, hi⟩ := List.getElem?_of_mem hc
      rw [List.getElem?_drop] at hi
      have hil : 1 + i < x.Aa.length := (List.getElem?_eq_some_iff.1 hi).1
      by_cases z : i = 0
      ·subst z
       rw [g1] at hi; cases hi
       exact .inl ⟨i1, i2⟩
      ·have : i = 1 := by omega
       subst this
       have hx2 : ix x.Aa 2 = some c := by unfold ix; rw [qzv (by omega)]; exact hi
       rw [qzu (by simp <;> omega), hx2, qzt] at gg
       obtain ⟨e, he, g3⟩ := bnd gg
       obtain ⟨e', he', he2⟩ := bnd he
       cases he2
       cases e with
       | true => have := qc6 he'; exact .inl ⟨this.1, this.2⟩
       | false =>
        rw [qzu (by simp), qzt] at g3
        obtain ⟨e2, he2, g4⟩ := bnd g3
        cases g4
        split at he2
        ·rename_i hk
         have hk := of_decide_eq_true hk
         rw [qzt] at he2
         obtain ⟨e3, he3, g5⟩ := bnd he2
         cases g5
         exact .inr ⟨by omega, he3⟩
        ·cases he2
  ·rw [qzu (by simpa using k2)] at h
   refine ⟨?_, fun h2 => absurd h2 k2⟩
   by_cases q6 : x.Ab = 6
   ·rw [qzv (by simpa using q6)] at h
    obtain ⟨_, _, g⟩ := bnd h
    exact nil (of_decide_eq_true (Bool.and_eq_true_iff.1 (Option.some.inj g)).2)
   rw [qzu (by simpa using q6)] at h
   by_cases q10 : x.Ab = 10
   ·rw [qzv (by simpa using q10)] at h
    exact nil (of_decide_eq_true (Bool.and_eq_true_iff.1 (Option.some.inj h)).2)
   rw [qzu (by simpa using q10)] at h
   by_cases q11 : x.Ab = 11
   ·rw [qzv (by simpa using q11)] at h
    exact nil (of_decide_eq_true (Bool.and_eq_true_iff.1 (Option.some.inj h)).2)
   rw [qzu (by simpa using q11)] at h
   have fin : ∀ {b : Bool} {p : Option Bool}, (if b = true then some false else p) = some true → p = some true := fun {b p} h => by
    cases b with
    | true => rw [qzv rfl] at h; cases h
    | false => rw [qzu (by simp)] at h; exact h
   by_cases q3 : x.Ab = 3
   ·rw [qzv (by simpa using q3)] at h
    obtain ⟨_, _, g⟩ := bnd h
    exact one (fin g)
   rw [qzu (by simpa using q3)] at h
   by_cases q4 : x.Ab = 4
   ·rw [qzv (by simpa using q4)] at h; exact one (fin h)
   rw [qzu (by simpa using q4)] at h
   by_cases q5 : x.Ab = 5
   ·rw [qzv (by simpa using q5)] at h
    obtain ⟨_, _, g⟩ := bnd h
    exact one (fin g)
   rw [qzu (by simpa using q5)] at h
   by_cases q7 : x.Ab = 7
   ·rw [qzv (by simpa using q7)] at h; exact one (fin h)
   rw [qzu (by simpa using q7)] at h
   by_cases q8 : x.Ab = 8
   ·rw [qzv (by simpa using q8)] at h; exact one (fin h)
   rw [qzu (by simpa using q8)] at h
   by_cases q9 : x.Ab = 9
   ·rw [qzv (by simpa using q9)] at h; exact one (fin h)
   rw [qzu (by simpa using q9)] at h
   cases h
def Gd (d : Nat) (x : M) : Prop := Ok d x ∧ ∃ m, Js m x = some true
theorem qex {d : Nat} {k : M} (h : Ok d k) (hv : (k.Ab = 12 ∧ ∀ q ∈ k.Aa, ∃ m, Js m q = some true) ∨ (k.Ab ≠ 12 ∧ ∃ m, Js m k = some true)) :
  ∃ l, JaF k = some l ∧ l.length ≤ 700 ∧ ∀ x ∈ l, Gd d x := by
 unfold JaF
 rcases hv with ⟨h1, h2⟩ | ⟨h1, h2⟩
 ·refine ⟨_, qzv (by simpa using h1), ?_, ?_⟩
  ·cases d with
   | zero => exact h.elim
   | succ d => exact h.2.1
  ·cases d with
   | zero => exact h.elim
   | succ d => exact fun x hx => ⟨(h.2.2 x hx).succ, h2 x hx⟩
 ·refine ⟨_, qzu (by simpa using h1), by simp, fun x hx => ?_⟩
  simp at hx; subst hx
  exact ⟨h, h2⟩
theorem qmb {f : Ck → List M → List Bd → Option Ck} {env : List Bd} : ∀ (l : List M) (i : Nat) (a : Int) (e : Err), (∀ k ∈ l, ∃ q, JaF k = some q ∧ ∀ c, ∃ r, f c q env = some r) → ∃ r, Jy f env l i a e = some r
 | [], i, a, e, _ => ⟨_, rfl⟩
 | k :: l, i, a, e, h => by
  obtain ⟨q, hq, hr⟩ := h k (by simp)
  rw [Jy, hq, qzt]
  exact qbi (hr _) fun _ _ => qmb l (i + 1) _ _ fun k hk => h k (by simp [hk])
set_option maxRecDepth 100000 in
theorem qmc {n d : Nat} {f : Ck → List M → List Bd → Option Ck} (hn : d + 200000 ≤ n) (hf : ∀ (l : List M) (env : List Bd) (c : Ck), (∀ x ∈ l, Gd d x) → l.length ≤ 700 → env.length + 701 * (d + 1) ≤ 90000 → ∃ r, f c l env = some r) :
  ∀ (l : List M) (i : Nat) (env : List Bd) (a : Int) (e : Err), (∀ x ∈ l, Gd (d + 1) x) → env.length + l.length + 701 * (d + 1) ≤ 90000 → ∃ r, Jq n f l i env a e = some r
 | [], i, env, a, e, _, _ => ⟨_, rfl⟩
 | x :: l, i, env, a, e, h, hl => by
  simp only [List.length_cons] at hl
  have ih : ∀ (env' : List Bd) (a' : Int) (e' : Err), env'.length ≤ env.length + 1 → ∃ r, Jq n f l (i + 1) env' a' e' = some r := fun env' a' e' he => qmc hn hf l (i + 1) env' a' e' (fun y hy => h y (by simp [hy])) (by omega)
  obtain ⟨⟨h1, h2, h3⟩, m0, hm⟩ := h x (by simp)
  obtain ⟨m, rfl, k0, k2⟩ := qc0 hm
  rw [Jq]
  refine qa8 (fun _ => ih _ _ _ (by omega)) fun hk => ?_
  have hk := of_decide_eq_false hk
  have hg0 : x.Aa[0]? = some (x.Aa[0]'(by omega)) := List.getElem?_eq_getElem (by omega)
  have hi0 : ix x.Aa 0 = some (x.Aa[0]'(by omega)) := by unfold ix; rw [qzv (by omega)]; exact hg0
  rw [hi0, qzt]
  have tl : ∀ c1 : Ck, ∀ t : Int, ∃ r, (if decide (x.Ab = 3) then
    (JaM n x.Ac env).bind fun x61 =>
    if x61 then
    (JI c1 x (some 4)).bind fun x65 =>
    (Jab env x.Ac t).bind fun x70 =>
    if x65.err.isSome then
    some (Fl.ret x65)
    else
    Jq n f l (i + 1) x70 x65.line x65.err
    else
    (Jab env x.Ac t).bind fun x70 =>
    if c1.err.isSome then
    some (Fl.ret c1)
    else
    Jq n f l (i + 1) x70 c1.line c1.err
    else
    if decide (x.Ab = 2) then
    (chk (0 ≤ (1 : Int) ∧ (1 : Int) ≤ (x.Aa.length : Int) ∧ (x.Aa.length : Int) ≤ (x.Aa.length : Int))).bind fun _ =>
    (chk ((subL x.Aa (1 : Int) (x.Aa.length : Int)).length ≤ qax)).bind fun _ =>
    (Jy f env (subL x.Aa (1 : Int) (x.Aa.length : Int)) 0 c1.line c1.err).bind fun t3 =>
    if t3.2.isSome then
    some (Fl.ret (⟨t3.1, t3.2⟩ : Ck))
    else
    Jq n f l (i + 1) env t3.1 t3.2
    else
    if c1.err.isSome then
    some (Fl.ret c1)
    else
    Jq n f l (i + 1) env c1.line c1.err : Option (Fl Ck (List Bd × Int × Err))) = some r := fun c1 t => by
   refine qa8 (fun _ => ?_) fun _ => ?_
   ·refine qbi (qkz (by omega) (by omega)) fun _ _ => qa8 (fun _ => ?_) fun _ => ?_
    ·refine qbi (qfd _ _ _) fun _ _ => ?_
     rw [qen (by omega), qzt]
     exact qa8 (fun _ => ⟨_, rfl⟩) fun _ => ih _ _ _ (by simp)
    ·rw [qen (by omega), qzt]
     exact qa8 (fun _ => ⟨_, rfl⟩) fun _ => ih _ _ _ (by simp)
   ·refine qa8 (fun hk2 => ?_) fun _ => qa8 (fun _ => ⟨_, rfl⟩) fun _ => ih _ _ _ (by omega)
    obtain ⟨g1, g2⟩ := k2 (of_decide_eq_true hk2)
    have hsub : subL x.Aa (1 : Int) (x.Aa.length : Int) = x.Aa.drop 1 := by
     unfold subL
     rw [show ((1 : Int)).toNat = 1 from rfl]
     exact List.take_of_length_le (by rw [List.length_drop]; omega)
    rw [qab (by omega), hsub, qab (by rw [List.length_drop]; simp only [qax]; omega)]
    refine qbi (qmb _ 0 _ _ fun k hk => ?_) fun _ _ => qa8 (fun _ => ⟨_, rfl⟩) fun _ => ih _ _ _ (by omega)
    have hkm : k ∈ x.Aa := List.mem_of_mem_drop hk
    obtain ⟨q, hq, ql, qg⟩ := qex (h3 k hkm) (by
     rcases g2 k hk with ⟨a1, a2⟩ | ⟨a1, a2⟩
     ·exact .inl ⟨a1, fun q hq => ⟨m, a2 q hq⟩⟩
     ·exact .inr ⟨a1, m, a2⟩)
    exact ⟨q, hq, fun c => hf q env c qg ql (by omega)⟩
  refine qbi (qma (env := env) (by omega) d n m _ _ (h3 _ (List.getElem_mem _)) (k0 _ hg0) (by omega)) fun t ht => ?_
  refine qbi (qrw x) fun nd _ => ?_
  refine qa8 (fun _ => ?_) fun _ => ?_
  ·refine qbi (qfd _ _ _) fun c1 _ => ?_
   exact qa8 (fun _ => ⟨_, rfl⟩) fun _ => tl c1 t.1
  ·exact qa8 (fun _ => ⟨_, rfl⟩) fun _ => tl t.2 t.1
set_option maxRecDepth 100000 in
theorem qmd : ∀ (d n : Nat) (l : List M) (env : List Bd) (c : Ck), (∀ x ∈ l, Gd d x) → l.length ≤ 700 → env.length + 701 * (d + 1) ≤ 90000 → d + 300000 ≤ n → ∃ r, Jx n c l env = some r
 | d, 0, l, env, c, _, _, _, hn => by omega
 | 0, n + 1, l, env, c, h, hl, he, hn => by
  have : l = [] := by
   cases l with
   | nil => rfl
   | cons x l => exact (h x (by simp)).1.elim
  subst this
  rw [Jx, qab (by simp [qax])]
  exact ⟨_, rfl⟩
 | d + 1, n + 1, l, env, c, h, hl, he, hn => by
  obtain ⟨r, hr⟩ := qmc (n := n) (d := d) (f := Jx n) (by omega) (fun l' env' c' h1 h2 h3 => qmd d n l' env' c' h1 h2 h3 (by omega)) l 0 env c.line c.err h (by omega)
  rw [Jx, qab (by simp only [qax]; omega), hr, qzt]
  cases r <;> exact ⟨_, rfl⟩
inductive A2 {α β : Type} (P : α → β → Prop) : List α → List β → Prop
 | nil : A2 P [] []
 | cons {a : α} {b : β} {l : List α} {k : List β} : P a b → A2 P l k → A2 P (a :: l) (b :: k)
theorem A2.len {α β : Type} {P : α → β → Prop} {l : List α} {k : List β} (h : A2 P l k) : k.length = l.length := by
 induction h with
 | nil => rfl
 | cons _ _ ih => simp [ih]
theorem A2.mem {α β : Type} {P : α → β → Prop} {l : List α} {k : List β} (h : A2 P l k) : ∀ b ∈ k, ∃ a ∈ l, P a b := by
 induction h with
 | nil => intro b hb; cases hb
 | cons hp _ ih =>
  intro b hb
  rcases List.mem_cons.1 hb with rfl | hb
  ·exact ⟨_, by simp, hp⟩
  ·obtain ⟨a, ha, q⟩ := ih b hb; exact ⟨a, by simp [ha], q⟩
def OkN : Nat → N → Prop
 | 0, _ => False
 | d + 1, x => x.Ac.length ≤ 3000 ∧ x.Aa.length ≤ 700 ∧ ∀ k ∈ x.Aa, OkN d k
theorem qme {f : N → Int → Option Int} {e B : Int} (he : -100 ≤ e ∧ e ≤ 100) (hB : 0 ≤ B ∧ B ≤ 1000000) {P : N → Prop} : ∀ (l : List N) (i : Nat) (y : Int), 1 ≤ y → y ≤ 700 → (∀ k ∈ l, ∃ v, f k (e - 1) = some v ∧ 1 ≤ v ∧ v ≤ B ∧ (v ≤ 700 → P k)) →
  ∃ r, Ja9 e f l i y = some r ∧ (∀ z, r = Fl.go z → z ≤ 700 ∧ y + l.length ≤ z ∧ ∀ k ∈ l, P k) ∧ ∀ z, r = Fl.ret z → 700 < z ∧ z ≤ 700 + B
 | [], i, y, h1, h2, _ => ⟨_, rfl, fun z e => by cases e; exact ⟨h2, by simp, fun k hk => by cases hk⟩, fun z e => by cases e⟩
 | k :: l, i, y, h1, h2, h => by
  obtain ⟨v, hv, v1, v2, v3⟩ := h k (by simp)
  rw [Ja9, qab (by constructor <;> omega), hv, qzt, qab (by constructor <;> omega)]
  by_cases q : y + v > 700
  ·exact ⟨_, qzv (by simpa using q), fun z e => (by cases e), fun z e => by cases e; omega⟩
  ·rw [qzu (by simpa using q)]
   obtain ⟨r, hr, g1, g2⟩ := qme he hB (P := P) l (i + 1) (y + v) (by omega) (by omega) fun k hk => h k (by simp [hk])
   refine ⟨r, hr, fun z hz => ?_, g2⟩
   obtain ⟨a1, a2, a3⟩ := g1 z hz
   refine ⟨a1, by rw [List.length_cons]; omega, fun q hq => ?_⟩
   rcases List.mem_cons.1 hq with rfl | hq
   ·exact v3 (by omega)
   ·exact a3 q hq
theorem qmf : ∀ (e n : Nat) (x : N), Jb.ok x → e + 1 ≤ n → e ≤ 40 → ∃ v, JaP n x (e : Int) = some v ∧ 1 ≤ v ∧ v ≤ 1000 + 700 * e ∧ (v ≤ 700 → OkN e x)
 | e, 0, x, _, hn, _ => by omega
 | 0, n + 1, x, h, hn, he => by
  rw [JaP, qzv (by simp)]
  exact ⟨_, rfl, by omega, by omega, fun h => by omega⟩
 | e + 1, n + 1, x, h, hn, he => by
  obtain ⟨k0, k1, l2, k2, k3⟩ := h
  rw [JaP]
  by_cases q : x.Ac.length > 3000
  ·rw [qzv (by simp; omega)]
   exact ⟨_, rfl, by omega, by omega, fun h => by omega⟩
  ·rw [qzu (by simp; omega), qab l2]
   obtain ⟨r, hr, g1, g2⟩ := qme (f := JaP n) (e := ((e + 1 : Nat) : Int)) (B := 1000 + 700 * e) (by omega) (by omega) (P := fun k => OkN e k) x.Aa 0 1 (by omega) (by omega) fun k hk => by
    have := qmf e n k (k2 k hk) (by omega) (by omega)
    rw [show (((e + 1 : Nat) : Int) - 1) = (e : Int) from by omega]
    exact this
   rw [hr, qzt]
   cases r with
   | ret z =>
    obtain ⟨a1, a2⟩ := g2 z rfl
    exact ⟨z, rfl, by omega, by omega, fun h => by omega⟩
   | go z =>
    obtain ⟨a1, a2, a3⟩ := g1 z rfl
    exact ⟨z, rfl, by omega, by omega, fun _ => ⟨by omega, by omega, a3⟩⟩
theorem Large_ok {n : Nat} {x : N} (h : Jb.ok x) (hn : 41 ≤ n) : Jce n x = some true ∨ (Jce n x = some false ∧ OkN 40 x) := by
 obtain ⟨v, hv, _, _, h2⟩ := qmf 40 n x h hn (by omega)
 unfold Jce
 rw [show ((40 : Nat) : Int) = 40 from rfl] at hv
 rw [hv, qzt]
 by_cases q : v > 700
 ·left; simp [q]
 ·right; exact ⟨by simp [q], h2 (by omega)⟩
def Cvd : Nat → N → M → Prop
 | 0, _, _ => False
 | d + 1, x, y => y.Ab = x.Ab ∧ y.Ac = x.Ac ∧ y.Ad = x.Ad ∧ A2 (Cvd d) x.Aa y.Aa
def Mvd (b : Int) : Nat → N → N → Prop
 | 0, _, _ => False
 | d + 1, x, y => y.Ab = x.Ab ∧ y.Ac = x.Ac ∧ y.Ad = IntKind.i64.wrap (x.Ad + b) ∧ A2 (Mvd b d) x.Aa y.Aa
theorem qwg {f : N → Option M} {P : N → M → Prop} : ∀ (l : List N) (i : Nat) (y : List M), (∀ k ∈ l, ∃ z, f k = some z ∧ P k z) → y.length + l.length ≤ 10000 → ∃ ys, Jcs f l i y = some (y ++ ys) ∧ A2 P l ys
 | [], i, y, _, _ => ⟨[], by simp [Jcs], .nil⟩
 | k :: l, i, y, h, hl => by
  simp only [List.length_cons] at hl
  obtain ⟨z, hz, hp⟩ := h k (by simp)
  obtain ⟨ys, e, ha⟩ := qwg (P := P) l (i + 1) (y ++ [z]) (fun k hk => h k (by simp [hk])) (by simp only [List.length_append, List.length_cons, List.length_nil]; omega)
  rw [Jcs, hz, qzt, qab (by simp only [lim, List.length_cons, List.length_nil]; omega), e]
  exact ⟨z :: ys, by simp, .cons hp ha⟩
theorem qwh : ∀ (d n : Nat) (x : N), OkN d x → d + 1 ≤ n → ∃ y, JcG n x = some y ∧ Cvd d x y
 | d + 1, 0, x, _, hn => by omega
 | d + 1, n + 1, x, h, hn => by
  obtain ⟨h1, h2, h3⟩ := h
  obtain ⟨ys, e, ha⟩ := qwg (f := JcG n) (P := Cvd d) x.Aa 0 [] (fun k hk => qwh d n k (h3 k hk) (by omega)) (by simp <;> omega)
  rw [JcG, qab (by simp only [qax]; omega), e, qzt]
  exact ⟨_, rfl, rfl, rfl, rfl, ha⟩
theorem Cvd.ok : ∀ {d : Nat} {x : N} {y : M}, OkN d x → Cvd d x y → Ok d y
 | d + 1, x, y, h, hc => by
  obtain ⟨h1, h2, h3⟩ := h
  obtain ⟨c1, c2, c3, c4⟩ := hc
  refine ⟨by rw [c2]; exact h1, by rw [c4.len]; exact h2, fun k hk => ?_⟩
  obtain ⟨a, ha, q⟩ := c4.mem k hk
  exact Cvd.ok (h3 a ha) q
theorem Mvd.ok {b : Int} : ∀ {d : Nat} {x y : N}, OkN d x → Mvd b d x y → OkN d y
 | d + 1, x, y, h, hc => by
  obtain ⟨h1, h2, h3⟩ := h
  obtain ⟨c1, c2, c3, c4⟩ := hc
  refine ⟨by rw [c2]; exact h1, by rw [c4.len]; exact h2, fun k hk => ?_⟩
  obtain ⟨a, ha, q⟩ := c4.mem k hk
  exact Mvd.ok (h3 a ha) q
def cnt : Nat → M → Nat
 | 0, _ => 0
 | d + 1, x => 1 + (x.Aa.map (cnt d)).sum
def cntL (d : Nat) (l : List M) : Nat := (l.map (cnt d)).sum
theorem cntL_cons (d : Nat) (x : M) (l : List M) : cntL d (x :: l) = cnt d x + cntL d l := by simp [cntL]
theorem cnt_eq (d : Nat) (x : M) : cnt (d + 1) x = 1 + cntL d x.Aa := rfl
theorem cnt_mem {d : Nat} : ∀ {l : List M} {x : M}, x ∈ l → cnt d x ≤ cntL d l
 | a :: l, x, h => by
  rw [cntL_cons]
  rcases List.mem_cons.1 h with rfl | h
  ·omega
  ·have := cnt_mem (d := d) h; omega
theorem qmg : ∀ {d : Nat} {x : M}, Ok d x → cnt (d + 1) x = cnt d x
 | d + 1, x, h => by
  rw [cnt_eq, cnt_eq]
  have : ∀ l : List M, (∀ k ∈ l, Ok d k) → cntL (d + 1) l = cntL d l := by
   intro l
   induction l with
   | nil => intro _; rfl
   | cons a l ih =>
    intro hl
    rw [cntL_cons, cntL_cons, ih fun k hk => hl k (by simp [hk]), qmg (hl a (by simp))]
  rw [this x.Aa h.2.2]
def pre (s : Str) : Bool := ((decide (s = ([109, 101, 116, 104, 111, 100] : Str)) || decide (s = ([104, 111, 115, 116] : Str))) || decide (s = ([112, 97, 116, 104] : Str))) || decide (s = ([113, 117, 101, 114, 121] : Str))
def lk (s : Str) (env : List Bd) : Int := match env.reverse.find? (fun b => decide (b.Name = s)) with
 | some b => b.As
 | none => if pre s then 1 else 0
theorem qpa (s : Str) (env : List Bd) (b : Bd) : lk s (env ++ [b]) = if b.Name = s then b.As else lk s env := by
 unfold lk
 rw [List.reverse_append]
 simp only [List.reverse_cons, List.reverse_nil, List.nil_append, List.cons_append, List.find?_cons]
 by_cases h : b.Name = s <;> simp [h]
theorem qft {env : List Bd} {s : Str} (hl : env.length ≤ 100000) : ∀ (j n : Nat), j ≤ env.length → j + 1 ≤ n →
  Jac env s n ((j : Int) - 1) = some (match (env.take j).reverse.find? (fun b => decide (b.Name = s)) with | some b => Fl.ret b.As | none => Fl.go (-1))
 | 0, n + 1, _, _ => by
  rw [Jac, qzu (by simp)]; simp
 | j + 1, n + 1, h, hn => by
  have hj : j < env.length := by omega
  have e : ((j + 1 : Nat) : Int) - 1 = (j : Int) := by omega
  have hix : ix env (j : Int) = some env[j] := by unfold ix; rw [qzv (by omega)]; simp [hj]
  have ht : (env.take (j + 1)).reverse = env[j] :: (env.take j).reverse := by
   rw [List.take_succ_eq_append_getElem hj, List.reverse_append]; rfl
  rw [e, Jac, qzv (by simp), hix, qzt, qzt, ht, List.find?_cons]
  by_cases q : env[j].Name = s
  ·rw [qzv (by simpa using q)]; simp [q]
  ·rw [qzu (by simpa using q), qab (by constructor <;> omega), qft hl j n (by omega) (by omega)]
   simp [q]
 | 0, 0, _, h => by omega
 | j + 1, 0, _, h => by omega
theorem qjk {env : List Bd} {s : Str} {n : Nat} (hl : env.length ≤ 100000) (hn : env.length + 1 ≤ n) : JaT n s env = some (lk s env) := by
 unfold JaT
 rw [qab (by constructor <;> omega), qft hl env.length n (by omega) hn, qzt, List.take_length]
 unfold lk
 cases env.reverse.find? (fun b => decide (b.Name = s)) with
 | some b => rfl
 | none =>
  rw [el_go]
  show (if pre s = true then some (1 : Int) else some 0) = some (if pre s = true then 1 else 0)
  split <;> rfl
def Ev (e e' : List Bd) : Prop := ∀ s, lk s e ≠ 0 → lk s e' = lk s e
theorem Ev.trans {a b c : List Bd} (h : Ev a b) (k : Ev b c) : Ev a c := fun s hs => by
 have h1 := h s hs
 rw [k s (by rw [h1]; exact hs), h1]
def cntN : Nat → N → Nat
 | 0, _ => 0
 | d + 1, x => 1 + (x.Aa.map (cntN d)).sum
def cntNL (d : Nat) (l : List N) : Nat := (l.map (cntN d)).sum
theorem qc1 (d : Nat) (x : N) (l : List N) : cntNL d (x :: l) = cntN d x + cntNL d l := by simp [cntNL]
theorem qg0 (d : Nat) (x : N) : cntN (d + 1) x = 1 + cntNL d x.Aa := rfl
theorem qfu {f : N → Int → Option Int} {e : Int} {d : Nat} : ∀ (l : List N) (i : Nat) (y : Int) (r : Fl Int Int), 1 ≤ y → (∀ k ∈ l, ∀ v, f k (e - 1) = some v → v ≤ 700 → (cntN d k : Int) ≤ v) → Ja9 e f l i y = some r →
  (∀ z, r = Fl.go z → y + (cntNL d l : Int) ≤ z) ∧ ∀ z, r = Fl.ret z → 700 < z
 | [], i, y, r, _, _, h => by cases h; exact ⟨fun z e => by cases e; simp [cntNL], fun z e => by cases e⟩
 | k :: l, i, y, r, hy, hf, h => by
  rw [Ja9] at h
  obtain ⟨_, h1⟩ := qay h
  obtain ⟨v, hv, h2⟩ := bnd h1
  obtain ⟨_, h3⟩ := qay h2
  by_cases q : y + v > 700
  ·rw [qzv (by simpa using q)] at h3
   cases h3
   exact ⟨fun z e => (by cases e), fun z e => by cases e; exact q⟩
  ·rw [qzu (by simpa using q)] at h3
   have hc := hf k (by simp) v hv (by omega)
   obtain ⟨g1, g2⟩ := qfu l (i + 1) (y + v) r (by omega) (fun k hk => hf k (by simp [hk])) h3
   refine ⟨fun z e => ?_, g2⟩
   have := g1 z e
   rw [qc1]; omega
theorem qjl : ∀ (e n : Nat) (x : N) (v : Int), JaP n x (e : Int) = some v → v ≤ 700 → (cntN e x : Int) ≤ v
 | _, 0, x, v, h, _ => by rw [JaP] at h; cases h
 | 0, n + 1, x, v, h, hv => by
  rw [JaP, qzv (by simp)] at h
  cases h; omega
 | e + 1, n + 1, x, v, h, hv => by
  rw [JaP] at h
  split at h
  ·cases h; omega
  ·obtain ⟨_, h1⟩ := qay h
   obtain ⟨r, hr, h2⟩ := bnd h1
   obtain ⟨g1, g2⟩ := qfu (d := e) x.Aa 0 1 r (by omega) (fun k hk v hv hv2 => by
    rw [show (((e + 1 : Nat) : Int) - 1) = (e : Int) from by omega] at hv
    exact qjl e n k v hv hv2) hr
   cases r with
   | ret z => rw [el_ret] at h2; cases h2; have := g2 _ rfl; omega
   | go z => rw [el_go] at h2; cases h2; have := g1 _ rfl; rw [qg0]; omega
theorem qpb {n : Nat} {x : N} (h : Jce n x = some false) : cntN 40 x ≤ 700 := by
 unfold Jce at h
 obtain ⟨v, hv, h1⟩ := bnd h
 simp only [Option.some.injEq, decide_eq_false_iff_not] at h1
 have := qjl 40 n x v hv (by omega)
 omega
theorem Cvd.cnt : ∀ {d : Nat} {x : N} {y : M}, Cvd d x y → Rt.cnt d y = cntN d x
 | d + 1, x, y, ⟨_, _, _, h⟩ => by
  rw [cnt_eq, qg0]
  have : ∀ {l : List N} {k : List M}, A2 (Cvd d) l k → cntL d k = cntNL d l := by
   intro l k h
   induction h with
   | nil => rfl
   | cons hp _ ih => rw [cntL_cons, qc1, ih, hp.cnt]
  rw [this h]
def isL (c : UInt8) : Bool := (decide ((c.toNat : Int) ≥ 97) && decide ((c.toNat : Int) ≤ 122)) || decide ((c.toNat : Int) = 95)
def isD (c : UInt8) : Bool := decide ((c.toNat : Int) ≥ 48) && decide ((c.toNat : Int) ≤ 57)
def isA (c : UInt8) : Bool := isL c || isD c
def tw (p : UInt8 → Bool) (s : Str) (i : Nat) : Int := ((i + ((s.drop i).takeWhile p).length : Nat) : Int)
theorem qk0 {p : UInt8 → Bool} {s : Str} {i : Nat} (h : s.length ≤ i) : tw p s i = i := by
 unfold tw; rw [List.drop_eq_nil_of_le h]; rfl
theorem qrx {p : UInt8 → Bool} {s : Str} {i : Nat} (h : i < s.length) (hp : p s[i] = true) : tw p s i = tw p s (i + 1) := by
 unfold tw; rw [List.drop_eq_getElem_cons h, List.takeWhile_cons, qzv hp, List.length_cons]; omega
theorem quy {p : UInt8 → Bool} {s : Str} {i : Nat} (h : i < s.length) (hp : p s[i] = false) : tw p s i = i := by
 unfold tw; rw [List.drop_eq_getElem_cons h, List.takeWhile_cons, qzu (by rw [hp]; simp)]; rfl
theorem ixn {α : Type} {s : List α} {i : Nat} (h : i < s.length) : ix s (i : Int) = some s[i] := by
 unfold ix; rw [qzv (by omega)]; exact List.getElem?_eq_getElem h
theorem qwi {s : Str} (hs : s.length ≤ 5000) : ∀ (n i : Nat), i ≤ s.length → s.length - i < n → JaG s n (i : Int) = some (tw isA s i)
 | 0, i, h1, h2 => by omega
 | n + 1, i, h1, h2 => by
  rw [JaG]
  by_cases hi : i < s.length
  ·rw [qzv (by simpa using hi), ixn hi, qzt, show Jba s[i] = some (isL s[i]) from rfl, qzt]
   have e : (if isL s[i] = true then some true else (some s[i]).bind fun x28 => (JaS x28).bind fun x29 => some x29) = some (isA s[i]) := by
    unfold isA
    cases q : isL s[i] <;> simp [q, JaS, isD]
   rw [e, qzt]
   cases q : isA s[i] with
   | true =>
    rw [qzv rfl, qab (by constructor <;> omega), qrx hi q, show ((i : Int) + 1) = ((i + 1 : Nat) : Int) from by omega]
    exact qwi hs n (i + 1) (by omega) (by omega)
   | false => rw [qzu (by simp), quy hi q]
  ·rw [qzu (by simpa using hi), qk0 (by omega)]
theorem qwj {s : Str} (hs : s.length ≤ 5000) : ∀ (n i : Nat), i ≤ s.length → s.length - i < n → JbN s n (i : Int) = some (tw isA s i)
 | 0, i, h1, h2 => by omega
 | n + 1, i, h1, h2 => by
  rw [JbN]
  by_cases hi : i < s.length
  ·rw [qzv (by simpa using hi), ixn hi, qzt, show Jca s[i] = some (isL s[i]) from rfl, qzt]
   have e : (if isL s[i] = true then some true else (some s[i]).bind fun x28 => (Jb1 x28).bind fun x29 => some x29) = some (isA s[i]) := by
    unfold isA
    cases q : isL s[i] <;> simp [q, Jb1, isD]
   rw [e, qzt]
   cases q : isA s[i] with
   | true =>
    rw [qzv rfl, qab (by constructor <;> omega), qrx hi q, show ((i : Int) + 1) = ((i + 1 : Nat) : Int) from by omega]
    exact qwj hs n (i + 1) (by omega) (by omega)
   | false => rw [qzu (by simp), quy hi q]
  ·rw [qzu (by simpa using hi), qk0 (by omega)]
theorem qwk {s : Str} (hs : s.length ≤ 5000) : ∀ (n i : Nat), i ≤ s.length → s.length - i < n → JbO s n (i : Int) = some (tw isD s i)
 | 0, i, h1, h2 => by omega
 | n + 1, i, h1, h2 => by
  rw [JbO]
  by_cases hi : i < s.length
  ·rw [qzv (by simpa using hi), ixn hi, qzt, show Jb1 s[i] = some (isD s[i]) from rfl, qzt, qzt]
   cases q : isD s[i] with
   | true =>
    rw [qzv rfl, qab (by constructor <;> omega), qrx hi q, show ((i : Int) + 1) = ((i + 1 : Nat) : Int) from by omega]
    exact qwk hs n (i + 1) (by omega) (by omega)
   | false => rw [qzu (by simp), quy hi q]
  ·rw [qzu (by simpa using hi), qzt, qzu (by simp), qk0 (by omega)]
theorem qpc (p : UInt8 → Bool) : ∀ t : Str, t.take (t.takeWhile p).length = t.takeWhile p
 | [] => rfl
 | c :: t => by
  rw [List.takeWhile_cons]
  cases q : p c with
  | true => rw [qzv rfl, List.length_cons, List.take_succ_cons, qpc p t]
  | false => rw [qzu (by simp)]; rfl
theorem qnq (p : UInt8 → Bool) : ∀ t : Str, (t.takeWhile p).length ≤ t.length
 | [] => by simp
 | c :: t => by
  rw [List.takeWhile_cons]
  have := qnq p t
  cases q : p c <;> simp <;> omega
theorem qmh (p : UInt8 → Bool) : ∀ t : Str, (t.takeWhile p).all p = true
 | [] => rfl
 | c :: t => by
  rw [List.takeWhile_cons]
  cases q : p c with
  | true => rw [qzv rfl, List.all_cons, q, qmh p t]; rfl
  | false => rw [qzu (by simp)]; rfl
theorem qip (p : UInt8 → Bool) : ∀ t : Str, t.all p = true → t.takeWhile p = t
 | [], _ => rfl
 | c :: t, h => by
  rw [List.all_cons, Bool.and_eq_true] at h
  rw [List.takeWhile_cons, qzv h.1, qip p t h.2]
theorem tw1 (p : UInt8 → Bool) (c : UInt8) (t : Str) : tw p (c :: t) 1 = ((t.takeWhile p).length : Int) + 1 := by
 unfold tw; rw [List.drop_succ_cons, List.drop_zero]; omega
theorem tw0 {p : UInt8 → Bool} {c : UInt8} (t : Str) (h : p c = true) : tw p (c :: t) 0 = ((t.takeWhile p).length : Int) + 1 := by
 rw [qrx (by simp) (by simpa using h)]; exact tw1 p c t
theorem qpd (p : UInt8 → Bool) (c : UInt8) (t : Str) : subL (c :: t) (0 : Int) (((t.takeWhile p).length : Int) + 1) = c :: t.takeWhile p := by
 unfold subL
 rw [show ((((t.takeWhile p).length : Int) + 1) - 0).toNat = (t.takeWhile p).length + 1 from by omega, show ((0 : Int)).toNat = 0 from rfl, List.drop_zero, List.take_succ_cons, qpc]
theorem qry {c : UInt8} (h : isL c = true) : isA c = true := by simp [isA, h]
theorem qmi {n : Nat} {c : UInt8} {t : Str} (hn : 10000 ≤ n) (hs : (c :: t).length ≤ 5000) (hc : isL c = true) : Jbq n (c :: t) = some (1, ((t.takeWhile isA).length : Int) + 1, c :: t.takeWhile isA) := by
 have := qnq isA t
 simp only [List.length_cons] at hs
 unfold Jbq
 rw [show ix (c :: t) 0 = some c from rfl, qzt, show Jba c = some (isL c) from rfl, qzt, hc, qzv rfl, show (1 : Int) = ((1 : Nat) : Int) from rfl, qwi (by simp; omega) n 1 (by simp) (by simp; omega), qzt, tw1, qab (by simp only [List.length_cons]; omega), qpd]
 rfl
theorem qmj {n : Nat} {c : UInt8} {t : Str} (hn : 10000 ≤ n) (hs : (c :: t).length ≤ 5000) (hc : isL c = true) : Jcn n (c :: t) = some (1, c :: t.takeWhile isA, ((t.takeWhile isA).length : Int) + 1) := by
 have := qnq isA t
 simp only [List.length_cons] at hs
 unfold Jcn
 rw [show ix (c :: t) 0 = some c from rfl, qzt, show Jca c = some (isL c) from rfl, qzt, hc, qzv rfl, show JbN (c :: t) n 0 = some (tw isA (c :: t) 0) from qwj (by simp; omega) n 0 (by simp) (by simp; omega), qzt, tw0 t (qry hc), qab (by simp only [List.length_cons]; omega), qpd]
theorem qk1 {n : Nat} {c : UInt8} {t : Str} (hn : 10000 ≤ n) (hs : (c :: t).length ≤ 5000) (hL : isL c = false) (hc : isD c = true) :
  Jcn n (c :: t) = some (if (t.takeWhile isD).length + 1 > 9 then (0, [], 0) else (2, c :: t.takeWhile isD, ((t.takeWhile isD).length : Int) + 1)) := by
 have := qnq isD t
 simp only [List.length_cons] at hs
 unfold Jcn
 rw [show ix (c :: t) 0 = some c from rfl, qzt, show Jca c = some (isL c) from rfl, qzt, hL, qzu (by simp), qzt, show Jb1 c = some (isD c) from rfl, qzt, hc, qzv rfl, show JbO (c :: t) n 0 = some (tw isD (c :: t) 0) from qwk (by simp; omega) n 0 (by simp) (by simp; omega), qzt, tw0 t hc]
 by_cases q : (t.takeWhile isD).length + 1 > 9
 ·rw [qzv (by simp; omega), qzv q]
 ·rw [qzu (by simp; omega), qzu q, qab (by simp only [List.length_cons]; omega), qpd]
def wdy : Str → Bool
 | [] => false
 | c :: t => isL c && t.all isA
def nmr : Str → Bool
 | [] => false
 | c :: t => isD c && t.all isD && decide (t.length ≤ 8)
theorem qy0 {c : UInt8} (h : isL c = true) : (c.toNat : Int) ≠ 10 ∧ (c.toNat : Int) ≠ 32 ∧ (c.toNat : Int) ≠ 9 ∧ (c.toNat : Int) ≠ 13 ∧ (c.toNat : Int) ≠ 35 := by
 simp only [isL, Bool.or_eq_true, Bool.and_eq_true, decide_eq_true_eq] at h
 omega
theorem qzh {c : UInt8} (h : isD c = true) : (c.toNat : Int) ≠ 10 ∧ (c.toNat : Int) ≠ 32 ∧ (c.toNat : Int) ≠ 9 ∧ (c.toNat : Int) ≠ 13 ∧ (c.toNat : Int) ≠ 35 ∧ isL c = false := by
 simp only [isD, Bool.and_eq_true, decide_eq_true_eq] at h
 refine ⟨by omega, by omega, by omega, by omega, by omega, ?_⟩
 simp only [isL, Bool.or_eq_false_iff, Bool.and_eq_false_iff, decide_eq_false_iff_not]
 omega
def Tk (k : Int) (w : Str) : Prop := (k = 1 → wdy w = true) ∧ (k = 2 → nmr w = true)
theorem qwl {n : Nat} {s : Str} (hn : 10000 ≤ n) (h0 : 0 < s.length) (hs : s.length ≤ 5000) {a b : Int} {w : Str} (h : Jbq n s = some (a, b, w)) : a = 1 → wdy w = true := by
 cases s with
 | nil => simp at h0
 | cons c t =>
  cases hL : isL c with
  | true =>
   rw [qmi hn hs hL] at h
   cases h
   exact fun _ => by simp only [wdy, hL, qmh, Bool.and_self]
  | false =>
   intro ha
   subst ha
   unfold Jbq at h
   rw [show ix (c :: t) 0 = some c from rfl, qzt, show Jba c = some (isL c) from rfl, qzt, hL, qzu (by simp), show JaS c = some (isD c) from rfl, qzt] at h
   split at h
   ·obtain ⟨r, hr, h⟩ := bnd h
    split at h
    ·cases h
    ·obtain ⟨_, h⟩ := qay h; cases h
   ·split at h
    ·obtain ⟨r, hr, h⟩ := bnd h; cases h
    ·obtain ⟨_, h⟩ := qay h
     obtain ⟨r, hr, h⟩ := bnd h
     have : ∀ (k i : Nat) (z : Int × Int × Str), JaH (c :: t) k i = some (Fl.ret z) → z.1 = 4 := fun k => by
      induction k with
      | zero => intro i z hz; cases hz
      | succ k ih =>
       intro i z hz
       rw [JaH] at hz
       obtain ⟨p, hp, hz⟩ := bnd hz
       obtain ⟨q, hq, hz⟩ := bnd hz
       split at hz
       ·cases hz; rfl
       ·exact ih _ z hz
     cases r with
     | ret z =>
      rw [el_ret] at h
      have := this _ _ z hr
      rw [Option.some.inj h] at this
      simp at this
     | go z => rw [el_go] at h; cases h
theorem qcn {s : Str} {m : Nat} (hm : 10000 ≤ m) (hs : s.length ≤ 5000) : ∀ (n : Nat) (y : List JB) (a b i : Int) (r : Fl ((List JB) × Err) ((List JB) × Int × Int × Int)), JR s m n y a b i = some r → (∀ t ∈ y, t.Ab = 1 → wdy t.Ac = true) →
  (∀ z, r = Fl.ret z → z.2 = some 2) ∧ ∀ p, r = Fl.go p → ∀ t ∈ p.1, t.Ab = 1 → wdy t.Ac = true
 | 0, y, a, b, i, r, h, hy => by rw [JR] at h; cases h
 | n + 1, y, a, b, i, r, h, hy => by
  rw [JR] at h
  split at h
  ·rename_i hi
   have hi : i < (s.length : Int) := by simpa using hi
   obtain ⟨c, hc, h⟩ := bnd h
   split at h
   ·obtain ⟨_, h⟩ := qay h
    obtain ⟨_, h⟩ := qay h
    exact qcn hm hs n _ _ _ _ r h hy
   ·split at h
    ·obtain ⟨_, h⟩ := qay h; exact qcn hm hs n _ _ _ _ r h hy
    ·split at h
     ·obtain ⟨_, h⟩ := qay h; exact qcn hm hs n _ _ _ _ r h hy
     ·split at h
      ·obtain ⟨_, h⟩ := qay h; exact qcn hm hs n _ _ _ _ r h hy
      ·split at h
       ·obtain ⟨_, _, h⟩ := bnd h; exact qcn hm hs n _ _ _ _ r h hy
       ·obtain ⟨hb, h⟩ := qay h
        obtain ⟨x, hx, h⟩ := bnd h
        split at h
        ·cases h
         exact ⟨fun z e => by cases e; rfl, fun p e => by cases e⟩
        ·obtain ⟨_, h⟩ := qay h
         obtain ⟨_, h⟩ := qay h
         obtain ⟨_, h⟩ := qay h
         obtain ⟨_, h⟩ := qay h
         refine qcn hm hs n _ _ _ _ r h fun t ht => ?_
         rcases List.mem_append.1 ht with ht | ht
         ·exact hy t ht
         ·rw [List.mem_singleton] at ht
          subst ht
          have hsl : (subL s i (s.length : Int)).length = s.length - i.toNat := by
           unfold subL
           rw [List.length_take, List.length_drop]; omega
          obtain ⟨x1, x2, x3⟩ := x
          exact qwl hm (by rw [hsl]; omega) (by rw [hsl]; omega) hx
  ·cases h
   exact ⟨fun z e => (by cases e), fun p e => by cases e; exact hy⟩
theorem qrz {n : Nat} {s : Str} (hn : 10000 ≤ n) {r : List JB × Err} (h : Jbr n s = some r) (he : r.2 = none) : s.length ≤ 4096 ∧ ∀ t ∈ r.1, t.Ab = 1 → wdy t.Ac = true := by
 unfold Jbr at h
 split at h
 ·cases h; cases he
 ·rename_i hl
  have hl : s.length ≤ 4096 := by simp at hl; omega
  obtain ⟨q, hq, h⟩ := bnd h
  obtain ⟨g1, g2⟩ := qcn hn (by omega) n _ _ _ _ q hq (by simp)
  cases q with
  | ret z =>
   rw [el_ret] at h
   have := g1 z rfl
   rw [Option.some.inj h, he] at this; cases this
  | go p =>
   rw [el_go] at h
   obtain ⟨_, h⟩ := qay h
   obtain ⟨_, h⟩ := qay h
   obtain ⟨_, h⟩ := qay h
   cases h
   refine ⟨hl, fun t ht hk => ?_⟩
   rcases List.mem_append.1 ht with ht | ht
   ·exact g2 p rfl t ht hk
   ·rw [List.mem_singleton] at ht
    subst ht
    simp at hk
theorem qnr {n : Nat} {s : Str} (hn : 10000 ≤ n) (hs : s.length ≤ 4096) (hw : wdy s = true) : Jbr n s = some ([⟨1, s, 1, 1⟩, ⟨5, [], 1, (s.length : Int) + 1⟩], none) := by
 cases s with
 | nil => cases hw
 | cons c t =>
  simp only [wdy, Bool.and_eq_true] at hw
  obtain ⟨hc, ht⟩ := hw
  obtain ⟨n1, n2, n3, n4, n5⟩ := qy0 hc
  obtain ⟨k, rfl⟩ : ∃ k, n = k + 2 := ⟨n - 2, by omega⟩
  have hlen : ((c :: t).length : Int) = (t.length : Int) + 1 := by simp
  unfold Jbr
  rw [qzu (by simp only [decide_eq_true_eq]; omega), JR, qzv (by simp only [decide_eq_true_eq]; omega), show ix (c :: t) 0 = some c from rfl, qzt,
   qzu (by simpa using n1), qzu (by simpa using n2), qzu (by simpa using n3), qzu (by simpa using n4), qzu (by simpa using n5), qab (by omega)]
  have e : subL (c :: t) (0 : Int) ((c :: t).length : Int) = c :: t := by
   unfold subL
   rw [show ((0 : Int)).toNat = 0 from rfl, List.drop_zero, List.take_of_length_le (by omega)]
  rw [e, qmi hn (by omega) hc, qip isA t ht, qzt, qzu (by simp only [decide_eq_true_eq]; omega), qab (by constructor <;> omega), qab (by constructor <;> omega),
   qab (by simp [lim]), qab (by constructor <;> simp only <;> omega), JR, qzu (by simp only [decide_eq_true_eq]; omega), qzt, el_go, qab (by constructor <;> simp only <;> omega), qab (by constructor <;> simp only <;> omega), qab (by simp [lim])]
  simp
def kw (s : Str) : Bool := decide (s ∈ gkw0)
theorem qmk (v : Str) : ∀ (l : List Str) (i : Nat), ∃ r, JZ v l i = some r ∧ (v ∈ l → ∃ k : Nat, r = Fl.ret (k : Int)) ∧ (v ∉ l → r = Fl.go ())
 | [], i => ⟨_, rfl, fun h => (by cases h), fun _ => rfl⟩
 | x :: l, i => by
  rw [JZ]
  by_cases q : v = x
  ·exact ⟨_, qzv (by simpa using q), fun _ => ⟨i, rfl⟩, fun h => (by simp [q] at h)⟩
  ·obtain ⟨r, hr, g1, g2⟩ := qmk v l (i + 1)
   rw [qzu (by simpa using q)]
   exact ⟨r, hr, fun h => g1 (by simpa [q] using h), fun h => g2 (by simpa [q] using h)⟩
theorem qns (s : Str) : Jcv s = some (kw s) := by
 obtain ⟨r, hr, g1, g2⟩ := qmk s gkw0 0
 unfold Jcv JP JbA kw
 rw [qab (by decide), hr, qzt]
 by_cases q : s ∈ gkw0
 ·obtain ⟨k, rfl⟩ := g1 q
  rw [el_ret, qzt, qzt]
  simp [q]
 ·rw [g2 q, el_go, qzt, qzt]
  simp [q]
theorem qg1 (s : Str) : ∀ (l : List Str) (i : Nat), Jbl s l i = some (if s ∈ l then Fl.ret true else Fl.go ())
 | [], i => rfl
 | x :: l, i => by
  rw [Jbl]
  by_cases q : x = s
  ·rw [qzv (by simpa using q), qzv (by simp [q])]
  ·rw [qzu (by simpa using q), qg1 s l (i + 1)]
   have : (s ∈ x :: l) ↔ s ∈ l := by
    simp only [List.mem_cons]
    exact ⟨fun h => h.elim (fun e => absurd e.symm q) id, .inr⟩
   simp only [this]
theorem qk2 (s : Str) : Jda s = some (kw s) := by
 have e : Jdn = some gkw0 := rfl
 unfold Jda kw
 rw [e, qzt, qab (by decide), qg1, qzt]
 by_cases q : s ∈ gkw0
 ·rw [qzv q, el_ret]; simp [q]
 ·rw [qzu q, el_go]; simp [q]
def nm (s : Str) : Bool := wdy s && decide (s.length ≤ 4096) && !kw s
theorem qtd {α : Type} {l : List α} {i : Int} {x : α} (h : ix l i = some x) : x ∈ l := by
 unfold ix at h
 split at h
 ·exact List.mem_of_getElem? h
 ·cases h
theorem qiq {n : Nat} (hn : 10000 ≤ n) (s : Str) : JbY n s = some (nm s) := by
 unfold JbY
 by_cases hw : s.length ≤ 4096 ∧ wdy s = true
 ·rw [qnr hn hw.1 hw.2, qzt]
  simp [ix, qns, nm, hw.1, hw.2]
 ·obtain ⟨r, hr⟩ := qf6 (s := s) hn
  have hnm : nm s = false := by
   unfold nm
   cases q : wdy s with
   | false => rfl
   | true => simp; intro h; exact absurd ⟨h, q⟩ hw
  rw [hr, qzt, hnm]
  cases q : (r.2.isNone && decide ((r.1.length : Int) = 2)) with
  | false => rfl
  | true =>
   rw [qzv rfl]
   simp only [Bool.and_eq_true, decide_eq_true_eq] at q
   obtain ⟨g1, g2⟩ := qrz hn hr (by simpa using q.1)
   obtain ⟨t, ht⟩ := qcy (s := r.1) (i := 0) (by omega) (by omega)
   rw [ht, qzt, qzt]
   cases k1 : decide (t.Ab = 1) with
   | false => rfl
   | true =>
    rw [qzv rfl, qzt, qzt]
    cases k2 : decide (t.Ac = s) with
    | false => rfl
    | true =>
     have e1 := of_decide_eq_true k1
     have e2 := of_decide_eq_true k2
     have := g2 t (qtd ht) e1
     rw [e2] at this
     exact absurd ⟨g1, this⟩ hw
theorem qfv : ∀ (s : Str) (i : Nat), JaQ s i = some (if s.all isD = true then Fl.go () else Fl.ret false)
 | [], i => rfl
 | c :: s, i => by
  have e : (if decide ((c.toNat : Int) < 48) = true then some true else some (decide ((c.toNat : Int) > 57))) = some (!isD c) := by
   by_cases q : (c.toNat : Int) < 48
   ·have : isD c = false := by simp only [isD, Bool.and_eq_false_iff, decide_eq_false_iff_not]; omega
    rw [qzv (by simpa using q), this]; rfl
   ·rw [qzu (by simpa using q)]
    by_cases q2 : (c.toNat : Int) > 57
    ·have : isD c = false := by simp only [isD, Bool.and_eq_false_iff, decide_eq_false_iff_not]; omega
     rw [this, decide_eq_true q2]; rfl
    ·have : isD c = true := by simp only [isD, Bool.and_eq_true, decide_eq_true_eq]; omega
     rw [this, decide_eq_false q2]; rfl
  rw [JaQ, e, qzt]
  cases q : isD c with
  | true => rw [qzu (by simp), qfv s (i + 1), List.all_cons, q]; rfl
  | false => rw [qzv (by simp), List.all_cons, q]; rfl
theorem qjm {s : Str} (h : s.length ≤ 3000) : Jct s = some (nmr s) := by
 unfold Jct
 rw [qab (by simp only [qax]; omega), qfv, qzt]
 cases s with
 | nil => rfl
 | cons c t =>
  rw [nmr, List.all_cons]
  cases q : (isD c && t.all isD) with
  | true =>
   rw [qzv rfl, el_go, Bool.true_and]
   have e1 : decide (((c :: t).length : Int) ≥ 1) = true := by simp only [List.length_cons, decide_eq_true_eq]; omega
   have e2 : decide (((c :: t).length : Int) ≤ 9) = decide (t.length ≤ 8) := by
    simp only [List.length_cons, decide_eq_decide]; omega
   rw [e1, e2, Bool.true_and]
  | false => rw [qzu (by simp), el_ret, Bool.false_and]
def prt (s : Str) : Bool := s.all fun c => !(decide ((c.toNat : Int) < 32) || decide ((c.toNat : Int) > 126))
theorem qml (c : UInt8) (s : Str) : prt (c :: s) = (!(decide ((c.toNat : Int) < 32) || decide ((c.toNat : Int) > 126)) && prt s) := by simp [prt]
theorem qmm (c : UInt8) : (if decide ((c.toNat : Int) < 32) = true then some true else some (decide ((c.toNat : Int) > 126))) = some (decide ((c.toNat : Int) < 32) || decide ((c.toNat : Int) > 126)) := by
 cases decide ((c.toNat : Int) < 32) <;> simp
theorem qmn (c : UInt8) : (if decide ((c.toNat : Int) = 34) = true then some true else some (decide ((c.toNat : Int) = 92))) = some (decide ((c.toNat : Int) = 34) || decide ((c.toNat : Int) = 92)) := by
 cases decide ((c.toNat : Int) = 34) <;> simp
theorem qeo : ∀ (s : Str) (i : Nat) (y : Str), y.length + 2 * s.length ≤ 1000000 → ∃ r, JaY s i y = some r ∧ (prt s = true → ∃ z, r = Fl.go z ∧ z.length ≤ 1000000) ∧ (prt s = false → r = Fl.ret ([], some 2))
 | [], i, y, h => ⟨_, rfl, fun _ => ⟨_, rfl, by simpa using h⟩, fun h => (by simp [prt] at h)⟩
 | c :: s, i, y, h => by
  simp only [List.length_cons] at h
  rw [JaY, qmm, qzt, qml]
  cases q : (decide ((c.toNat : Int) < 32) || decide ((c.toNat : Int) > 126)) with
  | true => exact ⟨_, qzv rfl, fun h => (by simp at h), fun _ => rfl⟩
  | false =>
   rw [qzu (by simp), qmn, qzt, Bool.not_false, Bool.true_and]
   cases q2 : (decide ((c.toNat : Int) = 34) || decide ((c.toNat : Int) = 92)) with
   | true =>
    rw [qzv rfl, qab (by simp only [lim, List.length_cons, List.length_nil]; omega), qab (by simp only [lim, List.length_append, List.length_cons, List.length_nil]; omega)]
    exact qeo s (i + 1) _ (by simp only [List.length_append, List.length_cons, List.length_nil]; omega)
   | false =>
    rw [qzu (by simp), qab (by simp only [lim, List.length_cons, List.length_nil]; omega)]
    exact qeo s (i + 1) _ (by simp only [List.length_append, List.length_cons, List.length_nil]; omega)
theorem qcg {s : Str} (h : s.length ≤ 3000) : JaR s = some (prt s) := by
 obtain ⟨r, hr, g1, g2⟩ := qeo s 0 [34] (by simp <;> omega)
 unfold JaR Jc3
 rw [qab (by simp only [qax]; omega), hr, qzt]
 cases q : prt s with
 | false => rw [g2 q, el_ret]; rfl
 | true =>
  obtain ⟨z, rfl, hz⟩ := g1 q
  rw [el_go, qab (by simp only [lim, List.length_cons, List.length_nil]; omega)]; rfl
theorem qd0 {w : Str} : ∀ (s : Str) (i : Nat) (y : Str), i + s.length = w.length → y.length + 2 * s.length ≤ 1000000 → ∃ r, Jbv w s i y = some r ∧ (prt s = true → ∃ z, r = Fl.go z ∧ z.length ≤ 1000000) ∧ (prt s = false → r = Fl.ret ([], false))
 | [], i, y, hi, h => ⟨_, rfl, fun _ => ⟨_, rfl, by simpa using h⟩, fun h => (by simp [prt] at h)⟩
 | c :: s, i, y, hi, h => by
  simp only [List.length_cons] at h hi
  have hsub : (subL w (i : Int) ((i : Int) + 1)).length ≤ 1 := by
   unfold subL
   rw [List.length_take]; omega
  rw [Jbv, qmm, qzt, qml]
  cases q : (decide ((c.toNat : Int) < 32) || decide ((c.toNat : Int) > 126)) with
  | true => exact ⟨_, qzv rfl, fun h => (by simp at h), fun _ => rfl⟩
  | false =>
   rw [qzu (by simp), qmn, qzt, Bool.not_false, Bool.true_and]
   cases q2 : (decide ((c.toNat : Int) = 34) || decide ((c.toNat : Int) = 92)) with
   | true =>
    rw [qzv rfl, qab (by simp only [lim, List.length_cons, List.length_nil]; omega), qab (by omega), qab (by simp only [lim, List.length_append, List.length_cons, List.length_nil]; omega)]
    exact qd0 s (i + 1) _ (by omega) (by simp only [List.length_append, List.length_cons, List.length_nil]; omega)
   | false =>
    rw [qzu (by simp), qab (by omega), qab (by simp only [lim]; omega)]
    exact qd0 s (i + 1) _ (by omega) (by simp only [List.length_append]; omega)
theorem qdu {s : Str} (h : s.length ≤ 3000) : JbC s = some (prt s) := by
 obtain ⟨r, hr, g1, g2⟩ := qd0 (w := s) s 0 [34] (by omega) (by simp <;> omega)
 unfold JbC Jee
 rw [qab (by simp only [qax]; omega), hr, qzt]
 cases q : prt s with
 | false => rw [g2 q, el_ret]; rfl
 | true =>
  obtain ⟨z, rfl, hz⟩ := g1 q
  rw [el_go, qab (by simp only [lim, List.length_cons, List.length_nil]; omega)]; rfl
theorem qfe {s : Str} (hs : s.length ≤ 5000) : ∀ (n : Nat) (y : Str) (i : Int), 0 ≤ i → i ≤ (s.length : Int) → (s.length : Int) - i < n → (y.length : Int) + (s.length - i) ≤ 100000 → ∃ r, Jbf s n y i = some r ∧ ∀ z, r = Fl.ret z → (z.1 = 0 ∧ z.2.2 = 0) ∨ (z.1 = 3 ∧ 0 < z.2.2 ∧ z.2.2 ≤ (s.length : Int))
 | 0, y, i, h0, h3, h1, h2 => by omega
 | n + 1, y, i, h0, h3, h1, h2 => by
  rw [Jbf]
  by_cases hi : i < (s.length : Int)
  ·obtain ⟨c, hc⟩ := qcy h0 hi
   rw [qzv (by simpa using hi), hc, qzt]
   by_cases q : (c.toNat : Int) = 34
   ·rw [qzv (by simpa using q), qab (by constructor <;> omega)]
    exact ⟨_, rfl, fun z e => by cases e; right; exact ⟨rfl, by simp only; omega, by simp only; omega⟩⟩
   ·rw [qzu (by simpa using q)]
    cases hb : (decide ((c.toNat : Int) < 32) || decide ((c.toNat : Int) > 126)) with
    | true => exact ⟨_, qzv rfl, fun z e => by cases e; left; exact ⟨rfl, rfl⟩⟩
    | false =>
     rw [qzu (by simp)]
     have hsub : ∀ j : Int, (subL s j (j + 1)).length ≤ 1 := fun j => by
      unfold subL
      rw [List.length_take]; omega
     by_cases q2 : (c.toNat : Int) = 92
     ·rw [qzv (by simpa using q2), qab (by constructor <;> omega)]
      by_cases q3 : i + 1 = (s.length : Int)
      ·rw [qzv (by simpa using q3)]; exact ⟨_, rfl, fun z e => by cases e; left; exact ⟨rfl, rfl⟩⟩
      ·obtain ⟨d, hd⟩ := qcy (s := s) (i := i + 1) (by omega) (by omega)
       rw [qzu (by simpa using q3), hd, qzt]
       have e2 : ∃ b, (if decide ((d.toNat : Int) ≠ 92) = true then (some d).bind fun x40 => some (decide ((x40.toNat : Int) ≠ 34)) else some false) = some b := qa8 (fun _ => ⟨_, rfl⟩) (fun _ => ⟨_, rfl⟩)
       obtain ⟨b, hb⟩ := e2
       rw [hb, qzt]
       have := hsub (i + 1)
       cases b with
       | true => exact ⟨_, qzv rfl, fun z e => by cases e; left; exact ⟨rfl, rfl⟩⟩
       | false =>
        rw [qzu (by simp), qab (by constructor <;> omega), qab (by omega), qab (by simp only [lim]; omega), qab (by constructor <;> omega)]
        exact qfe hs n _ _ (by omega) (by omega) (by omega) (by simp only [List.length_append]; omega)
     ·have := hsub i
      rw [qzu (by simpa using q2), qab (by constructor <;> omega), qab (by omega), qab (by simp only [lim]; omega), qab (by constructor <;> omega)]
      exact qfe hs n _ _ (by omega) (by omega) (by omega) (by simp only [List.length_append]; omega)
  ·rw [qzu (by simpa using hi)]; exact ⟨_, rfl, fun z e => by cases e⟩
abbrev sgs : List Str := [([61, 61] : Str), ([33, 61] : Str), ([60, 61] : Str), ([60] : Str), ([43] : Str), ([45] : Str), ([42] : Str), ([40] : Str), ([41] : Str), ([123] : Str), ([125] : Str), ([44] : Str), ([59] : Str), ([61] : Str)]
theorem qir {s : Str} : ∀ (k i : Nat), i + k = 14 → ∃ r, Jcg s k i = some r ∧ ∀ z, r = Fl.ret z → z.1 = 4 ∧ 0 ≤ z.2.2 ∧ z.2.2 ≤ (s.length : Int)
 | 0, i, h => ⟨_, rfl, fun z e => by cases e⟩
 | k + 1, i, h => by
  rw [Jcg]
  obtain ⟨p, hp⟩ := qcy (s := sgs) (i := (i : Int)) (by omega) (by simp; omega)
  rw [hp, qzt]
  by_cases h1 : (s.length : Int) ≥ (p.length : Int)
  ·rw [qzv (by simpa using h1), qzt, qab (by omega), qzt, qzt]
   cases q : decide (subL s (0 : Int) (p.length : Int) = p) with
   | true => rw [qzv rfl, qzt, qzt]; exact ⟨_, rfl, fun z e => by cases e; exact ⟨rfl, by simp only; omega, h1⟩⟩
   | false => rw [qzu (by simp)]; exact qir k (i + 1) (by omega)
  ·rw [qzu (by simpa using h1), qzt, qzu (by simp)]; exact qir k (i + 1) (by omega)
theorem qr0 {n : Nat} {s : Str} (hn : 10000 ≤ n) (h0 : 0 < s.length) (hs : s.length ≤ 5000) : ∃ a w b, Jcn n s = some (a, w, b) ∧ 0 ≤ b ∧ b ≤ (s.length : Int) ∧ Tk a w := by
 cases s with
 | nil => simp at h0
 | cons c t =>
  have hl : ((c :: t).length : Int) = (t.length : Int) + 1 := by simp
  cases hL : isL c with
  | true =>
   have := qnq isA t
   exact ⟨_, _, _, qmj hn hs hL, by omega, by omega, fun _ => by simp only [wdy, hL, qmh, Bool.and_self], fun h => by omega⟩
  | false =>
   cases hD : isD c with
   | true =>
    have := qnq isD t
    by_cases q : (t.takeWhile isD).length + 1 > 9
    ·exact ⟨0, [], 0, by rw [qk1 hn hs hL hD, qzv q], by omega, by omega, fun h => by omega, fun h => by omega⟩
    ·exact ⟨2, c :: t.takeWhile isD, ((t.takeWhile isD).length : Int) + 1, by rw [qk1 hn hs hL hD, qzu q], by omega, by omega, fun h => by omega, fun _ => by
      have e : decide ((t.takeWhile isD).length ≤ 8) = true := by simp only [decide_eq_true_eq]; omega
      simp only [nmr, hD, qmh, e, Bool.and_self]⟩
   | false =>
    unfold Jcn
    rw [show ix (c :: t) 0 = some c from rfl, qzt, show Jca c = some (isL c) from rfl, qzt, hL, qzu (by simp), qzt, show Jb1 c = some (isD c) from rfl, qzt, hD, qzu (by simp), qzt]
    by_cases q : (c.toNat : Int) = 34
    ·rw [qzv (by simpa using q)]
     unfold JdP
     obtain ⟨r, hr, h1⟩ := qfe hs n [] 1 (by omega) (by omega) (by omega) (by simp only [List.length_nil]; omega)
     rw [hr, qzt]
     cases r with
     | ret z =>
      rw [el_ret, qzt]
      rcases h1 z rfl with ⟨g1, g2⟩ | ⟨g1, g2, g3⟩
      ·exact ⟨_, _, _, rfl, by omega, by omega, fun h => by omega, fun h => by omega⟩
      ·exact ⟨_, _, _, rfl, by omega, by omega, fun h => by omega, fun h => by omega⟩
     | go z => rw [el_go, qzt]; exact ⟨_, _, _, rfl, by simp, by simp only; omega, fun h => by simp at h, fun h => by simp at h⟩
    ·rw [qzu (by simpa using q)]
     obtain ⟨r, hr, h1⟩ := qir (s := c :: t) 14 0 rfl
     rw [qab (by constructor <;> omega), show ((14 : Int)).toNat = 14 from rfl, hr, qzt]
     cases r with
     | ret z =>
      obtain ⟨g1, g2, g3⟩ := h1 z rfl
      exact ⟨z.1, z.2.1, z.2.2, rfl, g2, g3, fun h => by omega, fun h => by omega⟩
     | go z => exact ⟨_, _, _, rfl, by omega, by omega, fun h => by simp at h, fun h => by simp at h⟩
theorem qjn {s : Str} {i : Int} (h0 : 0 ≤ i) (hs : s.length ≤ 5000) : ∀ (n : Nat) (j : Int), 1 ≤ j → i + j ≤ (s.length : Int) → (s.length : Int) - (i + j) < n → ∃ r, Jb2 i s n j = some r ∧ 1 ≤ r ∧ i + r ≤ (s.length : Int)
 | 0, j, h1, h2, h3 => by omega
 | n + 1, j, h1, h2, h3 => by
  rw [Jb2, qab (by constructor <;> omega)]
  by_cases hi : i + j < (s.length : Int)
  ·obtain ⟨c, hc⟩ := qcy (s := s) (i := i + j) (by omega) hi
   rw [qzv (by simpa using hi), qab (by constructor <;> omega), hc, qzt, qzt]
   by_cases q : (c.toNat : Int) = 10
   ·exact ⟨j, qzu (by simpa using q), h1, h2⟩
   ·rw [qzv (by simpa using q), qab (by constructor <;> omega)]
    exact qjn h0 hs n (j + 1) (by omega) (by omega) (by omega)
  ·rw [qzu (by simpa using hi), qzt]
   exact ⟨j, qzu (by simp), h1, h2⟩
theorem qd1 {s : Str} {m : Nat} (hm : 10000 ≤ m) (hs : s.length ≤ 5000) : ∀ (n : Nat) (y : List JO) (a b i : Int), 0 ≤ i → i ≤ (s.length : Int) → (s.length : Int) - i < n → (y.length : Int) + (s.length - i) ≤ 100000 → 0 ≤ a → a + (s.length - i) ≤ 100000 → 0 ≤ b → b + (s.length - i) ≤ 100000 → (∀ t ∈ y, Tk t.Ab t.Ac) →
  ∃ r, Jav s m n y a b i = some r ∧ (∀ z, r = Fl.ret z → z.2 = 2) ∧ ∀ p, r = Fl.go p → p.1.length ≤ 100000 ∧ ∀ t ∈ p.1, Tk t.Ab t.Ac
 | 0, y, a, b, i, h0, h1, h2, h3, h4, h5, h6, h7, hy => by omega
 | n + 1, y, a, b, i, h0, h1, h2, h3, h4, h5, h6, h7, hy => by
  rw [Jav]
  by_cases hi : i < (s.length : Int)
  ·obtain ⟨c, hc⟩ := qcy h0 hi
   rw [qzv (by simpa using hi), hc, qzt]
   split
   ·rw [qab (by constructor <;> omega), qab (by constructor <;> omega), qab (by constructor <;> omega)]
    exact qd1 hm hs n _ _ _ _ (by omega) (by omega) (by omega) (by omega) (by omega) (by omega) (by omega) (by omega) hy
   ·split
    ·obtain ⟨r, hr, g1, g2⟩ := qjn h0 hs m 1 (by omega) (by omega) (by omega)
     rw [hr, qzt, qab (by constructor <;> omega), qab (by constructor <;> omega)]
     exact qd1 hm hs n _ _ _ _ (by omega) (by omega) (by omega) (by omega) (by omega) (by omega) (by omega) (by omega) hy
    ·split
     ·have hsl : (subL s i (s.length : Int)).length = s.length - i.toNat := by
       unfold subL
       rw [List.length_take, List.length_drop]; omega
      rw [qab (by omega)]
      obtain ⟨u, w, v, hr, g1, g2, g3⟩ := qr0 (n := m) (s := subL s i (s.length : Int)) hm (by omega) (by omega)
      rw [hr, qzt]
      split
      ·exact ⟨_, rfl, fun z e => (by cases e; rfl), fun p e => by cases e⟩
      ·rename_i hz
       have hz' : v ≠ 0 := by simpa using hz
       rw [qab (by simp only [lim, List.length_cons, List.length_nil]; omega), qab (by constructor <;> simp only <;> omega), qab (by constructor <;> simp only <;> omega)]
       refine qd1 hm hs n _ _ _ _ (by simp only; omega) (by simp only; omega) (by simp only; omega) (by simp only [List.length_append, List.length_cons, List.length_nil]; omega) (by omega) (by simp only; omega) (by simp only; omega) (by simp only; omega) fun t ht => ?_
       rcases List.mem_append.1 ht with ht | ht
       ·exact hy t ht
       ·rw [List.mem_singleton] at ht
        subst ht
        exact g3
     ·rw [qab (by constructor <;> omega), qab (by constructor <;> omega)]
      exact qd1 hm hs n _ _ _ _ (by omega) (by omega) (by omega) (by omega) (by omega) (by omega) (by omega) (by omega) hy
  ·rw [qzu (by simpa using hi)]
   exact ⟨_, rfl, fun z e => (by cases e), fun p e => by cases e; exact ⟨by simp only; omega, hy⟩⟩
theorem qpe {n : Nat} {s : Str} (hn : 10000 ≤ n) : ∃ r, Jcx n s = some r ∧ (r.2 = 0 → s.length ≤ 4096 ∧ ∀ t ∈ r.1, Tk t.Ab t.Ac) := by
 unfold Jcx
 by_cases h : (s.length : Int) > 4096
 ·exact ⟨_, qzv (by simpa using h), fun e => by simp at e⟩
 ·obtain ⟨r, hr, h1, h2⟩ := qd1 hn (s := s) (by omega) n [] 1 1 0 (by omega) (by omega) (by omega) (by simp; omega) (by omega) (by omega) (by omega) (by omega) (by simp)
  rw [qzu (by simpa using h), hr, qzt]
  cases r with
  | ret z => rw [el_ret]; exact ⟨_, rfl, fun e => by rw [h1 z rfl] at e; omega⟩
  | go p =>
   obtain ⟨g1, g2⟩ := h2 p rfl
   rw [el_go, qab (by simp only [lim, List.length_cons, List.length_nil]; omega)]
   refine ⟨_, rfl, fun _ => ⟨by omega, fun t ht => ?_⟩⟩
   rcases List.mem_append.1 ht with ht | ht
   ·exact g2 t ht
   ·rw [List.mem_singleton] at ht
    subst ht
    exact ⟨fun h => by simp at h, fun h => by simp at h⟩
theorem qhy {n : Nat} {c : UInt8} {t : Str} {k : Int} (hn : 10000 ≤ n) (hs : (c :: t).length ≤ 4096) (hc : (c.toNat : Int) ≠ 10 ∧ (c.toNat : Int) ≠ 32 ∧ (c.toNat : Int) ≠ 9 ∧ (c.toNat : Int) ≠ 13 ∧ (c.toNat : Int) ≠ 35) (ht : Jcn n (c :: t) = some (k, c :: t, (t.length : Int) + 1)) :
  Jcx n (c :: t) = some ([⟨k, c :: t, 1, 1⟩, ⟨5, [], 1, ((c :: t).length : Int) + 1⟩], 0) := by
 obtain ⟨n1, n2, n3, n4, n5⟩ := hc
 obtain ⟨k, rfl⟩ : ∃ k, n = k + 2 := ⟨n - 2, by omega⟩
 have hlen : ((c :: t).length : Int) = (t.length : Int) + 1 := by simp
 unfold Jcx
 have e : subL (c :: t) (0 : Int) ((c :: t).length : Int) = c :: t := by
  unfold subL
  rw [show ((0 : Int)).toNat = 0 from rfl, List.drop_zero, List.take_of_length_le (by omega)]
 rw [qzu (by simp only [decide_eq_true_eq]; omega), Jav, qzv (by simp only [decide_eq_true_eq]; omega), show ix (c :: t) 0 = some c from rfl, qzt,
  qzu (by simpa using n1), qzu (by simpa using n5), qzv (by simp only [Bool.and_eq_true, decide_eq_true_eq]; exact ⟨⟨n2, n3⟩, n4⟩), qab (by omega), e, ht, qzt, qzu (by simp only [decide_eq_true_eq]; omega),
  qab (by simp [lim]), qab (by constructor <;> simp only <;> omega), qab (by constructor <;> simp only <;> omega), Jav, qzu (by simp only [decide_eq_true_eq]; omega), qzt, el_go, qab (by simp [lim])]
 simp
 omega
theorem qjo {n : Nat} {s : Str} (hn : 10000 ≤ n) : Jb3 n s 1 = some (wdy s && decide (s.length ≤ 4096)) ∧ Jb3 n s 2 = some (nmr s) := by
 have tail : ∀ (k : Int) (b : Bool), (k = 1 → wdy s = true → s.length ≤ 4096 → b = true) → (k = 2 → nmr s = true → s.length ≤ 4096 → b = true) → (k = 1 ∨ k = 2) → b = false → Jb3 n s k = some b := fun k b h1 h2 hk hb => by
  subst hb
  obtain ⟨r, hr, g⟩ := qpe (s := s) hn
  unfold Jb3
  rw [hr, qzt]
  cases q : (decide (r.2 = 0) && decide ((r.1.length : Int) = 2)) with
  | false => rfl
  | true =>
   rw [qzv rfl]
   simp only [Bool.and_eq_true, decide_eq_true_eq] at q
   obtain ⟨g1, g2⟩ := g q.1
   obtain ⟨t, ht⟩ := qcy (s := r.1) (i := 0) (by omega) (by omega)
   rw [ht, qzt, qzt]
   cases k1 : decide (t.Ab = k) with
   | false => rfl
   | true =>
    rw [qzv rfl, qzt, qzt]
    cases k2 : decide (t.Ac = s) with
    | false => rfl
    | true =>
     have e1 := of_decide_eq_true k1
     have e2 := of_decide_eq_true k2
     have := g2 t (qtd ht)
     rw [e1, e2] at this
     rcases hk with rfl | rfl
     ·exact absurd (h1 rfl (this.1 rfl) g1) (by simp)
     ·exact absurd (h2 rfl (this.2 rfl) g1) (by simp)
 have one : ∀ (k : Int), Jcx n s = some ([⟨k, s, 1, 1⟩, ⟨5, [], 1, (s.length : Int) + 1⟩], 0) → s.length ≤ 4096 → Jb3 n s k = some true := fun k h hl => by
  unfold Jb3
  rw [h, qzt, qzv (by simp), show ix ([⟨k, s, 1, 1⟩, ⟨5, [], 1, (s.length : Int) + 1⟩] : List JO) 0 = some ⟨k, s, 1, 1⟩ from rfl, show ix ([⟨k, s, 1, 1⟩, ⟨5, [], 1, (s.length : Int) + 1⟩] : List JO) 1 = some ⟨5, [], 1, (s.length : Int) + 1⟩ from rfl,
   qzt, qzt, qzv (by simp), qzt, qzt, qzv (by simp), qzt, qzt, qzv (by simp), qzt, qab (by constructor <;> omega), qzt, qzv (by simp), qzt]
  rfl
 constructor
 ·cases q : (wdy s && decide (s.length ≤ 4096)) with
  | false => exact tail 1 false (fun _ a b => by rw [a, decide_eq_true b] at q; cases q) (fun h => by omega) (.inl rfl) rfl
  | true =>
   simp only [Bool.and_eq_true, decide_eq_true_eq] at q
   refine one 1 ?_ q.2
   cases s with
   | nil => cases q.1
   | cons c t =>
    have hw := q.1
    simp only [wdy, Bool.and_eq_true] at hw
    refine qhy hn q.2 (qy0 hw.1) ?_
    rw [qmj hn (by omega) hw.1, qip isA t hw.2]
 ·cases q : nmr s with
  | false => exact tail 2 false (fun h => by omega) (fun _ a b => by rw [a] at q; cases q) (.inr rfl) rfl
  | true =>
   cases s with
   | nil => cases q
   | cons c t =>
    have hw := q
    simp only [nmr, Bool.and_eq_true, decide_eq_true_eq] at hw
    obtain ⟨⟨w1, w2⟩, w3⟩ := hw
    obtain ⟨n1, n2, n3, n4, n5, n6⟩ := qzh w1
    refine one 2 ?_ (by simp only [List.length_cons]; omega)
    refine qhy hn (by simp only [List.length_cons]; omega) ⟨n1, n2, n3, n4, n5⟩ ?_
    rw [qk1 hn (by simp only [List.length_cons]; omega) n6 w1, qip isD t w2, qzu (by omega)]
theorem qg2 {n : Nat} (hn : 10000 ≤ n) (s : Str) : JcV n s = some (nm s) := by
 unfold JcV nm
 rw [(qjo hn).1, qzt, qk2]
 cases (wdy s && decide (s.length ≤ 4096)) <;> rfl
theorem A2.imp_mem {α β : Type} {P Q : α → β → Prop} {l : List α} {k : List β} (h : A2 P l k) (hf : ∀ a ∈ l, ∀ b, P a b → Q a b) : A2 Q l k := by
 induction h with
 | nil => exact .nil
 | cons hp _ ih => exact .cons (hf _ (by simp) _ hp) (ih fun a ha => hf a (by simp [ha]))
def Sm (f : N → Option Bool) (g : M → Option Bool) (x : N) (y : M) : Prop := ∃ b, f x = some b ∧ g y = some b
def gor (b : Bool) : Fl Bool Unit := if b then Fl.go () else Fl.ret false
theorem qhz (b c : Bool) : (gor b).el some (fun _ => some c) = some (b && c) := by cases b <;> rfl
theorem qfw {f : N → Option Bool} {g : M → Option Bool} {l : List N} {k : List M} (h : A2 (Sm f g) l k) : ∀ i j : Nat, ∃ b : Bool, JaN f l i = some (gor b) ∧ JJ g k j = some (gor b) ∧ (l = [] → b = true) := by
 induction h with
 | nil => exact fun i j => ⟨true, rfl, rfl, fun _ => rfl⟩
 | cons hp _ ih =>
  intro i j
  obtain ⟨b, h1, h2⟩ := hp
  rw [JaN, JJ, h1, h2, qzt, qzt]
  cases b with
  | false => exact ⟨false, rfl, rfl, fun h => by cases h⟩
  | true =>
   obtain ⟨b, g1, g2, _⟩ := ih (i + 1) (j + 1)
   exact ⟨b, g1, g2, fun h => by cases h⟩
theorem qh0 {m n : Nat} {g : M → Option Bool} {l : List N} {k : List M} (h : A2 (Sm (J5 (JbP m) n) g) l k) : ∀ i j : Nat, ∃ b : Bool, Jcb (JbP m) n l i = some (gor b) ∧ JW g k j = some (gor b) := by
 induction h with
 | nil => exact fun i j => ⟨true, rfl, rfl⟩
 | cons hp _ ih =>
  intro i j
  obtain ⟨b, h1, h2⟩ := hp
  rw [Jcb, JW, h1, h2, qzt, qzt]
  cases b with
  | false => exact ⟨false, rfl, rfl⟩
  | true => exact ih (i + 1) (j + 1)
theorem qdv {n : Nat} : ∀ (l : List M) (i j : Nat), Jaz n l i = JW (Js n) l j
 | [], i, j => rfl
 | k :: l, i, j => by
  rw [Jaz, JW]
  congr 1; funext b; rw [qdv l (i + 1) (j + 1)]
def cmp (s : Str) : Bool := decide (s = [61, 61]) || (decide (s = [33, 61]) || (decide (s = [60]) || (decide (s = [60, 61]) || (decide (s = [115, 116, 97, 114, 116, 115]) || (decide (s = [101, 110, 100, 115]) || decide (s = [99, 111, 110, 116, 97, 105, 110, 115]))))))
theorem qjp (s : Str) : JcN s = some (cmp s) := by
 unfold JcN
 rw [qab (by constructor <;> omega), show ((7 : Int)).toNat = 7 from rfl]
 by_cases h1 : s = [61, 61]; · subst h1; rfl
 by_cases h2 : s = [33, 61]; · subst h2; rfl
 by_cases h3 : s = [60]; · subst h3; rfl
 by_cases h4 : s = [60, 61]; · subst h4; rfl
 by_cases h5 : s = [115, 116, 97, 114, 116, 115]; · subst h5; rfl
 by_cases h6 : s = [101, 110, 100, 115]; · subst h6; rfl
 by_cases h7 : s = [99, 111, 110, 116, 97, 105, 110, 115]; · subst h7; rfl
 simp [Jby, ix, h1, h2, h3, h4, h5, h6, h7, cmp, Fl.el]
theorem qg3 (s : Str) : ((JaK 4 s).bind fun x22 => (if x22 = true then some true else (JaK 1 s).bind fun x26 => some x26)) = some (cmp s) := by
 by_cases h1 : s = [61, 61]; · subst h1; rfl
 by_cases h2 : s = [33, 61]; · subst h2; rfl
 by_cases h3 : s = [60]; · subst h3; rfl
 by_cases h4 : s = [60, 61]; · subst h4; rfl
 by_cases h5 : s = [115, 116, 97, 114, 116, 115]; · subst h5; rfl
 by_cases h6 : s = [101, 110, 100, 115]; · subst h6; rfl
 by_cases h7 : s = [99, 111, 110, 116, 97, 105, 110, 115]; · subst h7; rfl
 simp [JaK, h1, h2, h3, h4, h5, h6, h7, cmp]
theorem quz {n : Nat} {y : M} {k : Int} {b : Bool} (hk : Jv n y = some k) (hl : y.Aa.length ≤ 3000) (hb : JJ (Jr n) y.Aa 0 = some (gor b)) :
  Jr (n + 1) y = some (if k = -2 then false else if 0 ≤ k then b && decide ((y.Aa.length : Int) = k) else b) := by
 rw [Jr, hk, qzt]
 by_cases q : k = -2
 ·rw [qzv (by simpa using q), qzv q]
 ·rw [qzu (by simpa using q), qzu q]
  by_cases q2 : 0 ≤ k
  ·by_cases q3 : (y.Aa.length : Int) = k
   ·rw [qzu (by simp [q3]), qab (by simp only [qax]; omega), hb, qzt, qhz, qzv q2, decide_eq_true q3]
   ·rw [qzv (by simp [q3]; omega), qzv q2, decide_eq_false q3, Bool.and_false]
  ·rw [qzu (by simp; omega), qab (by simp only [qax]; omega), hb, qzt, qhz, qzu q2, Bool.and_true]
theorem qg4 {f : N → Option Bool} {n : Nat} {l : List N} {b : Bool} (hl : l.length ≤ 3000) (hb : JaN f l 0 = some (gor b)) (k : Int) : Jag f n l k = some (b && decide ((l.length : Int) = k)) := by
 unfold Jag
 rw [qab (by simp only [qax]; omega), hb, qzt, qhz]
theorem qd2 {c : Bool} {b : Bool} : (if c = true then (some b).bind fun x => some x else some false) = some (c && b) := by cases c <;> rfl
theorem qf1 {c : Bool} {k : Int} : (if (!c) = true then some (-2) else some k) = some (if c = true then k else -2) := by cases c <;> rfl
theorem qdd : ∀ (d f n : Nat) (x : N) (y : M), OkN d x → Cvd d x y → d + 10000 ≤ f → d + 10000 ≤ n → Sm (Jt f) (Jr n) x y
 | d + 1, 0, n, x, y, h, hc, hf, hn => by omega
 | d + 1, f + 1, 0, x, y, h, hc, hf, hn => by omega
 | d + 1, f + 1, n + 1, x, y, h, hc, hf, hn => by
  obtain ⟨h1, h2, h3⟩ := h
  obtain ⟨c1, c2, c3, c4⟩ := hc
  have hlen := c4.len
  obtain ⟨b, b1, b2, b3⟩ := qfw (c4.imp_mem fun a ha q hq => qdd d f n a q (h3 a ha) hq (by omega) (by omega)) 0 0
  have ex := qg4 (n := f) (by omega) b1
  have hb0 : decide ((x.Aa.length : Int) = 0) = (b && decide ((x.Aa.length : Int) = 0)) := by
   cases q : decide ((x.Aa.length : Int) = 0) with
   | false => rw [Bool.and_false]
   | true => rw [b3 (List.length_eq_zero_iff.1 (by have := of_decide_eq_true q; omega))]; rfl
  have fin : ∀ (c : Bool) (k : Int), 0 ≤ k → Jv n y = some (if c = true then k else -2) → Jt (f + 1) x = some (c && (b && decide ((x.Aa.length : Int) = k))) → Sm (Jt (f + 1)) (Jr (n + 1)) x y := fun c k hk ho hr => by
   refine ⟨_, hr, ?_⟩
   rw [quz ho (by omega) b2, hlen]
   cases c with
   | false => rfl
   | true => rw [qzv rfl, qzu (by omega), qzv hk, Bool.true_and]
  have t0 : decide (x.Ac = ([] : Str)) = decide (y.Ac = ([] : Str)) := by rw [c2]
  by_cases k13 : x.Ab = 13
  ·refine fin (decide (x.Ac = [])) 2 (by omega) ?_ ?_
   ·rw [Jv, c1, qzv (by simpa using k13), c2, qf1]
   ·rw [Jt, qzv (by simpa using k13), ex, qd2]; rfl
  by_cases k14 : x.Ab = 14
  ·refine fin (decide (x.Ac = [])) 2 (by omega) ?_ ?_
   ·rw [Jv, c1, qzu (by simpa using k13), qzv (by simpa using k14), c2, qf1]
   ·rw [Jt, qzu (by simpa using k13), qzv (by simpa using k14), ex, qd2]; rfl
  by_cases k17 : x.Ab = 17
  ·refine fin (decide (x.Ac = [])) 2 (by omega) ?_ ?_
   ·rw [Jv, c1, qzu (by simpa using k13), qzu (by simpa using k14), qzv (by simpa using k17), c2, qf1]
   ·rw [Jt, qzu (by simpa using k13), qzu (by simpa using k14), qzv (by simpa using k17), ex, qd2]; rfl
  by_cases k18 : x.Ab = 18
  ·refine fin (decide (x.Ac = [])) 2 (by omega) ?_ ?_
   ·rw [Jv, c1, qzu (by simpa using k13), qzu (by simpa using k14), qzu (by simpa using k17), qzv (by simpa using k18), c2, qf1]
   ·rw [Jt, qzu (by simpa using k13), qzu (by simpa using k14), qzu (by simpa using k17), qzv (by simpa using k18), ex, qd2]; rfl
  by_cases k19 : x.Ab = 19
  ·refine fin (decide (x.Ac = [])) 2 (by omega) ?_ ?_
   ·rw [Jv, c1, qzu (by simpa using k13), qzu (by simpa using k14), qzu (by simpa using k17), qzu (by simpa using k18), qzv (by simpa using k19), c2, qf1]
   ·rw [Jt, qzu (by simpa using k13), qzu (by simpa using k14), qzu (by simpa using k17), qzu (by simpa using k18), qzv (by simpa using k19), ex, qd2]; rfl
  by_cases k15 : x.Ab = 15
  ·refine fin (decide (x.Ac = [])) 1 (by omega) ?_ ?_
   ·rw [Jv, c1, qzu (by simpa using k13), qzu (by simpa using k14), qzu (by simpa using k17), qzu (by simpa using k18), qzu (by simpa using k19), qzv (by simpa using k15), c2, qf1]
   ·rw [Jt, qzu (by simpa using k13), qzu (by simpa using k14), qzu (by simpa using k17), qzu (by simpa using k18), qzu (by simpa using k19), qzv (by simpa using k15), ex, qd2]; rfl
  by_cases k16 : x.Ab = 16
  ·refine fin (cmp x.Ac) 2 (by omega) ?_ ?_
   ·rw [Jv, c1, qzu (by simpa using k13), qzu (by simpa using k14), qzu (by simpa using k17), qzu (by simpa using k18), qzu (by simpa using k19), qzu (by simpa using k15), qzv (by simpa using k16), c2, ← qf1]
    have e := qg3 x.Ac
    cases q : JaK 4 x.Ac with
    | none => rw [q] at e; cases e
    | some v =>
     rw [q, qzt] at e
     rw [qzt, e, qzt]
   ·rw [Jt, qzu (by simpa using k13), qzu (by simpa using k14), qzu (by simpa using k17), qzu (by simpa using k18), qzu (by simpa using k19), qzu (by simpa using k15), qzv (by simpa using k16), qjp, qzt, ex, qd2]; rfl
  by_cases k20 : x.Ab = 20
  ·refine fin (nmr x.Ac) 0 (by omega) ?_ ?_
   ·rw [Jv, c1, qzu (by simpa using k13), qzu (by simpa using k14), qzu (by simpa using k17), qzu (by simpa using k18), qzu (by simpa using k19), qzu (by simpa using k15), qzu (by simpa using k16), qzv (by simpa using k20), c2, qjm h1, qzt, qf1]
   ·rw [Jt, qzu (by simpa using k13), qzu (by simpa using k14), qzu (by simpa using k17), qzu (by simpa using k18), qzu (by simpa using k19), qzu (by simpa using k15), qzu (by simpa using k16), qzv (by simpa using k20), (qjo (by omega)).2, qzt, ← hb0]
  by_cases k21 : x.Ab = 21
  ·refine fin (prt x.Ac) 0 (by omega) ?_ ?_
   ·rw [Jv, c1, qzu (by simpa using k13), qzu (by simpa using k14), qzu (by simpa using k17), qzu (by simpa using k18), qzu (by simpa using k19), qzu (by simpa using k15), qzu (by simpa using k16), qzu (by simpa using k20), qzv (by simpa using k21), c2, qcg h1, qzt, qf1]
   ·rw [Jt, qzu (by simpa using k13), qzu (by simpa using k14), qzu (by simpa using k17), qzu (by simpa using k18), qzu (by simpa using k19), qzu (by simpa using k15), qzu (by simpa using k16), qzu (by simpa using k20), qzv (by simpa using k21), qdu h1, qzt, ← hb0]
  by_cases k22 : x.Ab = 22
  ·refine fin (decide (x.Ac = ([116, 114, 117, 101] : Str)) || decide (x.Ac = ([102, 97, 108, 115, 101] : Str))) 0 (by omega) ?_ ?_
   ·rw [Jv, c1, qzu (by simpa using k13), qzu (by simpa using k14), qzu (by simpa using k17), qzu (by simpa using k18), qzu (by simpa using k19), qzu (by simpa using k15), qzu (by simpa using k16), qzu (by simpa using k20), qzu (by simpa using k21), qzv (by simpa using k22), c2, qf1]
   ·rw [Jt, qzu (by simpa using k13), qzu (by simpa using k14), qzu (by simpa using k17), qzu (by simpa using k18), qzu (by simpa using k19), qzu (by simpa using k15), qzu (by simpa using k16), qzu (by simpa using k20), qzu (by simpa using k21), qzv (by simpa using k22), ← hb0]
  by_cases k23 : x.Ab = 23
  ·refine fin (nm x.Ac) 0 (by omega) ?_ ?_
   ·rw [Jv, c1, qzu (by simpa using k13), qzu (by simpa using k14), qzu (by simpa using k17), qzu (by simpa using k18), qzu (by simpa using k19), qzu (by simpa using k15), qzu (by simpa using k16), qzu (by simpa using k20), qzu (by simpa using k21), qzu (by simpa using k22), qzv (by simpa using k23), c2, qiq (by omega), qzt, qf1]
   ·rw [Jt, qzu (by simpa using k13), qzu (by simpa using k14), qzu (by simpa using k17), qzu (by simpa using k18), qzu (by simpa using k19), qzu (by simpa using k15), qzu (by simpa using k16), qzu (by simpa using k20), qzu (by simpa using k21), qzu (by simpa using k22), qzv (by simpa using k23), qg2 (by omega), qzt, ← hb0]
  by_cases k24 : x.Ab = 24
  ·refine ⟨nm x.Ac && b, ?_, ?_⟩
   ·rw [Jt, qzu (by simpa using k13), qzu (by simpa using k14), qzu (by simpa using k17), qzu (by simpa using k18), qzu (by simpa using k19), qzu (by simpa using k15), qzu (by simpa using k16), qzu (by simpa using k20), qzu (by simpa using k21), qzu (by simpa using k22), qzu (by simpa using k23), qzv (by simpa using k24), qg2 (by omega), qzt, ex, qd2, decide_eq_true rfl, Bool.and_true]; rfl
   ·have ho : Jv n y = some (if nm x.Ac = true then -1 else -2) := by
     rw [Jv, c1, qzu (by simpa using k13), qzu (by simpa using k14), qzu (by simpa using k17), qzu (by simpa using k18), qzu (by simpa using k19), qzu (by simpa using k15), qzu (by simpa using k16), qzu (by simpa using k20), qzu (by simpa using k21), qzu (by simpa using k22), qzu (by simpa using k23), qzv (by simpa using k24), c2, qiq (by omega), qzt, qf1]
    rw [quz ho (by omega) b2]
    cases nm x.Ac with
    | false => rfl
    | true => rw [qzv rfl, qzu (by omega), qzu (by omega), Bool.true_and]
  ·refine ⟨false, ?_, ?_⟩
   ·rw [Jt, qzu (by simpa using k13), qzu (by simpa using k14), qzu (by simpa using k17), qzu (by simpa using k18), qzu (by simpa using k19), qzu (by simpa using k15), qzu (by simpa using k16), qzu (by simpa using k20), qzu (by simpa using k21), qzu (by simpa using k22), qzu (by simpa using k23), qzu (by simpa using k24)]
   ·have ho : Jv n y = some (-2) := by
     rw [Jv, c1, qzu (by simpa using k13), qzu (by simpa using k14), qzu (by simpa using k17), qzu (by simpa using k18), qzu (by simpa using k19), qzu (by simpa using k15), qzu (by simpa using k16), qzu (by simpa using k20), qzu (by simpa using k21), qzu (by simpa using k22), qzu (by simpa using k23), qzu (by simpa using k24)]
    rw [quz ho (by omega) b2]; rfl
theorem Sm.ix {f : N → Option Bool} {g : M → Option Bool} {l : List N} {k : List M} (h : A2 (Sm f g) l k) {i : Int} (h0 : 0 ≤ i) (h1 : i < (l.length : Int)) : ∃ a b r, ix l i = some a ∧ ix k i = some b ∧ f a = some r ∧ g b = some r := by
 induction h generalizing i with
 | nil => simp at h1; omega
 | cons hp _ ih =>
  rename_i a b l k _
  simp only [List.length_cons] at h1
  by_cases q : i = 0
  ·subst q
   obtain ⟨r, h2, h3⟩ := hp
   exact ⟨a, b, r, rfl, rfl, h2, h3⟩
  ·obtain ⟨a', b', r, e1, e2, e3, e4⟩ := ih (i := i - 1) (by omega) (by omega)
   have st : ∀ {α : Type} (x : α) (t : List α), Go.SL.ix (x :: t) i = Go.SL.ix t (i - 1) := fun x t => by
    unfold Go.SL.ix
    rw [qzv h0, qzv (by omega), show i.toNat = (i - 1).toNat + 1 from by omega, List.getElem?_cons_succ]
   exact ⟨a', b', r, by rw [st, e1], by rw [st, e2], e3, e4⟩
theorem A2.ix {α β : Type} {P : α → β → Prop} {l : List α} {k : List β} (h : A2 P l k) {i : Int} (h0 : 0 ≤ i) (h1 : i < (l.length : Int)) : ∃ a b, ix l i = some a ∧ ix k i = some b ∧ P a b ∧ a ∈ l := by
 induction h generalizing i with
 | nil => simp at h1; omega
 | cons hp _ ih =>
  rename_i a b l k _
  simp only [List.length_cons] at h1
  by_cases q : i = 0
  ·subst q
   exact ⟨a, b, rfl, rfl, hp, by simp⟩
  ·obtain ⟨a', b', e1, e2, e3, e4⟩ := ih (i := i - 1) (by omega) (by omega)
   have st : ∀ {α : Type} (x : α) (t : List α), Go.SL.ix (x :: t) i = Go.SL.ix t (i - 1) := fun x t => by
    unfold Go.SL.ix
    rw [qzv h0, qzv (by omega), show i.toNat = (i - 1).toNat + 1 from by omega, List.getElem?_cons_succ]
   exact ⟨a', b', by rw [st, e1], by rw [st, e2], e3, by simp [e4]⟩
theorem qpf {m n : Nat} {l : List N} {b : Bool} (hl : l.length ≤ 3000) (hb : Jcb (JbP m) m l 0 = some (gor b)) : JbP (m + 1) l = some b := by
 rw [JbP, qab (by simp only [qax]; omega), hb, qzt, qhz, Bool.and_true]
theorem qk3 {g : M → Option Bool} {n : Nat} {y : M} {b : Bool} (hl : y.Aa.length ≤ 3000) (hb : JW g y.Aa 0 = some (gor b)) : JaI g n y = some ((decide (y.Ab = 12) && decide (y.Ac = [])) && b) := by
 unfold JaI
 by_cases q : y.Ab = 12
 ·by_cases q2 : y.Ac = []
  ·rw [qzu (by simp [q, q2]), qab (by simp only [qax]; omega), hb, qzt, qhz, decide_eq_true q, decide_eq_true q2]; cases b <;> rfl
  ·rw [qzv (by simp [q2]), decide_eq_false q2, Bool.and_false, Bool.false_and]
 ·rw [qzv (by simp [q]), decide_eq_false q, Bool.false_and, Bool.false_and]
theorem qte {c : Bool} {A : Option Bool} : (if (!c) = true then some false else A) = if c = true then A else some false := by cases c <;> rfl
theorem qff : ∀ (d m f n : Nat) (x : N) (y : M), OkN d x → Cvd d x y → d + 10000 ≤ m → d + 10000 ≤ f → d + 10000 ≤ n → Sm (J5 (JbP m) f) (Js n) x y
 | d + 1, m, 0, n, x, y, h, hc, hm, hf, hn => by omega
 | d + 1, m, f + 1, 0, x, y, h, hc, hm, hf, hn => by omega
 | d + 1, 0, f + 1, n + 1, x, y, h, hc, hm, hf, hn => by omega
 | d + 1, m + 1, f + 1, n + 1, x, y, h, hc, hm, hf, hn => by
  obtain ⟨h1, h2, h3⟩ := h
  obtain ⟨c1, c2, c3, c4⟩ := hc
  have hlen := c4.len
  have ex : ∀ {i : Int}, 0 ≤ i → i < (x.Aa.length : Int) → ∃ a b r, ix x.Aa i = some a ∧ ix y.Aa i = some b ∧ Jt f a = some r ∧ Jr n b = some r := fun h0 hi =>
   Sm.ix (c4.imp_mem fun a ha q hq => qdd d f n a q (h3 a ha) hq (by omega) (by omega)) h0 hi
  have bl : ∀ {i : Int}, 0 ≤ i → i < (x.Aa.length : Int) → ∃ a b r, ix x.Aa i = some a ∧ ix y.Aa i = some b ∧ JcZ (JbP (m + 1)) f a = some r ∧ JaI (Js n) n b = some r := fun {i} h0 hi => by
   obtain ⟨a, b, e1, e2, hp, ha⟩ := c4.ix h0 hi
   refine ⟨a, b, ?_⟩
   have ho := h3 a ha
   cases d with
   | zero => exact ho.elim
   | succ d =>
    obtain ⟨g1, g2, g3⟩ := ho
    obtain ⟨q1, q2, q3, q4⟩ := hp
    obtain ⟨v, v1, v2⟩ := qh0 (g := Js n) (m := m) (n := m) (q4.imp_mem fun a ha q hq => qff d m m n a q (g3 a ha) hq (by omega) (by omega) (by omega)) 0 0
    refine ⟨(decide (a.Ab = 12) && decide (a.Ac = [])) && v, e1, e2, ?_, ?_⟩
    ·unfold JcZ
     rw [qpf (n := n) (by omega) v1, qd2]; rfl
    ·rw [qk3 (by rw [q4.len]; omega) v2, q1, q2]
  have st : ∀ {i : Int}, 0 ≤ i → i < (x.Aa.length : Int) → ∃ a b r, ix x.Aa i = some a ∧ ix y.Aa i = some b ∧ b.Ab = a.Ab ∧ J5 (JbP (m + 1)) f a = some r ∧ Js n b = some r := fun {i} h0 hi => by
   obtain ⟨a, b, e1, e2, hp, ha⟩ := c4.ix h0 hi
   obtain ⟨r, r1, r2⟩ := qff d (m + 1) f n a b (h3 a ha) hp (by omega) (by omega) (by omega)
   cases d with
   | zero => exact (h3 a ha).elim
   | succ d => exact ⟨a, b, r, e1, e2, hp.1, r1, r2⟩
  have one : ∃ b : Bool, (∀ c : Bool, (if c = true then (Jag (Jt f) f x.Aa 1).bind fun x85 => some x85 else some false) = some (c && b)) ∧
    ((if decide ((y.Aa.length : Int) = 1) then (ix y.Aa 0).bind fun x121 => (Jr n x121).bind fun x123 => some x123 else some false).bind fun x124 => some x124) = some b := by
   by_cases q : (x.Aa.length : Int) = 1
   ·obtain ⟨a, b, r, e1, e2, e3, e4⟩ := ex (i := 0) (by omega) (by omega)
    refine ⟨r, fun c => ?_, ?_⟩
    ·have hx : x.Aa = [a] := by
      match hk : x.Aa, q, e1 with
      | [z], _, e1 => cases e1; rfl
     have hb : JaN (Jt f) x.Aa 0 = some (gor r) := by
      rw [hx, JaN, e3, qzt]; cases r <;> rfl
     rw [qg4 (by omega) hb, decide_eq_true q, Bool.and_true, qd2]
    ·rw [hlen, qzv (by simpa using q), e2, qzt, e4]; rfl
   ·obtain ⟨b, b1, b2, b3⟩ := qfw (c4.imp_mem fun a ha q hq => qdd d f n a q (h3 a ha) hq (by omega) (by omega)) 0 0
    refine ⟨false, fun c => ?_, ?_⟩
    ·rw [qg4 (by omega) b1, decide_eq_false q, Bool.and_false, qd2]
    ·rw [hlen, qzu (by simpa using q)]; rfl
  obtain ⟨B, B1, B2⟩ := one
  by_cases k2 : x.Ab = 2
  ·unfold Sm
   have d2 : decide (x.Ab = 2) = true := decide_eq_true k2
   rw [J5, Js, c1, c2, hlen, qzv d2, qzv d2]
   cases q : ((decide (x.Ac ≠ ([] : Str)) || decide ((x.Aa.length : Int) < 2)) || decide ((x.Aa.length : Int) > 3)) with
   | true => exact ⟨false, rfl, rfl⟩
   | false =>
    simp only [Bool.or_eq_false_iff, decide_eq_false_iff_not] at q
    obtain ⟨a0, b0, r0, e1, e2, e3, e4⟩ := ex (i := 0) (by omega) (by omega)
    simp only [Bool.false_eq_true, if_false]
    rw [e1, e2]
    simp only [qzt]
    rw [e3, e4]
    simp only [qzt]
    cases r0 with
    | false => exact ⟨false, rfl, rfl⟩
    | true =>
     obtain ⟨a1, b1, r1, f1, f2, f3, f4⟩ := bl (i := 1) (by omega) (by omega)
     simp only [qzt, Bool.not_true, Bool.false_eq_true, if_false]
     rw [f1, f2]
     simp only [qzt]
     rw [f3, f4]
     simp only [qzt]
     cases r1 with
     | false => exact ⟨false, rfl, rfl⟩
     | true =>
      simp only [qzt, Bool.not_true, Bool.false_eq_true, if_false]
      by_cases k3 : (x.Aa.length : Int) = 2
      ·rw [decide_eq_true k3]; exact ⟨true, rfl, rfl⟩
      ·obtain ⟨a2, b2, r2, g1, g2, g3, g4⟩ := bl (i := 2) (by omega) (by omega)
       obtain ⟨a3, b3, r3, g5, g6, g7, g8, g9⟩ := st (i := 2) (by omega) (by omega)
       rw [g1] at g5
       rw [g2] at g6
       cases g5
       cases g6
       rw [decide_eq_false k3]
       simp only [Bool.false_eq_true, if_false]
       rw [g1, g2]
       simp only [qzt]
       rw [g3, g4]
       simp only [qzt]
       cases r2 with
       | true => exact ⟨true, rfl, rfl⟩
       | false =>
        simp only [Bool.false_eq_true, if_false]
        rw [g7]
        cases q3 : decide (a2.Ab = 2) with
        | false => exact ⟨false, rfl, rfl⟩
        | true =>
         simp only [if_true]
         rw [g8, g9]
         exact ⟨r3, rfl, rfl⟩
  by_cases k3 : x.Ab = 3
  ·refine ⟨nm x.Ac && B, ?_, ?_⟩
   ·rw [J5, qzu (by simpa using k2), qzv (by simpa using k3), qg2 (by omega), qzt, B1]; rfl
   ·rw [Js, c1, c2, qzu (by simpa using k2), qzu (by simp [k3]), qzu (by simp [k3]), qzu (by simp [k3]), qzv (by simpa using k3), qiq (by omega), qzt, qte, B2]
    cases nm x.Ac <;> rfl
  by_cases k4 : x.Ab = 4
  ·refine ⟨(decide (x.Ac = ([112, 97, 116, 104] : Str)) || decide (x.Ac = ([113, 117, 101, 114, 121] : Str))) && B, ?_, ?_⟩
   ·rw [J5, qzu (by simpa using k2), qzu (by simpa using k3), qzv (by simpa using k4), B1]; rfl
   ·rw [Js, c1, c2, qzu (by simpa using k2), qzu (by simp [k4]), qzu (by simp [k4]), qzu (by simp [k4]), qzu (by simpa using k3), qzv (by simpa using k4), B2]
    by_cases t1 : x.Ac = ([112, 97, 116, 104] : Str)
    ·rw [qzu (by simp [t1]), decide_eq_true t1]; rfl
    ·by_cases t2 : x.Ac = ([113, 117, 101, 114, 121] : Str)
     ·rw [qzu (by simp [t2]), decide_eq_true t2, Bool.or_true]; rfl
     ·rw [qzv (by simp [t1, t2]), decide_eq_false t1, decide_eq_false t2]; rfl
  by_cases k5 : x.Ab = 5
  ·refine ⟨prt x.Ac && B, ?_, ?_⟩
   ·rw [J5, qzu (by simpa using k2), qzu (by simpa using k3), qzu (by simpa using k4), qzv (by simpa using k5), qdu h1, qzt, B1]; rfl
   ·rw [Js, c1, c2, qzu (by simpa using k2), qzu (by simp [k5]), qzu (by simp [k5]), qzu (by simp [k5]), qzu (by simpa using k3), qzu (by simpa using k4), qzv (by simpa using k5), qcg h1, qzt, qte, B2]
    cases prt x.Ac <;> rfl
  by_cases k6 : x.Ab = 6
  ·refine ⟨prt x.Ac && decide ((x.Aa.length : Int) = 0), ?_, ?_⟩
   ·rw [J5, qzu (by simpa using k2), qzu (by simpa using k3), qzu (by simpa using k4), qzu (by simpa using k5), qzv (by simpa using k6), qdu h1, qzt]
   ·rw [Js, c1, c2, hlen, qzu (by simpa using k2), qzv (by simpa using k6), qcg h1, qzt]
  have txt : ∀ {C : Option Bool}, (if decide (x.Ac ≠ ([] : Str)) = true then some false else C) = if decide (x.Ac = ([] : Str)) = true then C else some false := fun {C} => by
   by_cases q : x.Ac = []
   ·rw [qzu (by simp [q]), qzv (by simpa using q)]
   ·rw [qzv (by simpa using q), qzu (by simpa using q)]
  by_cases k7 : x.Ab = 7
  ·refine ⟨decide (x.Ac = []) && B, ?_, ?_⟩
   ·rw [J5, qzu (by simpa using k2), qzu (by simpa using k3), qzu (by simpa using k4), qzu (by simpa using k5), qzu (by simpa using k6), qzv (by simpa using k7), B1]; rfl
   ·rw [Js, c1, c2, qzu (by simpa using k2), qzu (by simpa using k6), qzu (by simp [k7]), qzu (by simp [k7]), qzu (by simpa using k3), qzu (by simpa using k4), qzu (by simpa using k5), qzv (by simpa using k7), txt, B2]
    cases decide (x.Ac = []) <;> rfl
  by_cases k8 : x.Ab = 8
  ·refine ⟨decide (x.Ac = []) && B, ?_, ?_⟩
   ·rw [J5, qzu (by simpa using k2), qzu (by simpa using k3), qzu (by simpa using k4), qzu (by simpa using k5), qzu (by simpa using k6), qzu (by simpa using k7), qzv (by simpa using k8), B1]; rfl
   ·rw [Js, c1, c2, qzu (by simpa using k2), qzu (by simpa using k6), qzu (by simp [k8]), qzu (by simp [k8]), qzu (by simpa using k3), qzu (by simpa using k4), qzu (by simpa using k5), qzu (by simpa using k7), qzv (by simpa using k8), txt, B2]
    cases decide (x.Ac = []) <;> rfl
  by_cases k9 : x.Ab = 9
  ·refine ⟨decide (x.Ac = []) && B, ?_, ?_⟩
   ·rw [J5, qzu (by simpa using k2), qzu (by simpa using k3), qzu (by simpa using k4), qzu (by simpa using k5), qzu (by simpa using k6), qzu (by simpa using k7), qzu (by simpa using k8), qzv (by simpa using k9), B1]; rfl
   ·rw [Js, c1, c2, qzu (by simpa using k2), qzu (by simpa using k6), qzu (by simp [k9]), qzu (by simp [k9]), qzu (by simpa using k3), qzu (by simpa using k4), qzu (by simpa using k5), qzu (by simpa using k7), qzu (by simpa using k8), qzv (by simpa using k9), txt, B2]
    cases decide (x.Ac = []) <;> rfl
  by_cases k10 : x.Ab = 10
  ·refine ⟨decide (x.Ac = []) && decide ((x.Aa.length : Int) = 0), ?_, ?_⟩
   ·rw [J5, qzu (by simpa using k2), qzu (by simpa using k3), qzu (by simpa using k4), qzu (by simpa using k5), qzu (by simpa using k6), qzu (by simpa using k7), qzu (by simpa using k8), qzu (by simpa using k9), qzv (by simpa using k10)]
   ·rw [Js, c1, c2, hlen, qzu (by simpa using k2), qzu (by simpa using k6), qzv (by simpa using k10)]
  by_cases k11 : x.Ab = 11
  ·refine ⟨decide (x.Ac = []) && decide ((x.Aa.length : Int) = 0), ?_, ?_⟩
   ·rw [J5, qzu (by simpa using k2), qzu (by simpa using k3), qzu (by simpa using k4), qzu (by simpa using k5), qzu (by simpa using k6), qzu (by simpa using k7), qzu (by simpa using k8), qzu (by simpa using k9), qzu (by simpa using k10), qzv (by simpa using k11)]
   ·rw [Js, c1, c2, hlen, qzu (by simpa using k2), qzu (by simpa using k6), qzu (by simpa using k10), qzv (by simpa using k11)]
  ·refine ⟨false, ?_, ?_⟩
   ·rw [J5, qzu (by simpa using k2), qzu (by simpa using k3), qzu (by simpa using k4), qzu (by simpa using k5), qzu (by simpa using k6), qzu (by simpa using k7), qzu (by simpa using k8), qzu (by simpa using k9), qzu (by simpa using k10), qzu (by simpa using k11)]
   ·rw [Js, c1, qzu (by simpa using k2), qzu (by simpa using k6), qzu (by simpa using k10), qzu (by simpa using k11), qzu (by simpa using k3), qzu (by simpa using k4), qzu (by simpa using k5), qzu (by simpa using k7), qzu (by simpa using k8), qzu (by simpa using k9)]
theorem qpg {f : N → Option Int} {d : Nat} : ∀ (l : List N) (i : Nat) (y : Int), (∀ k ∈ l, f k = some (cntN d k : Int)) → 0 ≤ y → y + cntNL d l ≤ 1000000 → JbM f l i y = some (y + cntNL d l)
 | [], i, y, _, _, _ => by simp [JbM, cntNL]
 | k :: l, i, y, h, h0, hy => by
  rw [qc1] at hy
  rw [JbM, h k (by simp), qzt, qab (by constructor <;> omega), qpg l (i + 1) _ (fun q hq => h q (by simp [hq])) (by omega) (by omega), qc1]
  congr 1; omega
theorem qjq {d : Nat} : ∀ {l : List N} {k : N}, k ∈ l → cntN d k ≤ cntNL d l
 | a :: l, k, h => by
  rw [qc1]
  rcases List.mem_cons.1 h with rfl | h
  ·omega
  ·have := qjq (d := d) h; omega
theorem qmo : ∀ (d n : Nat) (x : N), OkN d x → d ≤ n → cntN d x ≤ 10000 → JcY n x = some (cntN d x : Int)
 | d + 1, 0, x, h, hn, hc => by omega
 | d + 1, n + 1, x, h, hn, hc => by
  obtain ⟨h1, h2, h3⟩ := h
  rw [qg0] at hc
  rw [JcY, qab (by simp only [qax]; omega), qpg x.Aa 0 1 (fun k hk => qmo d n k (h3 k hk) (by omega) (by have := qjq (d := d) hk; omega)) (by omega) (by omega), qzt, qg0]
  congr 1
def depN : Nat → N → Nat
 | 0, _ => 0
 | d + 1, x => 1 + x.Aa.foldl (fun a k => max a (depN d k)) 0
def depNL (d : Nat) (l : List N) (a : Nat) : Nat := l.foldl (fun a k => max a (depN d k)) a
theorem qis (d : Nat) : ∀ (l : List N) (a e : Nat), depNL d l a ≤ e ↔ a ≤ e ∧ ∀ k ∈ l, depN d k ≤ e
 | [], a, e => by simp [depNL]
 | k :: l, a, e => by
  show depNL d l (max a (depN d k)) ≤ e ↔ _
  rw [qis d l]
  simp only [List.mem_cons, Nat.max_le]
  constructor
  ·exact fun ⟨⟨h1, h2⟩, h3⟩ => ⟨h1, fun q hq => hq.elim (fun e => e ▸ h2) (h3 q)⟩
  ·exact fun ⟨h1, h2⟩ => ⟨⟨h1, h2 k (.inl rfl)⟩, fun q hq => h2 q (.inr hq)⟩
theorem qph : ∀ (d : Nat) (x : N), depN d x ≤ d
 | 0, x => Nat.le_refl _
 | d + 1, x => by
  have : depNL d x.Aa 0 ≤ d := (qis d x.Aa 0 d).2 ⟨by omega, fun k _ => qph d k⟩
  show 1 + depNL d x.Aa 0 ≤ d + 1
  omega
theorem qmp {f : N → Option Int} {d : Nat} : ∀ (l : List N) (i a : Nat), (∀ k ∈ l, f k = some (depN d k : Int)) → Jb0 f l i (a : Int) = some (depNL d l a : Int)
 | [], i, a, _ => rfl
 | k :: l, i, a, h => by
  rw [Jb0, h k (by simp), qzt, show max (a : Int) (depN d k : Int) = ((max a (depN d k) : Nat) : Int) from by omega]
  exact qmp l (i + 1) _ fun q hq => h q (by simp [hq])
theorem qjr : ∀ (d n : Nat) (x : N), OkN d x → d ≤ n → d ≤ 1000 → Jcw n x = some (depN d x : Int)
 | d + 1, 0, x, h, hn, hd => by omega
 | d + 1, n + 1, x, h, hn, hd => by
  obtain ⟨h1, h2, h3⟩ := h
  have := qph (d + 1) x
  have e : depN (d + 1) x = 1 + depNL d x.Aa 0 := rfl
  rw [Jcw, qab (by simp only [qax]; omega), show (0 : Int) = ((0 : Nat) : Int) from rfl, qmp x.Aa 0 0 fun k hk => qjr d n k (h3 k hk) (by omega) (by omega), qzt, qab (by constructor <;> omega), e]
  congr 1; omega
theorem qjs {d : Nat} {e : Int} {f : M → Int → Int → Option (Bool × Int)} (he : 0 < e ∧ e ≤ 1000) {l : List N} {k : List M} (h : A2 (fun x y => ∀ z : Int, 0 ≤ z → z ≤ 1000 → ∃ m, f y z (e - 1) = some (decide ((cntN d x : Int) ≤ z ∧ (depN d x : Int) ≤ e - 1), m) ∧ ((cntN d x : Int) ≤ z ∧ (depN d x : Int) ≤ e - 1 → m = z - cntN d x)) l k) :
  ∀ (i : Nat) (z : Int), 0 ≤ z → z ≤ 1000 → ∃ r, Jay e f k i z = some r ∧ ((cntNL d l : Int) ≤ z ∧ (∀ q ∈ l, (depN d q : Int) ≤ e - 1) → r = Fl.go (z - cntNL d l)) ∧ (¬ ((cntNL d l : Int) ≤ z ∧ ∀ q ∈ l, (depN d q : Int) ≤ e - 1) → ∃ m, r = Fl.ret (false, m)) := by
 induction h with
 | nil => exact fun i z h0 h1 => ⟨_, rfl, fun _ => by simp [cntNL], fun h => (h ⟨by simpa [cntNL] using h0, by simp⟩).elim⟩
 | cons hp _ ih =>
  rename_i x y l k _
  intro i z h0 h1
  obtain ⟨m, e1, e2⟩ := hp z h0 h1
  rw [Jay, qab (by constructor <;> omega), e1, qzt, qc1]
  by_cases q : (cntN d x : Int) ≤ z ∧ (depN d x : Int) ≤ e - 1
  ·obtain rfl := e2 q
   obtain ⟨r, r1, r2, r3⟩ := ih (i + 1) (z - cntN d x) (by omega) (by omega)
   rw [qzu (by simp [q])]
   refine ⟨r, r1, fun g => ?_, fun g => ?_⟩
   ·rw [r2 ⟨by omega, fun q hq => g.2 q (by simp [hq])⟩]; congr 1; omega
   ·exact r3 fun g' => g ⟨by omega, fun p hp => by
     rcases List.mem_cons.1 hp with rfl | hp
     ·exact q.2
     ·exact g'.2 p hp⟩
  ·rw [qzv (by simp only [decide_eq_false q]; rfl)]
   exact ⟨_, rfl, fun g => (q ⟨by omega, g.2 x (by simp)⟩).elim, fun _ => ⟨m, rfl⟩⟩
theorem qjt : ∀ (d n : Nat) (x : N) (y : M) (z e : Int), OkN d x → Cvd d x y → d ≤ n → 0 ≤ z → z ≤ 1000 → 0 ≤ e → e ≤ 1000 → ∃ m, Jat n y z e = some (decide ((cntN d x : Int) ≤ z ∧ (depN d x : Int) ≤ e), m) ∧ ((cntN d x : Int) ≤ z ∧ (depN d x : Int) ≤ e → m = z - cntN d x)
 | d + 1, 0, x, y, z, e, h, hc, hn, h0, h1, e0, e1 => by omega
 | d + 1, n + 1, x, y, z, e, h, hc, hn, h0, h1, e0, e1 => by
  obtain ⟨g1, g2, g3⟩ := h
  obtain ⟨c1, c2, c3, c4⟩ := hc
  have ed : depN (d + 1) x = 1 + depNL d x.Aa 0 := rfl
  rw [Jat, qab (by constructor <;> omega), qg0]
  cases q : (decide (z - 1 < 0) || decide (e < 1)) with
  | true =>
   rw [qzv rfl]
   have : ¬ (((1 + cntNL d x.Aa : Nat) : Int) ≤ z ∧ ((depN (d + 1) x : Nat) : Int) ≤ e) := by
    simp only [Bool.or_eq_true, decide_eq_true_eq] at q
    omega
   exact ⟨z - 1, by rw [decide_eq_false this], fun h => absurd h this⟩
  | false =>
   simp only [Bool.or_eq_false_iff, decide_eq_false_iff_not] at q
   obtain ⟨r, r1, r2, r3⟩ := qjs (d := d) (e := e) (f := Jat n) (by omega) (c4.imp_mem fun a ha b hb z y0 y1 => qjt d n a b z (e - 1) (g3 a ha) hb (by omega) y0 y1 (by omega) (by omega)) 0 (z - 1) (by omega) (by omega)
   rw [qzu (by simp), qab (by simp only [qax]; rw [c4.len]; omega), r1, qzt]
   have key : (((1 + cntNL d x.Aa : Nat) : Int) ≤ z ∧ ((depN (d + 1) x : Nat) : Int) ≤ e) ↔ ((cntNL d x.Aa : Int) ≤ z - 1 ∧ ∀ q ∈ x.Aa, (depN d q : Int) ≤ e - 1) := by
    have hd := qis d x.Aa 0 (e - 1).toNat
    constructor
    ·intro ⟨a1, a2⟩
     refine ⟨by omega, fun k hk => ?_⟩
     have := (hd.1 (by omega)).2 k hk
     omega
    ·intro ⟨a1, a2⟩
     refine ⟨by omega, ?_⟩
     have := hd.2 ⟨by omega, fun k hk => by have := a2 k hk; omega⟩
     omega
   by_cases q3 : (cntNL d x.Aa : Int) ≤ z - 1 ∧ ∀ q ∈ x.Aa, (depN d q : Int) ≤ e - 1
   ·rw [r2 q3, el_go]
    exact ⟨_, by rw [decide_eq_true (key.2 q3)], fun _ => by omega⟩
   ·obtain ⟨m, rfl⟩ := r3 q3
    have nk : ¬ (((1 + cntNL d x.Aa : Nat) : Int) ≤ z ∧ ((depN (d + 1) x : Nat) : Int) ≤ e) := fun h => q3 (key.1 h)
    rw [el_ret]
    exact ⟨m, by rw [decide_eq_false nk], fun h => absurd h nk⟩
theorem qpi {d n : Nat} {x : N} {y : M} (h : OkN (d + 1) x) (hc : Cvd (d + 1) x y) (hd : d + 1 ≤ 1000) (hn : d + 10002 ≤ n) (hs : cntN (d + 1) x ≤ 10000) : Sm (Jdi n) (Jau n) x y := by
 obtain ⟨m, hm1, hm2⟩ := qjt (d + 1) n x y 512 32 h hc (by omega) (by omega) (by omega) (by omega) (by omega)
 have hz := qmo (d + 1) n x h (by omega) hs
 have hp := qjr (d + 1) n x h (by omega) (by omega)
 obtain ⟨k, rfl⟩ : ∃ k, n = k + 1 := ⟨n - 1, by omega⟩
 obtain ⟨g1, g2, g3⟩ := h
 obtain ⟨c1, c2, c3, c4⟩ := hc
 obtain ⟨v, v1, v2⟩ := qh0 (g := Js (k + 1)) (m := k) (n := k) (c4.imp_mem fun a ha q hq => qff d k k (k + 1) a q (g3 a ha) hq (by omega) (by omega) (by omega)) 0 0
 unfold Sm Jdi Jau
 rw [c1, c2]
 by_cases q1 : x.Ab = 1
 ·by_cases q2 : x.Ac = []
  ·rw [qzv (by simp [q1, q2]), qzu (by simp [q1, q2]), hz, hm1, qzt, qzt, qzt]
   by_cases q3 : (cntN (d + 1) x : Int) ≤ 512
   ·rw [qzv (by simpa using q3), hp, qzt, qzt]
    by_cases q4 : (depN (d + 1) x : Int) ≤ 32
    ·rw [qzv (by simpa using q4), qzu (by simp [q3, q4]), qab (by simp only [qax]; rw [c4.len]; omega), qpf (n := k) (by omega) v1, qdv y.Aa 0 0, v2, qzt, qzt]
     refine ⟨v, rfl, ?_⟩
     rw [qzt, qhz, Bool.and_true]
    ·rw [qzu (by simpa using q4), qzv (by simp; omega)]; exact ⟨false, rfl, rfl⟩
   ·rw [qzu (by simpa using q3), qzv (by simp; omega)]; exact ⟨false, rfl, rfl⟩
  ·rw [qzu (by simp [q2]), qzv (by simp [q2])]; exact ⟨false, rfl, rfl⟩
 ·rw [qzu (by simp [q1]), qzv (by simp [q1])]; exact ⟨false, rfl, rfl⟩
theorem qey {a e : Int} {x : M} {f : Err} : JI ⟨a, some e⟩ x f = some ⟨a, some e⟩ := rfl
theorem qc9 {a : Int} {x : M} {f : Err} : JI ⟨a, none⟩ x f = some ⟨x.Ad, f⟩ := rfl
theorem qit {f : Ck → M → List Bd → Option (Int × Ck)} {env : List Bd} {a e : Int} (hf : ∀ k r, f ⟨a, some e⟩ k env = some r → r.2 = ⟨a, some e⟩) : ∀ (l : List M) (i : Nat) (y : List Int) (r : Fl (Int × Ck) (List Int × Int × Err)), JN f env l i y a (some e) = some r →
  (∀ z, r = Fl.ret z → z.2 = ⟨a, some e⟩) ∧ ∀ z, r = Fl.go z → z.2.1 = a ∧ z.2.2 = some e
 | [], i, y, r, h => by
  cases h
  exact ⟨fun z q => (by cases q), fun z q => by cases q; exact ⟨rfl, rfl⟩⟩
 | k :: l, i, y, r, h => by
  rw [JN] at h
  obtain ⟨x, hx, h1⟩ := bnd h
  obtain ⟨_, h2⟩ := qay h1
  have hs := hf _ _ hx
  rw [hs, qzv (by simp)] at h2
  cases h2
  exact ⟨fun z q2 => (by cases q2; rfl), fun z q => by cases q⟩
theorem call_same {a e : Int} {x : M} {l : List Int} {r : Int × Ck} (h : JX ⟨a, some e⟩ x l = some r) : r.2 = ⟨a, some e⟩ := by
 unfold JX at h
 obtain ⟨f, hf, h1⟩ := bnd h
 split at h1
 ·rw [qey] at h1; cases h1; rfl
 ·obtain ⟨b, hb, h2⟩ := bnd h1
  split at h2
  ·rw [qey] at h2; cases h2; rfl
  ·cases h2; rfl
theorem qh1 {env : List Bd} {a e : Int} : ∀ (n : Nat) (x : M) (r : Int × Ck), JF n ⟨a, some e⟩ x env = some r → r.2 = ⟨a, some e⟩
 | 0, x, r, h => by rw [JF] at h; cases h
 | n + 1, x, r, h => by
  rw [JF] at h
  obtain ⟨_, h1⟩ := qay h
  obtain ⟨s, hs, h2⟩ := bnd h1
  obtain ⟨g1, g2⟩ := qit (a := a) (e := e) (fun k r => qh1 n k r) x.Aa 0 [] s hs
  cases s with
  | ret z => rw [el_ret] at h2; cases h2; exact g1 _ rfl
  | go z =>
   obtain ⟨z1, z2, z3⟩ := z
   obtain ⟨k1, k2⟩ := g2 _ rfl
   simp only at k1 k2
   subst k1
   subst k2
   rw [el_go] at h2
   by_cases q20 : x.Ab = 20
   ·rw [qzv (by simpa using q20)] at h2; cases h2; rfl
   rw [qzu (by simpa using q20)] at h2
   by_cases q21 : x.Ab = 21
   ·rw [qzv (by simpa using q21)] at h2; cases h2; rfl
   rw [qzu (by simpa using q21)] at h2
   by_cases q22 : x.Ab = 22
   ·rw [qzv (by simpa using q22)] at h2; cases h2; rfl
   rw [qzu (by simpa using q22)] at h2
   by_cases q23 : x.Ab = 23
   ·rw [qzv (by simpa using q23)] at h2
    obtain ⟨u, hu, h3⟩ := bnd h2
    split at h3
    ·rw [qey] at h3; cases h3; rfl
    ·cases h3; rfl
   rw [qzu (by simpa using q23)] at h2
   by_cases q24 : x.Ab = 24
   ·rw [qzv (by simpa using q24)] at h2
    obtain ⟨u, hu, h3⟩ := bnd h2
    cases h3; exact call_same hu
   rw [qzu (by simpa using q24)] at h2
   obtain ⟨u, hu, h3⟩ := bnd h2
   split at h3
   ·rw [qey] at h3; cases h3; rfl
   ·cases h3; rfl
theorem qez {n : Nat} {f : Ck → List M → List Bd → Option Ck} {a e : Int} : ∀ (l : List M) (i : Nat) (env : List Bd) (r : Fl Ck (List Bd × Int × Err)), Jq n f l i env a (some e) = some r →
  (∀ z, r = Fl.ret z → z = ⟨a, some e⟩) ∧ ∀ z, r = Fl.go z → z.2.1 = a ∧ z.2.2 = some e
 | [], i, env, r, h => by
  cases h
  exact ⟨fun z q => (by cases q), fun z q => by cases q; exact ⟨rfl, rfl⟩⟩
 | x :: l, i, env, r, h => by
  rw [Jq] at h
  cases q : decide ((x.Aa.length : Int) = 0) with
  | true => rw [q, qzv rfl] at h; exact qez l (i + 1) env r h
  | false =>
   rw [q, qzu (by simp)] at h
   obtain ⟨k, hk, h1⟩ := bnd h
   obtain ⟨t, ht, h2⟩ := bnd h1
   obtain ⟨nd, _, h3⟩ := bnd h2
   have hs := qh1 n _ _ ht
   rw [hs, qzu (by simp), qzv (by simp)] at h3
   cases h3
   exact ⟨fun z q3 => (by cases q3; rfl), fun z q => by cases q⟩
theorem qnt : ∀ (n : Nat) (a e : Int) (l : List M) (env : List Bd) (r : Ck), Jx n ⟨a, some e⟩ l env = some r → r = ⟨a, some e⟩
 | 0, a, e, l, env, r, h => by rw [Jx] at h; cases h
 | n + 1, a, e, l, env, r, h => by
  rw [Jx] at h
  obtain ⟨_, h1⟩ := qay h
  obtain ⟨s, hs, h2⟩ := bnd h1
  obtain ⟨g1, g2⟩ := qez l 0 env s hs
  cases s with
  | ret z => rw [el_ret] at h2; cases h2; exact g1 _ rfl
  | go z =>
   rw [el_go] at h2; cases h2
   obtain ⟨k1, k2⟩ := g2 z rfl
   rw [k1, k2]
abbrev Env := Str → Int
abbrev qca := Int × Int
def base : Env := fun s => if pre s then 1 else 0
def ext (ρ : Env) (s : Str) (t : Int) : Env := fun q => if s = q then t else ρ q
def lkf (env : List Bd) : Env := fun s => lk s env
theorem qu0 : lkf [] = base := rfl
theorem qr1 (env : List Bd) (s : Str) (t : Int) : lkf (env ++ [⟨s, t⟩]) = ext (lkf env) s t := by
 funext q; exact qpa q env ⟨s, t⟩
def kidsE (f : M → Except qca Int) : List M → Except qca (List Int)
 | [] => .ok []
 | k :: l => match f k with
  | .error e => .error e
  | .ok t => match kidsE f l with
   | .error e => .error e
   | .ok ts => .ok (t :: ts)
noncomputable def fnc (s : Str) : Int × Int := (J3 s).getD (0, 0)
noncomputable def opr (x : M) (ts : List Int) : Int := (JM x ts).getD 0
noncomputable def tyN (ρ : Env) (x : M) (ts : List Int) : Except qca Int :=
 if x.Ab = 20 then .ok 2
 else if x.Ab = 21 then .ok 1
 else if x.Ab = 22 then .ok 3
 else if x.Ab = 23 then (if ρ x.Ac = 0 then .error (x.Ad, 8) else .ok (ρ x.Ac))
 else if x.Ab = 24 then (if (fnc x.Ac).2 = 0 then .error (x.Ad, 8) else if ts = [(fnc x.Ac).1] then .ok (fnc x.Ac).2 else .error (x.Ad, 9))
 else if opr x ts = 0 then .error (x.Ad, 9) else .ok (opr x ts)
noncomputable def tyE : Nat → Env → M → Except qca Int
 | 0, _, _ => .error (0, 9)
 | d + 1, ρ, x => match kidsE (tyE d ρ) x.Aa with
  | .error e => .error e
  | .ok ts => tyN ρ x ts
theorem kidsE_len {f : M → Except qca Int} : ∀ {l : List M} {ts : List Int}, kidsE f l = .ok ts → ts.length = l.length
 | [], ts, h => by cases h; rfl
 | k :: l, ts, h => by
  rw [kidsE] at h
  cases q : f k with
  | error e => rw [q] at h; cases h
  | ok t =>
   rw [q] at h
   simp only at h
   cases q2 : kidsE f l with
   | error e => rw [q2] at h; cases h
   | ok us => rw [q2] at h; cases h; simp [kidsE_len q2]
def Res (a : Int) (r : Except qca Int) (t : Int) (c : Ck) : Prop := match r with
 | .ok v => t = v ∧ c = ⟨a, none⟩
 | .error e => c = ⟨e.1, some e.2⟩
theorem qe0 {f : Ck → M → List Bd → Option (Int × Ck)} {g : M → Except qca Int} {env : List Bd} {a : Int} : ∀ (l : List M) (i : Nat) (y : List Int), (∀ k ∈ l, ∃ t c, f ⟨a, none⟩ k env = some (t, c) ∧ Res a (g k) t c) → y.length + l.length ≤ 1000 →
  ∃ r, JN f env l i y a none = some r ∧ match kidsE g l with
   | .ok ts => r = Fl.go (y ++ ts, a, none)
   | .error e => r = Fl.ret (0, ⟨e.1, some e.2⟩)
 | [], i, y, _, _ => ⟨_, rfl, by simp [kidsE]⟩
 | k :: l, i, y, h, hy => by
  simp only [List.length_cons] at hy
  obtain ⟨t, c, hr, hq⟩ := h k (by simp)
  rw [JN, hr, qzt, qab (by simp only [lim, List.length_cons, List.length_nil]; omega), kidsE]
  unfold Res at hq
  cases q : g k with
  | error e =>
   rw [q] at hq
   simp only at hq
   subst hq
   exact ⟨_, qzv rfl, rfl⟩
  | ok v =>
   rw [q] at hq
   simp only at hq
   obtain ⟨rfl, rfl⟩ := hq
   simp only [Option.isSome_none, Bool.false_eq_true, if_false]
   obtain ⟨r, hr, h2⟩ := qe0 (f := f) (g := g) (env := env) (a := a) l (i + 1) (y ++ [t]) (fun k hk => h k (by simp [hk])) (by simp only [List.length_append, List.length_cons, List.length_nil]; omega)
   refine ⟨r, hr, ?_⟩
   cases q2 : kidsE g l with
   | error e => rw [q2] at h2; exact h2
   | ok ts => rw [q2] at h2; rw [h2]; simp
theorem qpj (s : Str) : J3 s = some (fnc s) := by
 obtain ⟨r, hr⟩ := qgz s
 unfold fnc; rw [hr]; rfl
theorem qwm {x : M} {l : List Int} (h : l.length ≤ 1000) (h16 : x.Ab = 16 → l.length = 2) : JM x l = some (opr x l) := by
 obtain ⟨r, hr⟩ := qgy h h16
 unfold opr; rw [hr]; rfl
theorem qpk {a : Int} {x : M} {l : List Int} : JX ⟨a, none⟩ x l = some ((fnc x.Ac).2, if (fnc x.Ac).2 = 0 then ⟨x.Ad, some 8⟩ else if l = [(fnc x.Ac).1] then ⟨a, none⟩ else ⟨x.Ad, some 9⟩) := by
 unfold JX
 rw [qpj, qzt]
 by_cases q : (fnc x.Ac).2 = 0
 ·rw [qzv (by simpa using q), qc9, qzv q]; rfl
 ·rw [qzu (by simpa using q), qzu q]
  match l with
  | [] => rw [qzv (by simp), qzt, qzv rfl, qc9, qzu (by simp)]; rfl
  | [t] =>
   rw [qzu (by simp), show ix [t] 0 = some t from rfl, qzt, qzt]
   by_cases q2 : t = (fnc x.Ac).1
   ·rw [qzu (by simpa using q2), qzv (by rw [q2])]
   ·rw [qzv (by simpa using q2), qc9, qzu (by simpa using q2)]; rfl
  | t :: u :: l => rw [qzv (by simp; omega), qzt, qzv rfl, qc9, qzu (by simp)]; rfl
theorem qh2 {env : List Bd} (he : env.length ≤ 100000) {a : Int} : ∀ (d n m : Nat) (x : M), Ok d x → Jr m x = some true → d + 200000 ≤ n → ∃ t c, JF n ⟨a, none⟩ x env = some (t, c) ∧ Res a (tyE d (lkf env) x) t c
 | d + 1, 0, m, x, _, _, hn => by omega
 | d + 1, n + 1, m, x, h, hv, hn => by
  obtain ⟨h1, h2, h3⟩ := h
  obtain ⟨m', k, rfl, hk, k2, k3, k4⟩ := qcq hv
  obtain ⟨r, hr, hl⟩ := qe0 (f := JF n) (g := tyE d (lkf env)) (env := env) (a := a) x.Aa 0 [] (fun q hq => qh2 he d n m' q (h3 q hq) (k4 q hq) (by omega)) (by simp <;> omega)
  rw [JF, qab (by simp only [qax]; omega), hr, qzt, tyE]
  cases q : kidsE (tyE d (lkf env)) x.Aa with
  | error e =>
   rw [q] at hl
   simp only at hl
   subst hl
   exact ⟨_, _, rfl, rfl⟩
  | ok ts =>
   rw [q] at hl
   simp only [List.nil_append] at hl
   subst hl
   have hlen := kidsE_len q
   simp only [el_go, tyN]
   by_cases q20 : x.Ab = 20
   ·rw [qzv (by simpa using q20), qzv q20]; exact ⟨_, _, rfl, rfl, rfl⟩
   rw [qzu (by simpa using q20), qzu q20]
   by_cases q21 : x.Ab = 21
   ·rw [qzv (by simpa using q21), qzv q21]; exact ⟨_, _, rfl, rfl, rfl⟩
   rw [qzu (by simpa using q21), qzu q21]
   by_cases q22 : x.Ab = 22
   ·rw [qzv (by simpa using q22), qzv q22]; exact ⟨_, _, rfl, rfl, rfl⟩
   rw [qzu (by simpa using q22), qzu q22]
   by_cases q23 : x.Ab = 23
   ·rw [qzv (by simpa using q23), qzv q23, qjk he (by omega), qzt]
    by_cases q0 : lk x.Ac env = 0
    ·rw [qzv (by simpa using q0), qc9, qzt, qzv (show lkf env x.Ac = 0 from q0)]; exact ⟨_, _, rfl, rfl⟩
    ·rw [qzu (by simpa using q0), qzu (show ¬ lkf env x.Ac = 0 from q0)]; exact ⟨_, _, rfl, rfl, rfl⟩
   rw [qzu (by simpa using q23), qzu q23]
   by_cases q24 : x.Ab = 24
   ·rw [qzv (by simpa using q24), qzv q24, qpk, qzt]
    refine ⟨_, _, rfl, ?_⟩
    by_cases q0 : (fnc x.Ac).2 = 0
    ·rw [qzv q0, qzv q0]; rfl
    ·rw [qzu q0, qzu q0]
     by_cases q1 : ts = [(fnc x.Ac).1]
     ·rw [qzv q1, qzv q1]; exact ⟨rfl, rfl⟩
     ·rw [qzu q1, qzu q1]; rfl
   rw [qzu (by simpa using q24), qzu q24, qwm (by omega) fun h16 => by
    rcases operands_16 h16 hk with rfl | rfl
    ·have := k3 (by omega); omega
    ·exact absurd rfl k2]
   rw [qzt]
   by_cases q0 : opr x ts = 0
   ·rw [qzv (by simpa using q0), qc9, qzt, qzv q0]; exact ⟨_, _, rfl, rfl⟩
   ·rw [qzu (by simpa using q0), qzu q0]; exact ⟨_, _, rfl, rfl, rfl⟩
def nds (k : Int) : Int := if k = 2 then 3 else if k = 4 then 1 else if k = 5 then 1 else if k = 7 then 1 else if k = 8 then 2 else if k = 9 then 2 else 0
theorem qwn (x : M) : JbZ x = some (nds x.Ab) := by
 unfold JbZ nds
 by_cases h1 : x.Ab = 2; · rw [qzv (by simpa using h1), qzv h1]
 rw [qzu (by simpa using h1), qzu h1]
 by_cases h2 : x.Ab = 4; · rw [qzv (by simpa using h2), qzv h2]
 rw [qzu (by simpa using h2), qzu h2]
 by_cases h3 : x.Ab = 5; · rw [qzv (by simpa using h3), qzv h3]
 rw [qzu (by simpa using h3), qzu h3]
 by_cases h4 : x.Ab = 7; · rw [qzv (by simpa using h4), qzv h4]
 rw [qzu (by simpa using h4), qzu h4]
 by_cases h5 : x.Ab = 8; · rw [qzv (by simpa using h5), qzv h5]
 rw [qzu (by simpa using h5), qzu h5]
 by_cases h6 : x.Ab = 9; · rw [qzv (by simpa using h6), qzv h6]
 rw [qzu (by simpa using h6), qzu h6]
def brn (k : M) : List M := if k.Ab = 12 then k.Aa else [k]
theorem qju (k : M) : JaF k = some (brn k) := by
 unfold JaF brn
 by_cases h : k.Ab = 12
 ·rw [qzv (by simpa using h), qzv h]
 ·rw [qzu (by simpa using h), qzu h]
def foldS (g : Env → M → Except qca Env) : Env → List M → Except qca Env
 | ρ, [] => .ok ρ
 | ρ, x :: l => match g ρ x with
  | .error e => .error e
  | .ok ρ' => foldS g ρ' l
def brs (g : M → Except qca Env) : List M → Option qca
 | [] => none
 | k :: l => match g k with
  | .error e => some e
  | .ok _ => brs g l
noncomputable def stm : Nat → Env → M → Except qca Env
 | 0, _, _ => .error (0, 9)
 | d + 1, ρ, x => match x.Aa with
  | [] => .ok ρ
  | k0 :: ks => match tyE d ρ k0 with
   | .error e => .error e
   | .ok t =>
    if nds x.Ab ≠ 0 ∧ t ≠ nds x.Ab then .error (x.Ad, 9)
    else if x.Ab = 3 then (if ρ x.Ac = 0 then .ok (ext ρ x.Ac t) else .error (x.Ad, 4))
    else if x.Ab = 2 then (match brs (fun k => foldS (stm d) ρ (brn k)) ks with
     | some e => .error e
     | none => .ok ρ)
    else .ok ρ
def fin (a : Int) (r : Except qca Env) : Ck := match r with
 | .ok _ => ⟨a, none⟩
 | .error e => ⟨e.1, some e.2⟩
theorem qpl {f : Ck → List M → List Bd → Option Ck} {env : List Bd} {a e : Int} (hs : ∀ l r, f ⟨a, some e⟩ l env = some r → r = ⟨a, some e⟩) : ∀ (l : List M) (i : Nat), (∀ k ∈ l, ∃ r, f ⟨a, some e⟩ (brn k) env = some r) → Jy f env l i a (some e) = some (a, some e)
 | [], i, _ => rfl
 | k :: l, i, h => by
  obtain ⟨r, hr⟩ := h k (by simp)
  have := hs _ _ hr
  rw [Jy, qju, qzt, hr, qzt, this]
  exact qpl hs l (i + 1) fun q hq => h q (by simp [hq])
theorem qpm {f : Ck → List M → List Bd → Option Ck} {g : M → Except qca Env} {env : List Bd} {a : Int} (hs : ∀ a e l r, f ⟨a, some e⟩ l env = some r → r = ⟨a, some e⟩) : ∀ (l : List M) (i : Nat), (∀ k ∈ l, f ⟨a, none⟩ (brn k) env = some (fin a (g k))) → (∀ k ∈ l, ∀ c, ∃ r, f c (brn k) env = some r) →
  Jy f env l i a none = some (match brs g l with
   | none => (a, none)
   | some e => (e.1, some e.2))
 | [], i, _, _ => rfl
 | k :: l, i, h, h' => by
  rw [Jy, qju, qzt, h k (by simp), qzt, brs]
  cases q : g k with
  | error e => exact qpl (fun l r => hs _ _ l r) l (i + 1) fun q hq => h' q (by simp [hq]) _
  | ok ρ => exact qpm hs l (i + 1) (fun q hq => h q (by simp [hq])) fun q hq => h' q (by simp [hq])
theorem qwo {α : Type} {x : α} {l : List α} : subL (x :: l) (1 : Int) (((x :: l).length : Nat) : Int) = l := by
 unfold subL
 rw [show ((1 : Int)).toNat = 1 from rfl, List.drop_succ_cons, List.drop_zero, List.take_of_length_le (by simp only [List.length_cons]; omega)]
set_option maxRecDepth 100000 in
theorem qe1 {n d : Nat} {f : Ck → List M → List Bd → Option Ck} {a : Int} (hn : d + 200000 ≤ n)
  (hs : ∀ env a e l r, f ⟨a, some e⟩ l env = some r → r = ⟨a, some e⟩)
  (hf : ∀ (l : List M) (env : List Bd), (∀ x ∈ l, Gd d x) → l.length ≤ 700 → env.length + 701 * (d + 1) ≤ 90000 → f ⟨a, none⟩ l env = some (fin a (foldS (stm d) (lkf env) l)))
  (hx : ∀ (l : List M) (env : List Bd) (c : Ck), (∀ x ∈ l, Gd d x) → l.length ≤ 700 → env.length + 701 * (d + 1) ≤ 90000 → ∃ r, f c l env = some r) :
  ∀ (l : List M) (i : Nat) (env : List Bd), (∀ x ∈ l, Gd (d + 1) x) → env.length + l.length + 701 * (d + 1) ≤ 90000 →
   ∃ r, Jq n f l i env a none = some r ∧ match foldS (stm (d + 1)) (lkf env) l with
    | .ok ρ => ∃ env', r = Fl.go (env', a, none) ∧ lkf env' = ρ ∧ env'.length ≤ env.length + l.length
    | .error e => r = Fl.ret ⟨e.1, some e.2⟩
 | [], i, env, _, _ => ⟨_, rfl, env, rfl, rfl, by simp⟩
 | x :: l, i, env, hg, he => by
  simp only [List.length_cons] at he
  have hgl : ∀ x ∈ l, Gd (d + 1) x := fun q hq => hg q (by simp [hq])
  have rec_ : ∀ env', env'.length ≤ env.length + 1 → ∃ r, Jq n f l (i + 1) env' a none = some r ∧ match foldS (stm (d + 1)) (lkf env') l with
    | .ok ρ => ∃ env2, r = Fl.go (env2, a, none) ∧ lkf env2 = ρ ∧ env2.length ≤ env.length + (l.length + 1)
    | .error e => r = Fl.ret ⟨e.1, some e.2⟩ := fun env' h1 => by
   obtain ⟨r, hr, h2⟩ := qe1 hn hs hf hx l (i + 1) env' hgl (by omega)
   refine ⟨r, hr, ?_⟩
   cases q : foldS (stm (d + 1)) (lkf env') l with
   | error e => rw [q] at h2; exact h2
   | ok ρ => rw [q] at h2; obtain ⟨e2, a1, a2, a3⟩ := h2; exact ⟨e2, a1, a2, by omega⟩
  obtain ⟨hok, m, hm⟩ := hg x (by simp)
  obtain ⟨m, rfl, hv0, hv2⟩ := qc0 hm
  obtain ⟨o1, o2, o3⟩ := hok
  rw [Jq, foldS]
  simp only [List.length_cons]
  cases hk : x.Aa with
  | nil =>
   rw [qzv (by simp), stm, hk]
   exact rec_ env (by omega)
  | cons k0 ks =>
   have hk0 : k0 ∈ x.Aa := by rw [hk]; simp
   obtain ⟨t, c, ht, hR⟩ := qh2 (env := env) (by omega) (a := a) d n m k0 (o3 k0 hk0) (hv0 k0 (by rw [hk]; rfl)) (by omega)
   rw [qzu (by simp; omega), show ix (k0 :: ks) 0 = some k0 from rfl, qzt, ht, qzt, qwn, qzt, stm, hk]
   simp only
   unfold Res at hR
   cases q : tyE d (lkf env) k0 with
   | error e =>
    rw [q] at hR
    simp only at hR
    subst hR
    rw [qzu (by simp), qzv (by simp)]
    exact ⟨_, rfl, rfl⟩
   | ok v =>
    rw [q] at hR
    simp only at hR
    obtain ⟨rfl, rfl⟩ := hR
    simp only
    by_cases qn : nds x.Ab ≠ 0 ∧ t ≠ nds x.Ab
    ·rw [qzv (by simpa using qn), qc9, qzt, qzv (by simp), qzv qn]
     exact ⟨_, rfl, rfl⟩
    ·rw [qzu (by simpa using qn), qzu qn, qzu (by simp)]
     by_cases q3 : x.Ab = 3
     ·rw [qzv (by simpa using q3), qzv q3]
      unfold JaM
      rw [qjk (by omega) (by omega), qzt, qzt, qen (by omega)]
      by_cases q0 : lk x.Ac env = 0
      ·rw [qzu (by simpa using q0), qzt, qzu (by simp), qzv (show lkf env x.Ac = 0 from q0)]
       simp only
       rw [← qr1]
       exact rec_ _ (by simp)
      ·rw [qzv (by simpa using q0), qc9, qzt, qzt, qzv (by simp), qzu (show ¬ lkf env x.Ac = 0 from q0)]
       exact ⟨_, rfl, rfl⟩
     ·rw [qzu (by simpa using q3), qzu q3]
      by_cases q2 : x.Ab = 2
      ·obtain ⟨l2, hb⟩ := hv2 q2
       rw [hk] at l2 hb
       have hbr : ∀ k ∈ ks, (∀ q ∈ brn k, Gd d q) ∧ (brn k).length ≤ 700 := fun k hk1 => by
        have hk2 : k ∈ x.Aa := by rw [hk]; simp [hk1]
        obtain ⟨l', e1, e2, e3⟩ := qex (o3 k hk2) ((hb k (by simpa using hk1)).imp (fun h => ⟨h.1, fun q hq => ⟨m, h.2 q hq⟩⟩) fun h => ⟨h.1, m, h.2⟩)
        rw [qju] at e1
        cases e1
        exact ⟨e3, e2⟩
       have hkl : (k0 :: ks).length ≤ 700 := by rw [← hk]; exact o2
       rw [qzv (by simpa using q2), qzv q2, qab (by simp only [List.length_cons] at l2 ⊢; omega), qwo, qab (by simp only [qax]; simp only [List.length_cons] at hkl; omega),
        qpm (g := fun k => foldS (stm d) (lkf env) (brn k)) (hs env) ks 0 (fun k hk1 => hf _ _ (hbr k hk1).1 (hbr k hk1).2 (by omega)) (fun k hk1 c => hx _ _ c (hbr k hk1).1 (hbr k hk1).2 (by omega)), qzt]
       cases brs (fun k => foldS (stm d) (lkf env) (brn k)) ks with
       | some e => rw [qzv (by simp)]; exact ⟨_, rfl, rfl⟩
       | none => rw [qzu (by simp)]; exact rec_ env (by omega)
      ·rw [qzu (by simpa using q2), qzu q2, qzu (by simp)]
       exact rec_ env (by omega)
set_option maxRecDepth 100000 in
theorem qh3 {a : Int} : ∀ (d n : Nat) (l : List M) (env : List Bd), (∀ x ∈ l, Gd d x) → l.length ≤ 700 → env.length + 701 * (d + 1) ≤ 90000 → d + 300000 ≤ n → Jx n ⟨a, none⟩ l env = some (fin a (foldS (stm d) (lkf env) l))
 | d, 0, l, env, _, _, _, hn => by omega
 | 0, n + 1, l, env, hg, hl, he, hn => by
  have : l = [] := by
   cases l with
   | nil => rfl
   | cons x l => exact (hg x (by simp)).1.elim
  subst this
  rw [Jx, qab (by simp only [qax]; simp)]; rfl
 | d + 1, n + 1, l, env, hg, hl, he, hn => by
  obtain ⟨r, hr, h2⟩ := qe1 (n := n) (d := d) (a := a) (f := Jx n) (by omega) (fun env a e l r => qnt n a e l env r) (fun l' env' h1 h2 h3 => qh3 d n l' env' h1 h2 h3 (by omega)) (fun l' env' c' h1 h2 h3 => qmd d n l' env' c' h1 h2 h3 (by omega)) l 0 env hg (by omega)
  rw [Jx, qab (by simp only [qax]; omega)]
  simp only
  rw [hr, qzt]
  cases q : foldS (stm (d + 1)) (lkf env) l with
  | error e => rw [q] at h2; simp only at h2; subst h2; rfl
  | ok ρ => rw [q] at h2; obtain ⟨e2, a1, a2, a3⟩ := h2; subst a1; rfl
noncomputable def qyg (d : Nat) (ys : List M) : Int × Err := match foldS (stm d) base ys with
 | .ok _ => (0, none)
 | .error e => (e.1, some e.2)
set_option maxRecDepth 100000 in
theorem qnu {n d : Nat} {y : M} {b : Bool} (h : Ok (d + 1) y) (hd : d ≤ 100) (hn : 400000 ≤ n) (hb : Jau n y = some b) : Jbu n y = some (if b = true then qyg d y.Aa else (0, some 2)) := by
 unfold Jbu
 rw [hb, qzt]
 cases b with
 | false => rfl
 | true =>
  have hv := qgx hb
  have := h.2.1
  rw [qzu (by simp), qh3 d n y.Aa [] (fun k hk => ⟨h.2.2 k hk, n, hv k hk⟩) this (by simp only [List.length_nil]; omega) (by omega), qzt]
  unfold qyg
  rw [qu0]
  cases foldS (stm d) base y.Aa <;> rfl
theorem kidsE_err {f : M → Except qca Int} {e : qca} : ∀ {l : List M}, (∀ k ∈ l, ∀ e, f k = .error e → e.2 ≠ 0) → kidsE f l = .error e → e.2 ≠ 0
 | [], _, h => by cases h
 | k :: l, hf, h => by
  rw [kidsE] at h
  cases q : f k with
  | error e' => rw [q] at h; cases h; exact hf k (by simp) _ q
  | ok t =>
   rw [q] at h
   simp only at h
   cases q2 : kidsE f l with
   | error e' => rw [q2] at h; cases h; exact kidsE_err (fun k hk => hf k (by simp [hk])) q2
   | ok us => rw [q2] at h; cases h
theorem qu1 {ρ : Env} {x : M} {ts : List Int} {e : qca} (h : tyN ρ x ts = .error e) : e.2 ≠ 0 := by
 unfold tyN at h
 split at h; · cases h
 split at h; · cases h
 split at h; · cases h
 split at h
 ·split at h
  ·cases h; simp
  ·cases h
 split at h
 ·split at h
  ·cases h; simp
  ·split at h
   ·cases h
   ·cases h; simp
 split at h
 ·cases h; simp
 ·cases h
theorem tyE_err : ∀ {d : Nat} {ρ : Env} {x : M} {e : qca}, tyE d ρ x = .error e → e.2 ≠ 0
 | 0, ρ, x, e, h => by rw [tyE] at h; cases h; simp
 | d + 1, ρ, x, e, h => by
  rw [tyE] at h
  cases q : kidsE (tyE d ρ) x.Aa with
  | error e' => rw [q] at h; cases h; exact kidsE_err (fun k _ e he => tyE_err he) q
  | ok ts => rw [q] at h; exact qu1 h
theorem qg5 {g : Env → M → Except qca Env} {e : qca} : ∀ {l : List M} {ρ : Env}, (∀ ρ k e, g ρ k = .error e → e.2 ≠ 0) → foldS g ρ l = .error e → e.2 ≠ 0
 | [], ρ, _, h => by cases h
 | k :: l, ρ, hg, h => by
  rw [foldS] at h
  cases q : g ρ k with
  | error e' => rw [q] at h; cases h; exact hg _ _ _ q
  | ok ρ' => rw [q] at h; exact qg5 hg h
theorem qpn {g : M → Except qca Env} {e : qca} : ∀ {l : List M}, (∀ k e, g k = .error e → e.2 ≠ 0) → brs g l = some e → e.2 ≠ 0
 | [], _, h => by cases h
 | k :: l, hg, h => by
  rw [brs] at h
  cases q : g k with
  | error e' => rw [q] at h; cases h; exact hg _ _ q
  | ok ρ' => rw [q] at h; exact qpn hg h
theorem qpo : ∀ {d : Nat} {ρ : Env} {x : M} {e : qca}, stm d ρ x = .error e → e.2 ≠ 0
 | 0, ρ, x, e, h => by rw [stm] at h; cases h; simp
 | d + 1, ρ, x, e, h => by
  rw [stm] at h
  split at h
  ·cases h
  ·split at h
   ·cases h; rename_i q; exact tyE_err q
   ·split at h
    ·cases h; simp
    ·split at h
     ·split at h
      ·cases h
      ·cases h; simp
     ·split at h
      ·split at h
       ·cases h; rename_i q
        exact qpn (fun k e he => qg5 (fun ρ k e he => qpo he) he) q
       ·cases h
      ·cases h
theorem qmq {d : Nat} {ρ : Env} {l : List M} {e : qca} (h : foldS (stm d) ρ l = .error e) : e.2 ≠ 0 := qg5 (fun _ _ _ he => qpo he) h
theorem qtf (e : Err) : Jdb e = some (e.getD 0) := by cases e <;> rfl
abbrev Bd2 := JC
def lk2 (s : Str) (env : List Bd2) : Int := match env.reverse.find? (fun b => decide (b.Name = s)) with
 | some b => b.As
 | none => if pre s then 1 else 0
theorem qr2 (s : Str) (env : List Bd2) (b : Bd2) : lk2 s (env ++ [b]) = if b.Name = s then b.As else lk2 s env := by
 unfold lk2
 rw [List.reverse_append]
 simp only [List.reverse_cons, List.reverse_nil, List.nil_append, List.cons_append, List.find?_cons]
 by_cases h : b.Name = s <;> simp [h]
theorem qe2 {env : List Bd2} {s : Str} (hl : env.length ≤ 100000) : ∀ (j n : Nat), j ≤ env.length → j + 1 ≤ n →
  Jbg env s n ((j : Int) - 1) = some (match (env.take j).reverse.find? (fun b => decide (b.Name = s)) with | some b => Fl.ret b.As | none => Fl.go (-1))
 | 0, n + 1, _, _ => by
  rw [Jbg, qzu (by simp)]; simp
 | j + 1, n + 1, h, hn => by
  have hj : j < env.length := by omega
  have e : ((j + 1 : Nat) : Int) - 1 = (j : Int) := by omega
  have hix : ix env (j : Int) = some env[j] := by unfold ix; rw [qzv (by omega)]; simp [hj]
  have ht : (env.take (j + 1)).reverse = env[j] :: (env.take j).reverse := by
   rw [List.take_succ_eq_append_getElem hj, List.reverse_append]; rfl
  rw [e, Jbg, qzv (by simp), hix, qzt, qzt, ht, List.find?_cons]
  by_cases q : env[j].Name = s
  ·rw [qzv (by simpa using q)]; simp [q]
  ·rw [qzu (by simpa using q), qab (by constructor <;> omega), qe2 hl j n (by omega) (by omega)]
   simp [q]
 | 0, 0, _, h => by omega
 | j + 1, 0, _, h => by omega
theorem qh4 {env : List Bd2} {s : Str} {n : Nat} (hl : env.length ≤ 100000) (hn : env.length + 1 ≤ n) : Jc0 n s env = some (lk2 s env) := by
 unfold Jc0
 rw [qab (by constructor <;> omega), qe2 hl env.length n (by omega) hn, qzt, List.take_length]
 unfold lk2
 cases env.reverse.find? (fun b => decide (b.Name = s)) with
 | some b => rfl
 | none =>
  rw [el_go]
  show (if pre s = true then some (1 : Int) else some 0) = some (if pre s = true then 1 else 0)
  split <;> rfl
def lkf2 (env : List Bd2) : Env := fun s => lk2 s env
theorem qr3 : lkf2 [] = base := rfl
theorem qjv (env : List Bd2) (s : Str) (t : Int) : lkf2 (env ++ [⟨s, t⟩]) = ext (lkf2 env) s t := by
 funext q; exact qr2 q env ⟨s, t⟩
def Ty (t : Int) : Prop := t = 1 ∨ t = 2 ∨ t = 3
def Rg (ρ : Env) : Prop := ∀ s, ρ s = 0 ∨ Ty (ρ s)
theorem qu2 : Rg base := fun s => by
 unfold base
 split
 ·right; left; rfl
 ·left; rfl
theorem Rg.ext {ρ : Env} (h : Rg ρ) (s : Str) {t : Int} (ht : Ty t) : Rg (ext ρ s t) := fun q => by
 unfold Rt.ext
 split
 ·exact .inr ht
 ·exact h q
def QQ (o : Option Int) : Prop := ∀ t, o = some t → t = 0 ∨ Ty t
theorem QQ.ite {c : Bool} {a b : Option Int} (h1 : QQ a) (h2 : QQ b) : QQ (if c = true then a else b) := by cases c <;> assumption
theorem QQ.bind {α : Type} {o : Option α} {f : α → Option Int} (h : ∀ a, QQ (f a)) : QQ (o.bind f) := fun t ht => by
 cases o with
 | none => cases ht
 | some a => exact h a t ht
theorem QQ.z : QQ (some 0) := fun t h => by cases h; exact .inl rfl
theorem QQ.t1 : QQ (some 1) := fun t h => by cases h; exact .inr (.inl rfl)
theorem QQ.t2 : QQ (some 2) := fun t h => by cases h; exact .inr (.inr (.inl rfl))
theorem QQ.t3 : QQ (some 3) := fun t h => by cases h; exact .inr (.inr (.inr rfl))
theorem opr_rg (x : M) (l : List Int) : opr x l = 0 ∨ Ty (opr x l) := by
 have : QQ (JM x l) := by
  unfold JM
  refine .ite (.bind fun _ => .ite .t1 (.bind fun _ => .ite .t2 .z)) ?_
  refine .ite (.bind fun _ => .ite .t2 .z) ?_
  refine .ite (.bind fun _ => .ite .t2 .z) ?_
  refine .ite (.bind fun _ => .ite .t3 .z) ?_
  refine .ite (.bind fun _ => .ite .t3 .z) ?_
  refine .ite (.bind fun _ => .ite .t3 .z) ?_
  refine .ite ?_ .z
  refine .ite (.bind fun _ => .bind fun _ => .ite .t3 .z) ?_
  refine .ite (.bind fun _ => .bind fun _ => .ite .t3 .z) ?_
  refine .ite (.bind fun _ => .ite .t3 .z) ?_
  refine .ite (.bind fun _ => .ite .t3 .z) ?_
  exact .bind fun _ => .ite .t3 .z
 unfold opr
 cases q : JM x l with
 | none => exact .inl rfl
 | some t => exact this t q
theorem qpp (s : Str) : Jbw s = some ((fnc s).1, (fnc s).2, decide ((fnc s).2 ≠ 0)) ∧ ((fnc s).2 = 0 ∨ Ty (fnc s).2) := by
 have key : ∀ p, J3 s = some p → Jbw s = some (p.1, p.2, decide (p.2 ≠ 0)) ∧ (p.2 = 0 ∨ Ty p.2) := fun p h => by
  unfold J3 at h
  unfold Jbw
  have st : ∀ {c : Bool} {a b : Int} {A : Option (Int × Int)} {B : Option (Int × Int × Bool)}, Ty b → (if c = true then some (a, b) else A) = some p → (A = some p → B = some (p.1, p.2, decide (p.2 ≠ 0)) ∧ (p.2 = 0 ∨ Ty p.2)) → (if c = true then some (a, b, true) else B) = some (p.1, p.2, decide (p.2 ≠ 0)) ∧ (p.2 = 0 ∨ Ty p.2) := fun {c a b A B} ht h hA => by
   cases c with
   | false => exact hA h
   | true =>
    cases h
    refine ⟨?_, .inr ht⟩
    have : b ≠ 0 := by rcases ht with rfl | rfl | rfl <;> decide
    simp [this]
  refine st (.inl rfl) h fun h => ?_
  refine st (.inl rfl) h fun h => ?_
  refine st (.inl rfl) h fun h => ?_
  refine st (.inr (.inr rfl)) h fun h => ?_
  refine st (.inr (.inl rfl)) h fun h => ?_
  refine st (.inr (.inl rfl)) h fun h => ?_
  refine st (.inl rfl) h fun h => ?_
  refine st (.inl rfl) h fun h => ?_
  cases h
  exact ⟨rfl, .inl rfl⟩
 exact key _ (qpj s)
theorem fnc_ty (s : Str) : (fnc s).2 = 0 ∨ Ty (fnc s).2 := by
 have key : ∀ p, J3 s = some p → p.2 = 0 ∨ Ty p.2 := fun p h => by
  unfold J3 at h
  have st : ∀ {c : Bool} {a b : Int} {A : Option (Int × Int)}, Ty b → (if c = true then some (a, b) else A) = some p → (A = some p → p.2 = 0 ∨ Ty p.2) → p.2 = 0 ∨ Ty p.2 := fun {c a b A} ht h hA => by
   cases c with
   | false => exact hA h
   | true => cases h; exact .inr ht
  refine st (.inl rfl) h fun h => ?_
  refine st (.inl rfl) h fun h => ?_
  refine st (.inl rfl) h fun h => ?_
  refine st (.inr (.inr rfl)) h fun h => ?_
  refine st (.inr (.inl rfl)) h fun h => ?_
  refine st (.inr (.inl rfl)) h fun h => ?_
  refine st (.inl rfl) h fun h => ?_
  refine st (.inl rfl) h fun h => ?_
  cases h
  exact .inl rfl
 exact key _ (qpj s)
theorem qwp {ρ : Env} {x : M} {ts : List Int} {t : Int} (h : Rg ρ) (ht : tyN ρ x ts = .ok t) : Ty t := by
 unfold tyN at ht
 split at ht; · cases ht; right; left; rfl
 split at ht; · cases ht; left; rfl
 split at ht; · cases ht; right; right; rfl
 split at ht
 ·split at ht
  ·cases ht
  ·cases ht; rename_i q; exact (h x.Ac).resolve_left q
 split at ht
 ·split at ht
  ·cases ht
  ·rename_i q
   split at ht
   ·cases ht; exact (fnc_ty x.Ac).resolve_left q
   ·cases ht
 split at ht
 ·cases ht
 ·rename_i q
  cases ht; exact (opr_rg x ts).resolve_left q
theorem qtg {d : Nat} {ρ : Env} {x : M} {t : Int} (h : Rg ρ) (ht : tyE d ρ x = .ok t) : Ty t := by
 cases d with
 | zero => rw [tyE] at ht; cases ht
 | succ d =>
  rw [tyE] at ht
  split at ht
  ·cases ht
  ·exact qwp h ht
theorem qmr {f : M → Except qca Int} (hf : ∀ k t, f k = .ok t → Ty t) : ∀ {l : List M} {ts : List Int}, kidsE f l = .ok ts → ∀ t ∈ ts, Ty t
 | [], ts, h => by cases h; simp
 | k :: l, ts, h => by
  rw [kidsE] at h
  cases q : f k with
  | error e => rw [q] at h; cases h
  | ok t =>
   rw [q] at h
   simp only at h
   cases q2 : kidsE f l with
   | error e => rw [q2] at h; cases h
   | ok us =>
    rw [q2] at h; cases h
    intro t' ht'
    rcases List.mem_cons.1 ht' with rfl | ht'
    ·exact hf k _ q
    ·exact qmr hf q2 _ ht'
theorem qpq (t : Int) {l : List Int} (h : l.length ≤ 1000) : Jw t l = some (l.all fun a => decide (a = t)) := by
 have : ∀ (l : List Int) (i : Nat), JK t l i = some (if (l.all fun a => decide (a = t)) = true then Fl.go () else Fl.ret false) := fun l => by
  induction l with
  | nil => exact fun i => rfl
  | cons a l ih =>
   intro i
   rw [JK, List.all_cons]
   by_cases q : a = t
   ·rw [qzu (by simpa using q), ih, decide_eq_true q, Bool.true_and]
   ·rw [qzv (by simpa using q), decide_eq_false q, Bool.false_and]; rfl
 unfold Jw
 rw [qab (by simp only [qax]; omega), this, qzt]
 cases (l.all fun a => decide (a = t)) <;> rfl
theorem operands_len {m : Nat} {y : M} {k : Int} (h : Jv m y = some k) (hk : k ≠ -2) :
  ((y.Ab = 13 ∨ y.Ab = 14 ∨ y.Ab = 17 ∨ y.Ab = 18 ∨ y.Ab = 19) ∧ k = 2) ∨ (y.Ab = 15 ∧ k = 1) ∨ (y.Ab = 16 ∧ k = 2 ∧ cmp y.Ac = true) ∨ ((y.Ab = 20 ∨ y.Ab = 21 ∨ y.Ab = 22 ∨ y.Ab = 23) ∧ k = 0) ∨ (y.Ab = 24 ∧ k = -1) := by
 unfold Jv at h
 have s2 : ∀ {c : Bool} {v : Int}, (if (!c) = true then some (-2) else some v) = some k → k = v ∧ c = true := fun {c v} h => by
  cases c with
  | false => rw [qzv (by simp)] at h; cases h; exact absurd rfl hk
  | true => rw [qzu (by simp)] at h; cases h; exact ⟨rfl, rfl⟩
 by_cases q : y.Ab = 13
 ·rw [qzv (by simpa using q)] at h
  exact .inl ⟨.inl q, (s2 h).1⟩
 rw [qzu (by simpa using q)] at h
 clear q
 by_cases q : y.Ab = 14
 ·rw [qzv (by simpa using q)] at h
  exact .inl ⟨.inr (.inl q), (s2 h).1⟩
 rw [qzu (by simpa using q)] at h
 clear q
 by_cases q : y.Ab = 17
 ·rw [qzv (by simpa using q)] at h
  exact .inl ⟨.inr (.inr (.inl q)), (s2 h).1⟩
 rw [qzu (by simpa using q)] at h
 clear q
 by_cases q : y.Ab = 18
 ·rw [qzv (by simpa using q)] at h
  exact .inl ⟨.inr (.inr (.inr (.inl q))), (s2 h).1⟩
 rw [qzu (by simpa using q)] at h
 clear q
 by_cases q : y.Ab = 19
 ·rw [qzv (by simpa using q)] at h
  exact .inl ⟨.inr (.inr (.inr (.inr q))), (s2 h).1⟩
 rw [qzu (by simpa using q)] at h
 clear q
 by_cases q : y.Ab = 15
 ·rw [qzv (by simpa using q)] at h
  exact .inr (.inl ⟨q, (s2 h).1⟩)
 rw [qzu (by simpa using q)] at h
 clear q
 by_cases q : y.Ab = 16
 ·rw [qzv (by simpa using q)] at h
  have e := qg3 y.Ac
  obtain ⟨a, ha, h⟩ := bnd h
  rw [ha, qzt] at e
  rw [e, qzt] at h
  exact .inr (.inr (.inl ⟨q, s2 h⟩))
 rw [qzu (by simpa using q)] at h
 clear q
 by_cases q : y.Ab = 20
 ·rw [qzv (by simpa using q)] at h
  obtain ⟨a, ha, h⟩ := bnd h
  exact .inr (.inr (.inr (.inl ⟨.inl q, (s2 h).1⟩)))
 rw [qzu (by simpa using q)] at h
 clear q
 by_cases q : y.Ab = 21
 ·rw [qzv (by simpa using q)] at h
  obtain ⟨a, ha, h⟩ := bnd h
  exact .inr (.inr (.inr (.inl ⟨.inr (.inl q), (s2 h).1⟩)))
 rw [qzu (by simpa using q)] at h
 clear q
 by_cases q : y.Ab = 22
 ·rw [qzv (by simpa using q)] at h
  exact .inr (.inr (.inr (.inl ⟨.inr (.inr (.inl q)), (s2 h).1⟩)))
 rw [qzu (by simpa using q)] at h
 clear q
 by_cases q : y.Ab = 23
 ·rw [qzv (by simpa using q)] at h
  obtain ⟨a, ha, h⟩ := bnd h
  exact .inr (.inr (.inr (.inl ⟨.inr (.inr (.inr q)), (s2 h).1⟩)))
 rw [qzu (by simpa using q)] at h
 clear q
 by_cases q : y.Ab = 24
 ·rw [qzv (by simpa using q)] at h
  obtain ⟨a, ha, h⟩ := bnd h
  exact .inr (.inr (.inr (.inr ⟨q, (s2 h).1⟩)))
 rw [qzu (by simpa using q)] at h
 clear q
 cases h
 exact absurd rfl hk
theorem qpr {x : N} {y : M} {m : Nat} {k : Int} {ts : List Int} (c1 : y.Ab = x.Ab) (c2 : y.Ac = x.Ac) (ho : Jv m y = some k) (hk : k ≠ -2) (hl : 0 ≤ k → (ts.length : Int) = k) (ht : ∀ t ∈ ts, Ty t)
  (h20 : x.Ab ≠ 20) (h21 : x.Ab ≠ 21) (h22 : x.Ab ≠ 22) (h23 : x.Ab ≠ 23) (h24 : x.Ab ≠ 24) : Jas x ts = some (opr y ts) := by
 have two : ∀ {ts : List Int}, (ts.length : Int) = 2 → ∃ a b, ts = [a, b] := fun {ts} h => by
  match ts, h with
  | [a, b], _ => exact ⟨a, b, rfl⟩
  | [], h => simp at h
  | [a], h => simp at h
  | a :: b :: c :: l, h => simp at h; omega
 have d : ∀ {a : Int}, Ty a → (a = 1 ∨ a = 2 ∨ a = 3) := fun h => h
 unfold opr
 rcases operands_len ho hk with ⟨hkk, e⟩ | ⟨hkk, e⟩ | ⟨hkk, e, hcmp⟩ | ⟨hkk, e⟩ | ⟨hkk, e⟩
 ·subst e
  obtain ⟨a, b, rfl⟩ := two (hl (by omega))
  have ha := d (ht a (by simp))
  have hb := d (ht b (by simp))
  rw [c1] at hkk
  rcases hkk with q | q | q | q | q <;> rcases ha with rfl | rfl | rfl <;> rcases hb with rfl | rfl | rfl <;> simp [Jas, JM, c1, q, qpq, ix]
 ·subst e
  obtain ⟨a, rfl⟩ : ∃ a, ts = [a] := by
   have h1 := hl (by omega)
   match ts, h1 with
   | [a], _ => exact ⟨a, rfl⟩
   | [], h => simp at h
   | a :: b :: l, h => simp at h; omega
  have ha := d (ht a (by simp))
  rw [c1] at hkk
  rcases ha with rfl | rfl | rfl <;> simp [Jas, JM, c1, hkk, qpq, ix]
 ·subst e
  obtain ⟨a, b, rfl⟩ := two (hl (by omega))
  have ha := d (ht a (by simp))
  have hb := d (ht b (by simp))
  rw [c1] at hkk
  rw [c2] at hcmp
  simp only [cmp, Bool.or_eq_true, decide_eq_true_eq] at hcmp
  rcases hcmp with q | q | q | q | q | q | q <;> rcases ha with rfl | rfl | rfl <;> rcases hb with rfl | rfl | rfl <;> simp [Jas, JM, c1, c2, hkk, q, qpq, ix]
 ·rw [c1] at hkk; omega
 ·rw [c1] at hkk; omega
abbrev F2 := JH
def qwq (r : Except qca Int) : Int × F2 := match r with
 | .ok t => (t, ⟨0, 0⟩)
 | .error e => (0, ⟨e.1, e.2⟩)
theorem qr4 {f : N → List Bd2 → Option (Int × F2)} {g : M → Except qca Int} {env : List Bd2} (hg : ∀ k e, g k = .error e → e.2 ≠ 0) {l : List N} {k : List M} (h : A2 (fun x y => f x env = some (qwq (g y))) l k) : ∀ (i : Nat) (y : List Int), y.length + l.length ≤ 1000 →
  JbQ f env l i y = some (match kidsE g k with
   | .ok ts => Fl.go (y ++ ts)
   | .error e => Fl.ret (0, ⟨e.1, e.2⟩)) := by
 induction h with
 | nil => intro i y _; simp [JbQ, kidsE]
 | cons hp _ ih =>
  rename_i a b l k _
  intro i y hy
  simp only [List.length_cons] at hy
  rw [JbQ, kidsE]
  cases q : g b with
  | error e =>
   have := hg _ _ q
   have hp2 : f a env = some (0, ⟨e.1, e.2⟩) := by rw [hp, q]; rfl
   rw [hp2, qzt, qzv (by simpa using this)]
  | ok t =>
   have hp2 : f a env = some (t, ⟨0, 0⟩) := by rw [hp, q]; rfl
   rw [hp2, qzt, qzu (by simp), qab (by simp only [lim, List.length_cons, List.length_nil]; omega), ih (i + 1) _ (by simp only [List.length_append, List.length_cons, List.length_nil]; omega)]
   cases kidsE g k with
   | error e => rfl
   | ok ts => simp
theorem qwr {ρ : Env} {y : M} {ts : List Int} (h20 : y.Ab ≠ 20) (h21 : y.Ab ≠ 21) (h22 : y.Ab ≠ 22) (h23 : y.Ab ≠ 23) (h24 : y.Ab ≠ 24) : tyN ρ y ts = if opr y ts = 0 then .error (y.Ad, 9) else .ok (opr y ts) := by
 unfold tyN
 rw [qzu h20, qzu h21, qzu h22, qzu h23, qzu h24]
theorem qh5 {env : List Bd2} (he : env.length ≤ 100000) (hrg : Rg (lkf2 env)) : ∀ (d n m : Nat) (x : N) (y : M), OkN d x → Cvd d x y → Jr m y = some true → d + 200000 ≤ n → JbJ n x env = some (qwq (tyE d (lkf2 env) y))
 | d + 1, 0, m, x, y, _, _, _, hn => by omega
 | d + 1, n + 1, m, x, y, h, hc, hv, hn => by
  obtain ⟨h1, h2, h3⟩ := h
  obtain ⟨c1, c2, c3, c4⟩ := hc
  obtain ⟨m', k, rfl, hk, k2, k3, k4⟩ := qcq hv
  have hkid : A2 (fun x y => JbJ n x env = some (qwq (tyE d (lkf2 env) y))) x.Aa y.Aa := by
   have : ∀ {l : List N} {k : List M}, A2 (Cvd d) l k → (∀ a ∈ l, OkN d a) → (∀ b ∈ k, Jr m' b = some true) → A2 (fun x y => JbJ n x env = some (qwq (tyE d (lkf2 env) y))) l k := fun h => by
    induction h with
    | nil => exact fun _ _ => .nil
    | cons hp _ ih => exact fun ha hb => .cons (qh5 he hrg d n m' _ _ (ha _ (by simp)) hp (hb _ (by simp)) (by omega)) (ih (fun a h => ha a (by simp [h])) fun b h => hb b (by simp [h]))
   exact this c4 h3 k4
  rw [JbJ, qab (by simp only [qax]; omega), qr4 (fun _ _ he => tyE_err he) hkid 0 [] (by simp <;> omega), qzt, tyE]
  cases q : kidsE (tyE d (lkf2 env)) y.Aa with
  | error e => rfl
  | ok ts =>
   have hlen := kidsE_len q
   have hty := qmr (fun k t h => qtg hrg h) q
   simp only [el_go, List.nil_append]
   have hkl : 0 ≤ k → (ts.length : Int) = k := fun h0 => by rw [hlen]; exact k3 h0
   by_cases q23 : x.Ab = 23
   ·rw [qzv (by simpa using q23), qh4 he (by omega), qzt]
    unfold tyN
    rw [c1, qzu (show ¬ x.Ab = 20 by omega), qzu (show ¬ x.Ab = 21 by omega), qzu (show ¬ x.Ab = 22 by omega), qzv q23, c2, c3]
    by_cases q0 : lk2 x.Ac env = 0
    ·rw [qzu (by simpa using q0), qzv (show lkf2 env x.Ac = 0 from q0)]; rfl
    ·rw [qzv (by simpa using q0), qzu (show ¬ lkf2 env x.Ac = 0 from q0)]; rfl
   rw [qzu (by simpa using q23)]
   by_cases q24 : x.Ab = 24
   ·obtain ⟨f1, f2⟩ := qpp x.Ac
    rw [qzv (by simpa using q24), f1, qzt]
    unfold tyN
    rw [c1, qzu (show ¬ x.Ab = 20 by omega), qzu (show ¬ x.Ab = 21 by omega), qzu (show ¬ x.Ab = 22 by omega), qzu q23, qzv q24, c2, c3]
    by_cases q0 : (fnc x.Ac).2 = 0
    ·rw [qzv (by simpa using q0), qzv q0]; rfl
    ·rw [qzu (by simpa using q0), qzu q0]
     have hs : Jas x ts = some (if ts = [(fnc x.Ac).1] then (fnc x.Ac).2 else 0) := by
      unfold Jas
      have e : ∃ b, (if decide ((ts.length : Int) = 2) = true then (ix ts 0).bind fun x16 => (ix ts 1).bind fun x19 => some (decide (x16 = x19)) else some false) = some b := qa8 (fun h => by
       have h := of_decide_eq_true h
       exact qbi (qcy (by omega) (by omega)) fun _ _ => qbi (qcy (by omega) (by omega)) fun _ _ => ⟨_, rfl⟩) fun _ => ⟨_, rfl⟩
      obtain ⟨b, hb⟩ := e
      rw [hb, qzt, qzu (by simp [q24]), qzu (by simp [q24]), qzu (by simp [q24]), qzu (by simp [q24]), qzu (by simp [q24]), qzu (by simp [q24]), qzu (by simp [q24]), qzu (by simp [q24]), qzu (by simp [q24]), qzu (by simp [q24]), qzv (by simp [q24]), f1, qzt]
      match ts with
      | [] => rw [qzu (by simp), qzt, qzu (by simp), qzu (by simp)]
      | [t] =>
       rw [qzv (by simp), show ix [t] 0 = some t from rfl, qzt, qzt]
       by_cases q2 : t = (fnc x.Ac).1
       ·rw [qzv (by simpa using q2), qzv (by rw [q2])]
       ·rw [qzu (by simpa using q2), qzu (by simpa using q2)]
      | t :: u :: l => rw [qzu (by simp; omega), qzt, qzu (by simp), qzu (by simp)]
     rw [hs, qzt]
     by_cases q2 : ts = [(fnc x.Ac).1]
     ·rw [qzv q2, qzv q2, qzu (by simpa using q0)]; rfl
     ·rw [qzu q2, qzu q2, qzv (by simp)]; rfl
   rw [qzu (by simpa using q24)]
   have lit : ∀ (v : Int), Ty v → Jas x ts = some v → tyN (lkf2 env) y ts = .ok v → ((Jas x ts).bind fun x69 => if decide (x69 = 0) = true then some ((0 : Int), (⟨x.Ad, 9⟩ : F2)) else some (x69, ⟨0, 0⟩)) = some (qwq (tyN (lkf2 env) y ts)) := fun v hv e1 e2 => by
    have : v ≠ 0 := by rcases hv with rfl | rfl | rfl <;> decide
    rw [e1, e2, qzt, qzu (by simpa using this)]; rfl
   have nil : (x.Ab = 20 ∨ x.Ab = 21 ∨ x.Ab = 22) → ts = [] := fun h => by
    have : (ts.length : Int) = 0 := by
     rcases operands_len hk k2 with ⟨a, b⟩ | ⟨a, b⟩ | ⟨a, b, _⟩ | ⟨a, b⟩ | ⟨a, b⟩
     ·rw [c1] at a; omega
     ·rw [c1] at a; omega
     ·rw [c1] at a; omega
     ·rw [hkl (by omega), b]
     ·rw [c1] at a; omega
    exact List.length_eq_zero_iff.1 (by omega)
   by_cases q20 : x.Ab = 20
   ·refine lit 2 (.inr (.inl rfl)) ?_ ?_
    ·rw [nil (by simp [q20])]; simp [Jas, q20]
    ·unfold tyN; rw [qzv (show y.Ab = 20 by omega)]
   by_cases q21 : x.Ab = 21
   ·refine lit 1 (.inl rfl) ?_ ?_
    ·rw [nil (by simp [q21])]; simp [Jas, q21]
    ·unfold tyN; rw [qzu (show ¬ y.Ab = 20 by omega), qzv (show y.Ab = 21 by omega)]
   by_cases q22 : x.Ab = 22
   ·refine lit 3 (.inr (.inr rfl)) ?_ ?_
    ·rw [nil (by simp [q22])]; simp [Jas, q22]
    ·unfold tyN; rw [qzu (show ¬ y.Ab = 20 by omega), qzu (show ¬ y.Ab = 21 by omega), qzv (show y.Ab = 22 by omega)]
   rw [qpr c1 c2 hk k2 hkl hty q20 q21 q22 q23 q24, qzt, qwr (by omega) (by omega) (by omega) (by omega) (by omega)]
   by_cases q0 : opr y ts = 0
   ·rw [qzv (by simpa using q0), qzv q0, c3]; rfl
   ·rw [qzu (by simpa using q0), qzu q0]; rfl
theorem qu3 (k : Int) : JdG k = some (nds k) := by
 unfold JdG nds
 by_cases h1 : k = 2; · simp [h1]
 by_cases h2 : k = 4; · simp [h2]
 by_cases h3 : k = 5; · simp [h3]
 by_cases h4 : k = 7; · simp [h4]
 by_cases h5 : k = 8; · simp [h5]
 by_cases h6 : k = 9; · simp [h6]
 simp [h1, h2, h3, h4, h5, h6]
theorem qjw {m : Nat} {x : M} (hk : x.Ab = 2) (h : Js (m + 1) x = some true) : ∀ c ∈ x.Aa.drop 1, c.Ab ≠ 12 → c.Ab = 2 := by
 rw [Js, qzv (by simpa using hk)] at h
 obtain ⟨a, ha, g⟩ := bnd h
 obtain ⟨b, hb, gg⟩ := bnd g
 cases b with
 | true => rw [qzv rfl] at gg; cases gg
 | false =>
  rw [qzu (by simp)] at gg
  cases a with
  | true => rw [qzv rfl] at hb; cases hb
  | false =>
   cases q : ((decide (x.Ac ≠ ([] : Str)) || decide ((x.Aa.length : Int) < 2)) || decide ((x.Aa.length : Int) > 3)) with
   | true => rw [q, qzv rfl] at ha; cases ha
   | false =>
    simp only [Bool.or_eq_false_iff, decide_eq_false_iff_not] at q
    rw [qzu (by simp)] at hb
    obtain ⟨c1, hc1, hb⟩ := bnd hb
    obtain ⟨e1, he1, hb⟩ := bnd hb
    have hb : e1 = true := by simpa using hb
    subst hb
    have g1 : x.Aa[1]? = some c1 := by unfold ix at hc1; rw [qzv (by omega)] at hc1; exact hc1
    obtain ⟨i1, i2⟩ := qc6 he1
    intro c hc hne
    obtain ⟨i, hi⟩ := List.getElem?_of_mem hc
    rw [List.getElem?_drop] at hi
    have hil : 1 + i < x.Aa.length := (List.getElem?_eq_some_iff.1 hi).1
    by_cases z : i = 0
    ·subst z
     rw [g1] at hi; cases hi
     exact absurd i1 hne
    ·have : i = 1 := by omega
     subst this
     have hx2 : ix x.Aa 2 = some c := by unfold ix; rw [qzv (by omega)]; exact hi
     rw [qzu (by simp <;> omega), hx2, qzt] at gg
     obtain ⟨e, he, g3⟩ := bnd gg
     obtain ⟨e', he', he2⟩ := bnd he
     cases he2
     cases e with
     | true => exact absurd (qc6 he').1 hne
     | false =>
      rw [qzu (by simp), qzt] at g3
      obtain ⟨e2, he2, g4⟩ := bnd g3
      cases g4
      split at he2
      ·rename_i hk; exact of_decide_eq_true hk
      ·cases he2
def fl2 (r : Except qca Env) : F2 := match r with
 | .ok _ => ⟨0, 0⟩
 | .error e => ⟨e.1, e.2⟩
theorem qzi {f : List N → List Bd2 → Option F2} {g : M → Except qca Env} {env : List Bd2} (hg : ∀ k e, g k = .error e → e.2 ≠ 0) {l : List N} {k : List M} (h : A2 (fun x y => (if decide (x.Ab = 2) = true then f [x] env else f x.Aa env) = some (fl2 (g y))) l k) : ∀ i : Nat,
  J7 f env l i = some (match brs g k with
   | none => Fl.go ()
   | some e => Fl.ret ⟨e.1, e.2⟩) := by
 induction h with
 | nil => exact fun i => rfl
 | cons hp _ ih =>
  rename_i a b l k _
  intro i
  have e : J7 f env (a :: l) i = (if decide (a.Ab = 2) = true then f [a] env else f a.Aa env).bind fun x90 => if decide (x90.Code ≠ 0) = true then some (Fl.ret x90) else J7 f env l (i + 1) := by
   rw [J7]
   cases decide (a.Ab = 2) <;> rfl
  rw [e, brs]
  cases q : g b with
  | error e =>
   have := hg _ _ q
   have hp2 : (if decide (a.Ab = 2) = true then f [a] env else f a.Aa env) = some ⟨e.1, e.2⟩ := by rw [hp, q]; rfl
   rw [hp2, qzt, qzv (by simpa using this)]
  | ok ρ =>
   have hp2 : (if decide (a.Ab = 2) = true then f [a] env else f a.Aa env) = some ⟨0, 0⟩ := by rw [hp, q]; rfl
   rw [hp2, qzt, qzu (by simp)]
   exact ih (i + 1)
set_option maxRecDepth 100000 in
theorem qws {n d : Nat} {f : List N → List Bd2 → Option F2} (hn : d + 200000 ≤ n)
  (hf : ∀ (l : List N) (k : List M) (env : List Bd2), (∀ x ∈ l, OkN d x) → A2 (Cvd d) l k → (∀ y ∈ k, Gd d y) → l.length ≤ 700 → env.length + 701 * (d + 1) ≤ 90000 → Rg (lkf2 env) → f l env = some (fl2 (foldS (stm d) (lkf2 env) k)))
  {l : List N} {k : List M} (h : A2 (Cvd (d + 1)) l k) :
  ∀ (i : Nat) (env : List Bd2), (∀ x ∈ l, OkN (d + 1) x) → (∀ y ∈ k, Gd (d + 1) y) → env.length + l.length + 701 * (d + 1) ≤ 90000 → Rg (lkf2 env) →
   ∃ r, JY n f l i env = some r ∧ match foldS (stm (d + 1)) (lkf2 env) k with
    | .ok ρ => ∃ env', r = Fl.go env'
    | .error e => r = Fl.ret ⟨e.1, e.2⟩ := by
 induction h with
 | nil => exact fun i env _ _ _ _ => ⟨_, rfl, env, rfl⟩
 | cons hp _ ih =>
  rename_i x y l k _
  intro i env ho hg he hrg
  simp only [List.length_cons] at he
  have rec_ : ∀ env', env'.length ≤ env.length + 1 → Rg (lkf2 env') → ∃ r, JY n f l (i + 1) env' = some r ∧ match foldS (stm (d + 1)) (lkf2 env') k with
    | .ok ρ => ∃ env2, r = Fl.go env2
    | .error e => r = Fl.ret ⟨e.1, e.2⟩ := fun env' h1 h2 => ih (i + 1) env' (fun q hq => ho q (by simp [hq])) (fun q hq => hg q (by simp [hq])) (by omega) h2
  obtain ⟨hok, m, hm⟩ := hg y (by simp)
  have hm' := hm
  obtain ⟨m, rfl, hv0, hv2⟩ := qc0 hm
  obtain ⟨o1, o2, o3⟩ := ho x (by simp)
  obtain ⟨p1, p2, p3⟩ := hok
  obtain ⟨c1, c2, c3, c4⟩ := hp
  rw [JY, foldS, stm]
  match hkx : x.Aa, hky : y.Aa, c4 with
  | [], [], .nil =>
   rw [qzv (by simp)]
   exact rec_ env (by omega) hrg
  | k0 :: ks, j0 :: js, .cons hq hqs =>
   have hk0 : k0 ∈ x.Aa := by rw [hkx]; simp
   have ht := qh5 (env := env) (by omega) hrg d n m k0 j0 (o3 k0 hk0) hq (hv0 j0 (by rw [hky]; rfl)) (by omega)
   rw [qzu (by simp; omega), show ix (k0 :: ks) 0 = some k0 from rfl, qzt]
   cases q : tyE d (lkf2 env) j0 with
   | error e =>
    have := tyE_err q
    have ht2 : JbJ n k0 env = some (0, ⟨e.1, e.2⟩) := by rw [ht, q]; rfl
    rw [ht2, qzt, qzv (by simpa using this)]
    simp only [q]
    exact ⟨_, rfl, rfl⟩
   | ok t =>
    have tyt := qtg hrg q
    have ht2 : JbJ n k0 env = some (t, ⟨0, 0⟩) := by rw [ht, q]; rfl
    rw [ht2, qzt, qzu (by simp), qu3, qzt]
    simp only [q]
    rw [c1, c2, c3]
    by_cases qn : nds x.Ab ≠ 0 ∧ t ≠ nds x.Ab
    ·rw [qzv (by simp only [Bool.and_eq_true, decide_eq_true_eq]; exact ⟨qn.1, fun h => qn.2 h.symm⟩), qzv qn]
     exact ⟨_, rfl, rfl⟩
    ·rw [qzu (by simp only [Bool.and_eq_true, decide_eq_true_eq]; exact fun h => qn ⟨h.1, fun h' => h.2 h'.symm⟩), qzu qn]
     by_cases q3 : x.Ab = 3
     ·rw [qzv (by simpa using q3), qzv q3, qh4 (by omega) (by omega), qzt]
      by_cases q0 : lk2 x.Ac env = 0
      ·rw [qzu (by simpa using q0), qab (by simp only [lim]; omega), qab (by simp only [lim, List.length_cons, List.length_nil]; omega), qzv (show lkf2 env x.Ac = 0 from q0)]
       simp only
       rw [← qjv]
       exact rec_ _ (by simp) (by rw [qjv]; exact hrg.ext _ tyt)
      ·rw [qzv (by simpa using q0), qzu (show ¬ lkf2 env x.Ac = 0 from q0)]
       exact ⟨_, rfl, rfl⟩
     ·rw [qzu (by simpa using q3), qzu q3]
      by_cases q2 : x.Ab = 2
      ·obtain ⟨l2, hb⟩ := hv2 (by omega)
       have hif := qjw (by omega) hm'
       rw [hky] at l2 hb hif
       have hkl : (k0 :: ks).length ≤ 700 := by rw [← hkx]; exact o2
       have hlen : js.length = ks.length := hqs.len
       simp only [List.length_cons] at l2 hkl
       have hrel : A2 (fun x y => (if decide (x.Ab = 2) = true then f [x] env else f x.Aa env) = some (fl2 (foldS (stm d) (lkf2 env) (brn y)))) ks js := by
        have sub1 : ∀ a ∈ ks, OkN d a := fun a ha => o3 a (by rw [hkx]; simp [ha])
        have sub2 : ∀ b ∈ js, b ∈ y.Aa := fun b hb => by rw [hky]; simp [hb]
        have sub3 : ∀ b ∈ js, b ∈ (j0 :: js).drop 1 := fun b hb => by simpa using hb
        have : ∀ {l : List N} {k : List M}, A2 (Cvd d) l k → (∀ a ∈ l, OkN d a) → (∀ b ∈ k, b ∈ js) → A2 (fun x y => (if decide (x.Ab = 2) = true then f [x] env else f x.Aa env) = some (fl2 (foldS (stm d) (lkf2 env) (brn y)))) l k := fun h => by
         induction h with
         | nil => exact fun _ _ => .nil
         | cons hp _ ih =>
          rename_i a b _ _ _
          intro h1 h2
          refine .cons ?_ (ih (fun a h => h1 a (by simp [h])) fun b h => h2 b (by simp [h]))
          have hbj := h2 b (by simp)
          have hoa := h1 a (by simp)
          obtain ⟨l', e1, e2, e3⟩ := qex (p3 b (sub2 b hbj)) ((hb b (sub3 b hbj)).imp (fun h => ⟨h.1, fun q hq => ⟨m, h.2 q hq⟩⟩) fun h => ⟨h.1, m, h.2⟩)
          rw [qju] at e1
          cases e1
          cases d with
          | zero => exact hoa.elim
          | succ d =>
           have hp' := hp
           obtain ⟨r1, r2, r3, r4⟩ := hp
           by_cases qk : a.Ab = 2
           ·have eb : brn b = [b] := by unfold brn; rw [qzu (by omega)]
            rw [qzv (by simpa using qk), eb]
            rw [eb] at e3
            exact hf [a] [b] env (fun q hq => by rw [List.mem_singleton] at hq; subst hq; exact hoa) (.cons hp' .nil) e3 (by simp) (by omega) hrg
           ·have hb12 : b.Ab = 12 := by
             by_cases q12 : b.Ab = 12
             ·exact q12
             ·have := hif b (sub3 b hbj) q12; omega
            have eb : brn b = b.Aa := by unfold brn; rw [qzv hb12]
            rw [qzu (by simpa using qk), eb]
            rw [eb] at e3 e2
            have lift : ∀ {l : List N} {k : List M}, A2 (Cvd d) l k → A2 (Cvd (d + 1)) l k := fun h => by
             have up : ∀ (d : Nat) (x : N) (y : M), Cvd d x y → Cvd (d + 1) x y := fun d => by
              induction d with
              | zero => exact fun x y h => h.elim
              | succ d ih => exact fun x y h => ⟨h.1, h.2.1, h.2.2.1, h.2.2.2.imp_mem fun a _ b hb => ih a b hb⟩
             exact h.imp_mem fun a _ b hb => up d a b hb
            have liftO : ∀ (d : Nat) (x : N), OkN d x → OkN (d + 1) x := fun d => by
             induction d with
             | zero => exact fun x h => h.elim
             | succ d ih => exact fun x h => ⟨h.1, h.2.1, fun k hk => ih k (h.2.2 k hk)⟩
            exact hf a.Aa b.Aa env (fun q hq => liftO d q (hoa.2.2 q hq)) (lift r4) e3 hoa.2.1 (by omega) hrg
        exact this hqs sub1 fun b hb => hb
       rw [qzv (by simpa using q2), qzv q2, qab (by simp only [List.length_cons]; omega), qwo, qab (by simp only [qax]; omega),
        qzi (g := fun k => foldS (stm d) (lkf2 env) (brn k)) (fun _ _ he => qmq he) hrel 0, qzt]
       cases brs (fun k => foldS (stm d) (lkf2 env) (brn k)) js with
       | some e => exact ⟨_, rfl, rfl⟩
       | none => exact rec_ env (by omega) hrg
      ·rw [qzu (by simpa using q2), qzu q2]
       exact rec_ env (by omega) hrg
set_option maxRecDepth 100000 in
theorem qms : ∀ (d n : Nat) (l : List N) (k : List M) (env : List Bd2), (∀ x ∈ l, OkN d x) → A2 (Cvd d) l k → (∀ y ∈ k, Gd d y) → l.length ≤ 700 → env.length + 701 * (d + 1) ≤ 90000 → Rg (lkf2 env) → d + 300000 ≤ n → Jah n l env = some (fl2 (foldS (stm d) (lkf2 env) k))
 | d, 0, l, k, env, _, _, _, _, _, _, hn => by omega
 | 0, n + 1, l, k, env, ho, hc, hg, hl, he, hrg, hn => by
  have : l = [] := by
   cases l with
   | nil => rfl
   | cons x l => exact (ho x (by simp)).elim
  subst this
  cases hc
  rw [Jah, qab (by simp only [qax]; simp)]; rfl
 | d + 1, n + 1, l, k, env, ho, hc, hg, hl, he, hrg, hn => by
  obtain ⟨r, hr, h2⟩ := qws (n := n) (d := d) (f := Jah n) (by omega) (fun l' k' env' h1 h2 h3 h4 h5 h6 => qms d n l' k' env' h1 h2 h3 h4 h5 h6 (by omega)) hc 0 env ho hg (by omega) hrg
  rw [Jah, qab (by simp only [qax]; omega), hr, qzt]
  cases q : foldS (stm (d + 1)) (lkf2 env) k with
  | error e => rw [q] at h2; simp only at h2; subst h2; rfl
  | ok ρ => rw [q] at h2; obtain ⟨e2, a1⟩ := h2; subst a1; rfl
set_option maxRecDepth 100000 in
theorem qk4 {n d : Nat} {x : N} {y : M} {b : Bool} (ho : OkN (d + 1) x) (hc : Cvd (d + 1) x y) (hd : d ≤ 100) (hn : 400000 ≤ n) (hb : Jdi n x = some b) (hb2 : Jau n y = some b) : Jcy n x = some (if b = true then fl2 (foldS (stm d) base y.Aa) else ⟨0, 2⟩) := by
 unfold Jcy
 rw [hb, qzt]
 cases b with
 | false => rfl
 | true =>
  have hv := qgx hb2
  have hok := hc.ok ho
  obtain ⟨c1, c2, c3, c4⟩ := hc
  obtain ⟨o1, o2, o3⟩ := ho
  rw [qzu (by simp), qms d n x.Aa y.Aa [] o3 c4 (fun k hk => ⟨hok.2.2 k hk, n, hv k hk⟩) o2 (by simp only [List.length_nil]; omega) qu2 (by omega), qzt, qr3]
  rfl
def hd0 : List Int → Int
 | [] => 0
 | s :: _ => s
theorem qu4 {ρ : Env} {y : M} {ts : List Int} {t : Int} (h : tyN ρ y ts = .ok t) : (y.Ab = 20 → t = 2) ∧ (y.Ab = 21 → t = 1) ∧ (y.Ab = 22 → t = 3) ∧ (y.Ab = 23 → t = ρ y.Ac) ∧ (y.Ab = 24 → t = (fnc y.Ac).2) ∧ (y.Ab ≠ 20 → y.Ab ≠ 21 → y.Ab ≠ 22 → y.Ab ≠ 23 → y.Ab ≠ 24 → t = opr y ts ∧ opr y ts ≠ 0) := by
 unfold tyN at h
 by_cases q20 : y.Ab = 20
 ·rw [qzv q20] at h; cases h; exact ⟨fun _ => rfl, fun _ => by omega, fun _ => by omega, fun _ => by omega, fun _ => by omega, fun a => absurd q20 a⟩
 rw [qzu q20] at h
 by_cases q21 : y.Ab = 21
 ·rw [qzv q21] at h; cases h; exact ⟨fun _ => by omega, fun _ => rfl, fun _ => by omega, fun _ => by omega, fun _ => by omega, fun _ a => absurd q21 a⟩
 rw [qzu q21] at h
 by_cases q22 : y.Ab = 22
 ·rw [qzv q22] at h; cases h; exact ⟨fun _ => by omega, fun _ => by omega, fun _ => rfl, fun _ => by omega, fun _ => by omega, fun _ _ a => absurd q22 a⟩
 rw [qzu q22] at h
 by_cases q23 : y.Ab = 23
 ·rw [qzv q23] at h
  split at h
  ·cases h
  ·cases h; exact ⟨fun _ => by omega, fun _ => by omega, fun _ => by omega, fun _ => rfl, fun _ => by omega, fun _ _ _ a => absurd q23 a⟩
 rw [qzu q23] at h
 by_cases q24 : y.Ab = 24
 ·rw [qzv q24] at h
  split at h
  ·cases h
  ·split at h
   ·cases h; exact ⟨fun _ => by omega, fun _ => by omega, fun _ => by omega, fun _ => by omega, fun _ => rfl, fun _ _ _ _ a => absurd q24 a⟩
   ·cases h
 rw [qzu q24] at h
 split at h
 ·cases h
 ·rename_i q
  cases h; exact ⟨fun a => absurd a q20, fun a => absurd a q21, fun a => absurd a q22, fun a => absurd a q23, fun a => absurd a q24, fun _ _ _ _ _ => ⟨rfl, q⟩⟩
theorem qk5 {d : Nat} {ρ : Env} {y : M} {t : Int} (h : tyE (d + 1) ρ y = .ok t) : ∃ ts, kidsE (tyE d ρ) y.Aa = .ok ts ∧ tyN ρ y ts = .ok t := by
 rw [tyE] at h
 cases q : kidsE (tyE d ρ) y.Aa with
 | error e => rw [q] at h; cases h
 | ok ts => rw [q] at h; exact ⟨ts, rfl, h⟩
theorem brn_ok {d : Nat} {k : M} (h : Ok d k) : (∀ q ∈ brn k, Ok d q) ∧ cntL d (brn k) ≤ cnt d k := by
 cases d with
 | zero => exact h.elim
 | succ d =>
  unfold brn
  split
  ·refine ⟨fun q hq => (h.2.2 q hq).succ, ?_⟩
   rw [cnt_eq]
   have : ∀ l : List M, (∀ q ∈ l, Ok d q) → cntL (d + 1) l = cntL d l := fun l => by
    induction l with
    | nil => intro _; rfl
    | cons q l ih => intro hq; rw [cntL_cons, cntL_cons, qmg (hq q (by simp)), ih fun p hp => hq p (by simp [hp])]
   rw [this k.Aa h.2.2]; omega
  ·exact ⟨fun q hq => by rw [List.mem_singleton] at hq; subst hq; exact h, by simp [cntL]⟩
theorem qu5 {d : Nat} {ρ ρ' : Env} {x k0 : M} {ks : List M} (hk : x.Aa = k0 :: ks) (h : stm (d + 1) ρ x = .ok ρ') : ∃ t, tyE d ρ k0 = .ok t ∧
  ((x.Ab = 3 ∧ ρ' = ext ρ x.Ac t) ∨ (x.Ab = 2 ∧ ρ' = ρ ∧ brs (fun k => foldS (stm d) ρ (brn k)) ks = none) ∨ (x.Ab ≠ 3 ∧ x.Ab ≠ 2 ∧ ρ' = ρ)) := by
 rw [stm, hk] at h
 simp only at h
 cases q : tyE d ρ k0 with
 | error e => rw [q] at h; cases h
 | ok t =>
  rw [q] at h
  simp only at h
  refine ⟨t, rfl, ?_⟩
  split at h
  ·cases h
  ·split at h
   ·rename_i q3
    split at h
    ·cases h; exact .inl ⟨q3, rfl⟩
    ·cases h
   ·rename_i q3
    split at h
    ·rename_i q2
     split at h
     ·cases h
     ·rename_i qb
      cases h; exact .inr (.inl ⟨q2, rfl, qb⟩)
    ·rename_i q2
     cases h; exact .inr (.inr ⟨q3, q2, rfl⟩)
theorem qmt {g : M → Except qca Env} : ∀ {l : List M}, brs g l = none → ∀ k ∈ l, ∃ ρ, g k = .ok ρ
 | [], _, k, hk => by cases hk
 | a :: l, h, k, hk => by
  rw [brs] at h
  cases q : g a with
  | error e => rw [q] at h; cases h
  | ok ρ =>
   rw [q] at h
   rcases List.mem_cons.1 hk with rfl | hk
   ·exact ⟨ρ, q⟩
   ·exact qmt h k hk
theorem qnv {m : Nat} {x : M} (hk : x.Ab = 2) (h : Js (m + 1) x = some true) : x.Aa.length ≤ 3 ∧ ∀ c, x.Aa[1]? = some c → c.Ab = 12 := by
 rw [Js, qzv (by simpa using hk)] at h
 obtain ⟨a, ha, g⟩ := bnd h
 obtain ⟨b, hb, gg⟩ := bnd g
 cases b with
 | true => rw [qzv rfl] at gg; cases gg
 | false =>
  cases a with
  | true => rw [qzv rfl] at hb; cases hb
  | false =>
   cases q : ((decide (x.Ac ≠ ([] : Str)) || decide ((x.Aa.length : Int) < 2)) || decide ((x.Aa.length : Int) > 3)) with
   | true => rw [q, qzv rfl] at ha; cases ha
   | false =>
    simp only [Bool.or_eq_false_iff, decide_eq_false_iff_not] at q
    rw [qzu (by simp)] at hb
    obtain ⟨c1, hc1, hb⟩ := bnd hb
    obtain ⟨e1, he1, hb⟩ := bnd hb
    have hb : e1 = true := by simpa using hb
    subst hb
    have g1 : x.Aa[1]? = some c1 := by unfold ix at hc1; rw [qzv (by omega)] at hc1; exact hc1
    refine ⟨by omega, fun c hc => ?_⟩
    rw [g1] at hc; cases hc
    exact (qc6 he1).1
def brn2 (k : N) : List N := if k.Ab = 2 then [k] else k.Aa
end Rt
namespace Rt.Rc
abbrev I := Jj
abbrev Sg := Str → Option Int
def sTrue : Str := [116, 114, 117, 101]
def opw (x : M) : Str := if x.Ab = 17 then [43] else if x.Ab = 18 then [45] else if x.Ab = 19 then [42] else x.Ac
def XE (ρ : Env) : Nat → M → Prop
 | 0, _ => False
 | d + 1, x => x.Ac.length ≤ 3000 ∧
  ((x.Ab = 20 ∧ nmr x.Ac = true ∧ x.Aa = []) ∨ (x.Ab = 21 ∧ prt x.Ac = true ∧ x.Aa = []) ∨ (x.Ab = 22 ∧ x.Aa = []) ∨ (x.Ab = 23 ∧ ρ x.Ac ≠ 0 ∧ x.Aa = []) ∨
   (((x.Ab = 24 ∧ (fnc x.Ac).2 ≠ 0) ∨ x.Ab = 15) ∧ ∃ k, x.Aa = [k] ∧ XE ρ d k) ∨
   ((x.Ab = 13 ∨ x.Ab = 14 ∨ x.Ab = 17 ∨ x.Ab = 18 ∨ x.Ab = 19 ∨ (x.Ab = 16 ∧ cmp x.Ac = true)) ∧ ∃ k l, x.Aa = [k, l] ∧ XE ρ d k ∧ XE ρ d l))
theorem qjx {f : M → Except qca Int} : ∀ {l : List M} {ts : List Int}, kidsE f l = .ok ts → ∀ k ∈ l, ∃ t, f k = .ok t
 | [], _, _, k, hk => by cases hk
 | a :: l, ts, h, k, hk => by
  rw [kidsE] at h
  cases q : f a with
  | error e => rw [q] at h; cases h
  | ok t =>
   rw [q] at h
   simp only at h
   cases q2 : kidsE f l with
   | error e => rw [q2] at h; cases h
   | ok us =>
    rcases List.mem_cons.1 hk with rfl | hk
    ·exact ⟨t, q⟩
    ·exact qjx q2 k hk
theorem qzj {α : Type} {l : List α} (h : (l.length : Int) = 2) : ∃ a b, l = [a, b] := by
 match l, h with
 | [a, b], _ => exact ⟨a, b, rfl⟩
 | [], h => simp at h
 | [a], h => simp at h
 | a :: b :: c :: l, h => simp at h; omega
theorem qy1 {α : Type} {l : List α} (h : (l.length : Int) = 1) : ∃ a, l = [a] := by
 match l, h with
 | [a], _ => exact ⟨a, rfl⟩
 | [], h => simp at h
 | a :: b :: l, h => simp at h; omega
theorem qzk {α : Type} {l : List α} (h : (l.length : Int) = 0) : l = [] := by
 cases l with
 | nil => rfl
 | cons a l => simp at h; omega
theorem qk6 {m : Nat} {x : M} {k : Int} (ht : x.Ac.length ≤ 3000) (hk : x.Ab = 20) (h : Jv m x = some k) (h2 : k ≠ -2) : nmr x.Ac = true := by
 unfold Jv at h
 rw [hk] at h
 rw [qzu (by decide), qzu (by decide), qzu (by decide), qzu (by decide), qzu (by decide), qzu (by decide), qzu (by decide), qzv (by decide), qjm ht, qzt] at h
 cases q : nmr x.Ac with
 | true => rfl
 | false => rw [q, qzv (by simp)] at h; cases h; exact absurd rfl h2
theorem qk7 {m : Nat} {x : M} {k : Int} (ht : x.Ac.length ≤ 3000) (hk : x.Ab = 21) (h : Jv m x = some k) (h2 : k ≠ -2) : prt x.Ac = true := by
 unfold Jv at h
 rw [hk] at h
 rw [qzu (by decide), qzu (by decide), qzu (by decide), qzu (by decide), qzu (by decide), qzu (by decide), qzu (by decide), qzu (by decide), qzv (by decide), qcg (by omega), qzt] at h
 cases q : prt x.Ac with
 | true => rfl
 | false => rw [q, qzv (by simp)] at h; cases h; exact absurd rfl h2
theorem XE_of {ρ : Env} : ∀ {d m : Nat} {x : M} {t : Int}, Ok d x → Jr m x = some true → tyE d ρ x = .ok t → XE ρ d x
 | 0, _, _, _, h, _, _ => h.elim
 | d + 1, m, x, t, h, hv, ht => by
  obtain ⟨h1, h2, h3⟩ := h
  obtain ⟨m', k, rfl, hk, k2, k3, k4⟩ := qcq hv
  rw [tyE] at ht
  cases q : kidsE (tyE d ρ) x.Aa with
  | error e => rw [q] at ht; cases ht
  | ok ts =>
   rw [q] at ht
   simp only at ht
   have hm := qjx q
   have rec_ : ∀ c ∈ x.Aa, XE ρ d c := fun c hc => by
    obtain ⟨t', h'⟩ := hm c hc
    exact XE_of (h3 c hc) (k4 c hc) h'
   refine ⟨h1, ?_⟩
   have two : k = 2 → ∃ k l, x.Aa = [k, l] ∧ XE ρ d k ∧ XE ρ d l := fun e => by
    obtain ⟨a, b, e⟩ := qzj (by rw [k3 (by omega), e])
    exact ⟨a, b, e, rec_ a (by rw [e]; simp), rec_ b (by rw [e]; simp)⟩
   rcases operands_len hk k2 with ⟨q1, e⟩ | ⟨q1, e⟩ | ⟨q1, e, e2⟩ | ⟨q1, e⟩ | ⟨q1, e⟩
   ·exact .inr (.inr (.inr (.inr (.inr ⟨by omega, two e⟩))))
   ·obtain ⟨a, e⟩ := qy1 (by rw [k3 (by omega), e])
    exact .inr (.inr (.inr (.inr (.inl ⟨.inr q1, a, e, rec_ a (by rw [e]; simp)⟩))))
   ·exact .inr (.inr (.inr (.inr (.inr ⟨.inr (.inr (.inr (.inr (.inr ⟨q1, e2⟩)))), two e⟩))))
   ·have e0 : x.Aa = [] := qzk (by rw [k3 (by omega), e])
    rcases q1 with q1 | q1 | q1 | q1
    ·exact .inl ⟨q1, qk6 h1 q1 hk k2, e0⟩
    ·exact .inr (.inl ⟨q1, qk7 h1 q1 hk k2, e0⟩)
    ·exact .inr (.inr (.inl ⟨q1, e0⟩))
    ·refine .inr (.inr (.inr (.inl ⟨q1, fun hz => ?_, e0⟩)))
     unfold tyN at ht
     rw [qzu (by omega), qzu (by omega), qzu (by omega), qzv q1, qzv hz] at ht
     cases ht
   ·unfold tyN at ht
    rw [qzu (by omega), qzu (by omega), qzu (by omega), qzu (by omega), qzv q1] at ht
    by_cases q0 : (fnc x.Ac).2 = 0
    ·rw [qzv q0] at ht; cases ht
    ·rw [qzu q0] at ht
     by_cases q3 : ts = [(fnc x.Ac).1]
     ·have hl := kidsE_len q
      obtain ⟨a, e'⟩ := qy1 (l := x.Aa) (by rw [← hl, q3]; rfl)
      exact .inr (.inr (.inr (.inr (.inl ⟨.inl ⟨q1, q0⟩, a, e', rec_ a (by rw [e']; simp)⟩))))
     ·rw [qzu q3] at ht; cases ht
theorem ix0 {α : Type} {a : α} {l : List α} : ix (a :: l) 0 = some a := rfl
theorem ix1 {α : Type} {a b : α} {l : List α} : ix (a :: b :: l) 1 = some b := rfl
def acw (x : M) : Option Str :=
 if x.Ab = 4 then some x.Ac
 else if x.Ab = 5 then some ([104, 101, 97, 100, 101, 114, 58] ++ x.Ac)
 else if x.Ab = 6 then some ([118, 97, 114, 121, 58] ++ x.Ac)
 else if x.Ab = 7 then some [116, 97, 103]
 else if x.Ab = 8 then some [116, 116, 108]
 else if x.Ab = 9 then some [100, 101, 110, 121]
 else if x.Ab = 10 then some [112, 97, 115, 115]
 else if x.Ab = 11 then some [116, 111, 107, 101, 110]
 else none
def acs (x : M) : List I := match acw x with
 | some w => [⟨11, 0, w⟩]
 | none => []
theorem if_kids {m : Nat} {x : M} (hk : x.Ab = 2) (h : Js (m + 1) x = some true) : ∃ e t, t.Ab = 12 ∧ (x.Aa = [e, t] ∨ ∃ o, (o.Ab = 12 ∨ o.Ab = 2) ∧ x.Aa = [e, t, o]) := by
 obtain ⟨l3, k1⟩ := qnv hk h
 have k2 := qjw hk h
 obtain ⟨m', e, _, hv⟩ := qc0 h
 cases e
 obtain ⟨l2, _⟩ := hv hk
 match hx : x.Aa, l2, l3 with
 | [e, t], _, _ => exact ⟨e, t, k1 t (by rw [hx]; rfl), .inl rfl⟩
 | [e, t, o], _, _ =>
  refine ⟨e, t, k1 t (by rw [hx]; rfl), .inr ⟨o, ?_, rfl⟩⟩
  by_cases q : o.Ab = 12
  ·exact .inl q
  ·exact .inr (k2 o (by rw [hx]; simp) q)
 | [], h, _ => simp at h
 | [a], h, _ => simp at h
 | a :: b :: c :: e :: l, _, h => simp at h
theorem brn12 {t : M} (h : t.Ab = 12) : brn t = t.Aa := by unfold brn; rw [qzv h]
theorem brn2 {t : M} (h : t.Ab = 2) : brn t = [t] := by unfold brn; rw [qzu (by omega)]
def SF (x : M) : Prop :=
 x.Ab = 2 ∨ (x.Ab = 3 ∧ x.Aa.length = 1) ∨ (x.Ab = 4 ∧ x.Aa.length = 1 ∧ (x.Ac = [112, 97, 116, 104] ∨ x.Ac = [113, 117, 101, 114, 121])) ∨ (x.Ab = 5 ∧ x.Aa.length = 1 ∧ prt x.Ac = true) ∨ (x.Ab = 6 ∧ x.Aa.length = 0 ∧ prt x.Ac = true) ∨
 ((x.Ab = 7 ∨ x.Ab = 8 ∨ x.Ab = 9) ∧ x.Aa.length = 1) ∨ ((x.Ab = 10 ∨ x.Ab = 11) ∧ x.Aa.length = 0)
theorem qfg {m : Nat} {x : M} (h : (if decide ((x.Aa.length : Int) = 1) = true then (ix x.Aa 0).bind fun x121 => (Jr m x121).bind fun x123 => some x123 else some false).bind (fun x124 => some x124) = some true) : x.Aa.length = 1 := by
 by_cases q : (x.Aa.length : Int) = 1
 ·omega
 ·rw [qzu (by simpa using q)] at h; cases h
theorem stated_form {m : Nat} {x : M} (ht : x.Ac.length ≤ 3000) (h : Js (m + 1) x = some true) : SF x := by
 unfold SF
 by_cases q2 : x.Ab = 2
 ·exact .inl q2
 rw [Js, qzu (by simpa using q2)] at h
 by_cases q6 : x.Ab = 6
 ·rw [qzv (by simpa using q6), qcg (by omega), qzt] at h
  simp only [Option.some.injEq, Bool.and_eq_true, decide_eq_true_eq] at h
  exact .inr (.inr (.inr (.inr (.inl ⟨q6, by omega, h.1⟩))))
 rw [qzu (by simpa using q6)] at h
 by_cases q10 : x.Ab = 10
 ·rw [qzv (by simpa using q10)] at h
  simp only [Option.some.injEq, Bool.and_eq_true, decide_eq_true_eq] at h
  exact .inr (.inr (.inr (.inr (.inr (.inr ⟨.inl q10, by omega⟩)))))
 rw [qzu (by simpa using q10)] at h
 by_cases q11 : x.Ab = 11
 ·rw [qzv (by simpa using q11)] at h
  simp only [Option.some.injEq, Bool.and_eq_true, decide_eq_true_eq] at h
  exact .inr (.inr (.inr (.inr (.inr (.inr ⟨.inr q11, by omega⟩)))))
 rw [qzu (by simpa using q11)] at h
 by_cases q3 : x.Ab = 3
 ·rw [qzv (by simpa using q3)] at h
  obtain ⟨b, hb, h⟩ := bnd h
  cases b with
  | false => rw [qzv (by simp)] at h; cases h
  | true => rw [qzu (by simp)] at h; exact .inr (.inl ⟨q3, qfg h⟩)
 rw [qzu (by simpa using q3)] at h
 by_cases q4 : x.Ab = 4
 ·rw [qzv (by simpa using q4)] at h
  cases q : (decide (x.Ac ≠ ([112, 97, 116, 104] : Str)) && decide (x.Ac ≠ ([113, 117, 101, 114, 121] : Str))) with
  | true => rw [q, qzv rfl] at h; cases h
  | false =>
   rw [q, qzu (by simp)] at h
   refine .inr (.inr (.inl ⟨q4, qfg h, ?_⟩))
   simp only [Bool.and_eq_false_iff, decide_eq_false_iff_not, ne_eq, Classical.not_not] at q
   exact q
 rw [qzu (by simpa using q4)] at h
 by_cases q5 : x.Ab = 5
 ·rw [qzv (by simpa using q5), qcg (by omega), qzt] at h
  cases q : prt x.Ac with
  | false => rw [q, qzv (by simp)] at h; cases h
  | true => rw [q, qzu (by simp)] at h; exact .inr (.inr (.inr (.inl ⟨q5, qfg h, rfl⟩)))
 rw [qzu (by simpa using q5)] at h
 by_cases q7 : x.Ab = 7
 ·rw [qzv (by simpa using q7)] at h
  split at h
  ·cases h
  ·exact .inr (.inr (.inr (.inr (.inr (.inl ⟨.inl q7, qfg h⟩)))))
 rw [qzu (by simpa using q7)] at h
 by_cases q8 : x.Ab = 8
 ·rw [qzv (by simpa using q8)] at h
  split at h
  ·cases h
  ·exact .inr (.inr (.inr (.inr (.inr (.inl ⟨.inr (.inl q8), qfg h⟩)))))
 rw [qzu (by simpa using q8)] at h
 by_cases q9 : x.Ab = 9
 ·rw [qzv (by simpa using q9)] at h
  split at h
  ·cases h
  ·exact .inr (.inr (.inr (.inr (.inr (.inl ⟨.inr (.inr q9), qfg h⟩)))))
 rw [qzu (by simpa using q9)] at h
 cases h
def isJ (i : I) : Bool := decide (i.Op = 9) || decide (i.Op = 10)
def Bd (b : Nat) (l : List I) : Prop := ∀ i ∈ l, isJ i = true → (b : Int) ≤ i.N ∧ i.N ≤ b + l.length
theorem Bd.nil (b : Nat) : Bd b [] := fun i hi _ => by cases hi
theorem qfx {e : Int} {f : M → Int → Int → Option (Bool × Int)} {d : Nat} (hf : ∀ k z m, f k z (e - 1) = some (true, m) → m + cnt d k ≤ z ∧ 0 ≤ m) : ∀ (l : List M) (i : Nat) (y : Int) (r : Fl (Bool × Int) Int), Jay e f l i y = some r → (∀ m, r = Fl.go m → m + cntL d l ≤ y ∧ (0 ≤ y → 0 ≤ m)) ∧ ∀ z, r = Fl.ret z → z.1 = false
 | [], i, y, r, h => by
  cases h
  exact ⟨fun m e => by cases e; simp [cntL], fun z e => by cases e⟩
 | k :: l, i, y, r, h => by
  rw [Jay] at h
  obtain ⟨_, h⟩ := qay h
  obtain ⟨x, hx, h⟩ := bnd h
  obtain ⟨b, m⟩ := x
  cases b with
  | false =>
   rw [qzv (by simp)] at h
   cases h
   exact ⟨fun m e => (by cases e), fun z e => by cases e; rfl⟩
  | true =>
   rw [qzu (by simp)] at h
   obtain ⟨h1, h2⟩ := hf k y m hx
   obtain ⟨g1, g2⟩ := qfx hf l (i + 1) m r h
   refine ⟨fun m' e => ?_, g2⟩
   obtain ⟨a1, a2⟩ := g1 m' e
   rw [cntL_cons]
   exact ⟨by omega, fun _ => a2 h2⟩
theorem qjy : ∀ (n d : Nat) (x : M) (z e m : Int), Jat n x z e = some (true, m) → m + cnt d x ≤ z ∧ 0 ≤ m
 | 0, d, x, z, e, m, h => by rw [Jat] at h; cases h
 | n + 1, d, x, z, e, m, h => by
  rw [Jat] at h
  obtain ⟨_, h⟩ := qay h
  split at h
  ·cases h
  ·rename_i hq
   simp only [Bool.or_eq_true, decide_eq_true_eq, not_or] at hq
   obtain ⟨_, h⟩ := qay h
   obtain ⟨r, hr, h⟩ := bnd h
   have key : ∀ d', (∀ m, r = Fl.go m → m + cntL d' x.Aa ≤ z - 1 ∧ (0 ≤ z - 1 → 0 ≤ m)) ∧ ∀ z, r = Fl.ret z → z.1 = false := fun d' => qfx (d := d') (fun k z m hk => qjy n d' k z _ m hk) x.Aa 0 (z - 1) r hr
   cases r with
   | ret q =>
    rw [el_ret] at h
    have := (key 0).2 q rfl
    cases h
    cases this
   | go q =>
    rw [el_go] at h
    cases h
    cases d with
    | zero =>
     have h0 := (key 0).1 m rfl
     have hc : cnt 0 x = 0 := rfl
     rw [hc]
     have : (0 : Int) ≤ cntL 0 x.Aa := by omega
     exact ⟨by omega, h0.2 (by omega)⟩
    | succ d =>
     have h1 := (key d).1 m rfl
     rw [cnt_eq]
     exact ⟨by omega, h1.2 (by omega)⟩
theorem qk8 {n : Nat} {x : M} (h : Jau n x = some true) (d : Nat) : cnt d x ≤ 512 := by
 unfold Jau at h
 split at h
 ·cases h
 ·obtain ⟨s, hs, h⟩ := bnd h
  obtain ⟨b, m⟩ := s
  cases b with
  | false => rw [qzv (by simp)] at h; cases h
  | true =>
   have := qjy n d x 512 32 m hs
   omega
def NL : Nat → M → Prop
 | 0, _ => True
 | d + 1, x => x.Ab ≠ 3 ∧ ∀ k ∈ x.Aa, NL d k
theorem NL.up : ∀ {d : Nat} {x : M}, Ok d x → NL d x → ∀ e, NL e x
 | 0, _, h, _, _ => h.elim
 | d + 1, x, _, _, 0 => trivial
 | d + 1, x, h, hn, e + 1 => ⟨hn.1, fun k hk => (NL.up (h.2.2 k hk) (hn.2 k hk)) e⟩
def acts1 : List Str := [[112, 97, 116, 104], [113, 117, 101, 114, 121], [116, 97, 103], [116, 116, 108], [100, 101, 110, 121]]
def acts0 : List Str := [[112, 97, 115, 115], [116, 111, 107, 101, 110]]
def sHeader : Str := [104, 101, 97, 100, 101, 114, 58]
def sVary : Str := [118, 97, 114, 121, 58]
def hp (s p : Str) : Bool := decide (s.length ≥ p.length) && decide (s.take p.length = p)
def actK (s : Str) : Option Int :=
 if s ∈ acts1 then some 1 else if s ∈ acts0 then some 0 else if hp s sHeader = true then (if prt s = true then some 1 else none) else if (hp s sVary && prt s) = true then some 0 else none
def eff (x : I) : Option (Int × Int) :=
 if x.Op = 1 then (if x.S = [] ∧ 0 ≤ x.N ∧ x.N ≤ 999999999 then some (0, 1) else none)
 else if x.Op = 2 then (if x.N = 0 ∧ prt x.S = true then some (0, 1) else none)
 else if x.Op = 3 then (if x.S = [] ∧ 0 ≤ x.N ∧ x.N ≤ 511 then some (0, 1) else none)
 else if x.Op = 4 then (if x.S = [] ∧ 0 ≤ x.N ∧ x.N ≤ 511 then some (1, 0) else none)
 else if x.Op = 5 then (if x.N = 0 ∧ x.S ∈ Jaa then some (0, 1) else none)
 else if x.Op = 6 then (if x.N = 0 ∧ x.S ∈ Ja5 then some (1, 1) else none)
 else if x.Op = 7 then (if x.N = 0 ∧ x.S ∈ Ja6 then some (2, 1) else none)
 else if x.Op = 8 then (if x.N = 0 ∧ x.S = [] then some (1, 1) else none)
 else if x.Op = 9 then (if x.S = [] then some (0, 0) else none)
 else if x.Op = 10 then (if x.S = [] then some (1, 0) else none)
 else if x.Op = 11 then (if x.N = 0 then (actK x.S).map fun t => (t, 0) else none)
 else if x.Op = 12 then (if x.N = 0 ∧ x.S = [] then some (0, 0) else none)
 else none
theorem qg6 (v : Str) : ∀ (l : List Str) (i : Nat), ∃ r, JZ v l i = some r ∧ (v ∈ l → ∃ j : Nat, r = Fl.ret (j : Int)) ∧ (v ∉ l → r = Fl.go ())
 | [], i => ⟨_, rfl, fun h => (by cases h), fun _ => rfl⟩
 | a :: l, i => by
  rw [JZ]
  by_cases q : v = a
  ·rw [qzv (by simpa using q)]
   exact ⟨_, rfl, fun _ => ⟨i, rfl⟩, fun h => absurd (by simp [q]) h⟩
  ·rw [qzu (by simpa using q)]
   obtain ⟨r, hr, h1, h2⟩ := qg6 v l (i + 1)
   exact ⟨r, hr, fun h => h1 (by simpa [q] using h), fun h => h2 (by simpa [q] using h)⟩
theorem cont_eq {l : List Str} {v : Str} (h : l.length ≤ 1000) : JP l v = some (decide (v ∈ l)) := by
 unfold JP JbA
 obtain ⟨r, hr, h1, h2⟩ := qg6 v l 0
 rw [qab (by simp only [qax]; omega), hr, qzt]
 by_cases q : v ∈ l
 ·obtain ⟨j, rfl⟩ := h1 q
  rw [el_ret, qzt, decide_eq_true q, decide_eq_true (by omega)]
 ·rw [h2 q, el_go, qzt, decide_eq_false q]; rfl
theorem sub0 (s : Str) (k : Nat) : subL s (0 : Int) (k : Int) = s.take k := by
 unfold subL
 simp
theorem hp_eq (s p : Str) : (decide ((s.length : Int) ≥ (p.length : Int)) && decide (subL s (0 : Int) (p.length : Int) = p)) = hp s p := by
 rw [sub0]
 unfold hp
 congr 1
 rw [decide_eq_decide]; omega
theorem hp_app {s p : Str} (h : hp s p = true) : s = p ++ s.drop p.length := by
 simp only [hp, Bool.and_eq_true, decide_eq_true_eq] at h
 conv => lhs; rw [← List.take_append_drop p.length s, h.2]
theorem qh6 (a b : Str) : prt (a ++ b) = (prt a && prt b) := by simp [prt]
theorem qyh {s p q : Str} (h : hp s p = true) (hn : ∀ t, hp (p ++ t) q = false) : hp s q = false := by
 rw [hp_app h]; exact hn _
theorem qwt (s : Str) (h : hp s sVary = true) : hp s sHeader = false := by
 refine qyh h fun t => ?_
 unfold hp sVary sHeader
 simp
theorem qwu {s : Str} (h : hp s sVary = true) : s ∉ acts1 := by
 intro hs
 have : ∀ w ∈ acts1, hp w sVary = false := by decide
 rw [this s hs] at h; cases h
theorem qjz {s : Str} (h : hp s sHeader = true) : s ∉ acts0 := by
 intro hs
 have : ∀ w ∈ acts0, hp w sHeader = false := by decide
 rw [this s hs] at h; cases h
end Rt.Rc
