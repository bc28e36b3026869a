/- Ruletype: what the two lexers say of a text that is to be one word, or one number. -/
import Derived.Test.YtdnelkmckpapgaaDoorRtL
set_option linter.unusedVariables false
set_option linter.unusedSimpArgs false
open Go Go.SL Go.Proofs Pl
namespace Rt
def isL (c : UInt8) : Bool := (decide ((c.toNat : Int) ≥ 97) && decide ((c.toNat : Int) ≤ 122)) || decide ((c.toNat : Int) = 95)
def isD (c : UInt8) : Bool := decide ((c.toNat : Int) ≥ 48) && decide ((c.toNat : Int) ≤ 57)
def isA (c : UInt8) : Bool := isL c || isD c
def tw (p : UInt8 → Bool) (s : Str) (i : Nat) : Int := ((i + ((s.drop i).takeWhile p).length : Nat) : Int)
theorem tw_stop {p : UInt8 → Bool} {s : Str} {i : Nat} (h : s.length ≤ i) : tw p s i = i := by
  unfold tw; rw [List.drop_eq_nil_of_le h]; rfl
theorem tw_go {p : UInt8 → Bool} {s : Str} {i : Nat} (h : i < s.length) (hp : p s[i] = true) : tw p s i = tw p s (i + 1) := by
  unfold tw; rw [List.drop_eq_getElem_cons h, List.takeWhile_cons, if_pos hp, List.length_cons]; omega
theorem tw_no {p : UInt8 → Bool} {s : Str} {i : Nat} (h : i < s.length) (hp : p s[i] = false) : tw p s i = i := by
  unfold tw; rw [List.drop_eq_getElem_cons h, List.takeWhile_cons, if_neg (by rw [hp]; simp)]; rfl
theorem ixn {α : Type} {s : List α} {i : Nat} (h : i < s.length) : ix s (i : Int) = some s[i] := by
  unfold ix; rw [if_pos (by omega)]; exact List.getElem?_eq_getElem h
theorem tokL1 {s : Str} (hs : s.length ≤ 5000) : ∀ (n i : Nat), i ≤ s.length → s.length - i < n → rulelex_token_L1 s n (i : Int) = some (tw isA s i)
  | 0, i, h1, h2 => by omega
  | n + 1, i, h1, h2 => by
    rw [rulelex_token_L1]
    by_cases hi : i < s.length
    · rw [if_pos (by simpa using hi), ixn hi, Option.bind_some, show rulelex_letter s[i] = some (isL s[i]) from rfl, Option.bind_some]
      have e : (if isL s[i] = true then some true else (some s[i]).bind fun x28 => (rulelex_digit x28).bind fun x29 => some x29) = some (isA s[i]) := by
        unfold isA
        cases q : isL s[i] <;> simp [q, rulelex_digit, isD]
      rw [e, Option.bind_some]
      cases q : isA s[i] with
      | true =>
        rw [if_pos rfl, chk_bind (by constructor <;> omega), tw_go hi q, show ((i : Int) + 1) = ((i + 1 : Nat) : Int) from by omega]
        exact tokL1 hs n (i + 1) (by omega) (by omega)
      | false => rw [if_neg (by simp), tw_no hi q]
    · rw [if_neg (by simpa using hi), tw_stop (by omega)]
theorem takL1 {s : Str} (hs : s.length ≤ 5000) : ∀ (n i : Nat), i ≤ s.length → s.length - i < n → ref42_take_L1 s n (i : Int) = some (tw isA s i)
  | 0, i, h1, h2 => by omega
  | n + 1, i, h1, h2 => by
    rw [ref42_take_L1]
    by_cases hi : i < s.length
    · rw [if_pos (by simpa using hi), ixn hi, Option.bind_some, show ref42_letter s[i] = some (isL s[i]) from rfl, Option.bind_some]
      have e : (if isL s[i] = true then some true else (some s[i]).bind fun x28 => (ref42_digit x28).bind fun x29 => some x29) = some (isA s[i]) := by
        unfold isA
        cases q : isL s[i] <;> simp [q, ref42_digit, isD]
      rw [e, Option.bind_some]
      cases q : isA s[i] with
      | true =>
        rw [if_pos rfl, chk_bind (by constructor <;> omega), tw_go hi q, show ((i : Int) + 1) = ((i + 1 : Nat) : Int) from by omega]
        exact takL1 hs n (i + 1) (by omega) (by omega)
      | false => rw [if_neg (by simp), tw_no hi q]
    · rw [if_neg (by simpa using hi), tw_stop (by omega)]
theorem tokL3 {s : Str} (hs : s.length ≤ 5000) : ∀ (n i : Nat), i ≤ s.length → s.length - i < n → rulelex_token_L3 s n (i : Int) = some (tw isD s i)
  | 0, i, h1, h2 => by omega
  | n + 1, i, h1, h2 => by
    rw [rulelex_token_L3]
    by_cases hi : i < s.length
    · rw [if_pos (by simpa using hi), ixn hi, Option.bind_some, show rulelex_digit s[i] = some (isD s[i]) from rfl, Option.bind_some, Option.bind_some]
      cases q : isD s[i] with
      | true =>
        rw [if_pos rfl, chk_bind (by constructor <;> omega), tw_go hi q, show ((i : Int) + 1) = ((i + 1 : Nat) : Int) from by omega]
        exact tokL3 hs n (i + 1) (by omega) (by omega)
      | false => rw [if_neg (by simp), tw_no hi q]
    · rw [if_neg (by simpa using hi), Option.bind_some, if_neg (by simp), tw_stop (by omega)]
theorem takL3 {s : Str} (hs : s.length ≤ 5000) : ∀ (n i : Nat), i ≤ s.length → s.length - i < n → ref42_take_L3 s n (i : Int) = some (tw isD s i)
  | 0, i, h1, h2 => by omega
  | n + 1, i, h1, h2 => by
    rw [ref42_take_L3]
    by_cases hi : i < s.length
    · rw [if_pos (by simpa using hi), ixn hi, Option.bind_some, show ref42_digit s[i] = some (isD s[i]) from rfl, Option.bind_some, Option.bind_some]
      cases q : isD s[i] with
      | true =>
        rw [if_pos rfl, chk_bind (by constructor <;> omega), tw_go hi q, show ((i : Int) + 1) = ((i + 1 : Nat) : Int) from by omega]
        exact takL3 hs n (i + 1) (by omega) (by omega)
      | false => rw [if_neg (by simp), tw_no hi q]
    · rw [if_neg (by simpa using hi), Option.bind_some, if_neg (by simp), tw_stop (by omega)]
theorem take_tw (p : UInt8 → Bool) : ∀ t : Str, t.take (t.takeWhile p).length = t.takeWhile p
  | [] => rfl
  | c :: t => by
    rw [List.takeWhile_cons]
    cases q : p c with
    | true => rw [if_pos rfl, List.length_cons, List.take_succ_cons, take_tw p t]
    | false => rw [if_neg (by simp)]; rfl
theorem tw_le (p : UInt8 → Bool) : ∀ t : Str, (t.takeWhile p).length ≤ t.length
  | [] => by simp
  | c :: t => by
    rw [List.takeWhile_cons]
    have := tw_le p t
    cases q : p c <;> simp <;> omega
theorem tw_all (p : UInt8 → Bool) : ∀ t : Str, (t.takeWhile p).all p = true
  | [] => rfl
  | c :: t => by
    rw [List.takeWhile_cons]
    cases q : p c with
    | true => rw [if_pos rfl, List.all_cons, q, tw_all p t]; rfl
    | false => rw [if_neg (by simp)]; rfl
theorem tw_self (p : UInt8 → Bool) : ∀ t : Str, t.all p = true → t.takeWhile p = t
  | [], _ => rfl
  | c :: t, h => by
    rw [List.all_cons, Bool.and_eq_true] at h
    rw [List.takeWhile_cons, if_pos h.1, tw_self p t h.2]
theorem tw1 (p : UInt8 → Bool) (c : UInt8) (t : Str) : tw p (c :: t) 1 = ((t.takeWhile p).length : Int) + 1 := by
  unfold tw; rw [List.drop_succ_cons, List.drop_zero]; omega
theorem tw0 {p : UInt8 → Bool} {c : UInt8} (t : Str) (h : p c = true) : tw p (c :: t) 0 = ((t.takeWhile p).length : Int) + 1 := by
  rw [tw_go (by simp) (by simpa using h)]; exact tw1 p c t
theorem sub_tw (p : UInt8 → Bool) (c : UInt8) (t : Str) : subL (c :: t) (0 : Int) (((t.takeWhile p).length : Int) + 1) = c :: t.takeWhile p := by
  unfold subL
  rw [show ((((t.takeWhile p).length : Int) + 1) - 0).toNat = (t.takeWhile p).length + 1 from by omega, show ((0 : Int)).toNat = 0 from rfl, List.drop_zero, List.take_succ_cons, take_tw]
theorem isA_of_L {c : UInt8} (h : isL c = true) : isA c = true := by simp [isA, h]
theorem tok_word {n : Nat} {c : UInt8} {t : Str} (hn : 10000 ≤ n) (hs : (c :: t).length ≤ 5000) (hc : isL c = true) : rulelex_token n (c :: t) = some (1, ((t.takeWhile isA).length : Int) + 1, c :: t.takeWhile isA) := by
  have := tw_le isA t
  simp only [List.length_cons] at hs
  unfold rulelex_token
  rw [show ix (c :: t) 0 = some c from rfl, Option.bind_some, show rulelex_letter c = some (isL c) from rfl, Option.bind_some, hc, if_pos rfl, show (1 : Int) = ((1 : Nat) : Int) from rfl, tokL1 (by simp; omega) n 1 (by simp) (by simp; omega), Option.bind_some, tw1, chk_bind (by simp only [List.length_cons]; omega), sub_tw]
  rfl
theorem tak_word {n : Nat} {c : UInt8} {t : Str} (hn : 10000 ≤ n) (hs : (c :: t).length ≤ 5000) (hc : isL c = true) : ref42_take n (c :: t) = some (1, c :: t.takeWhile isA, ((t.takeWhile isA).length : Int) + 1) := by
  have := tw_le isA t
  simp only [List.length_cons] at hs
  unfold ref42_take
  rw [show ix (c :: t) 0 = some c from rfl, Option.bind_some, show ref42_letter c = some (isL c) from rfl, Option.bind_some, hc, if_pos rfl, show ref42_take_L1 (c :: t) n 0 = some (tw isA (c :: t) 0) from takL1 (by simp; omega) n 0 (by simp) (by simp; omega), Option.bind_some, tw0 t (isA_of_L hc), chk_bind (by simp only [List.length_cons]; omega), sub_tw]
theorem tak_num {n : Nat} {c : UInt8} {t : Str} (hn : 10000 ≤ n) (hs : (c :: t).length ≤ 5000) (hL : isL c = false) (hc : isD c = true) :
    ref42_take n (c :: t) = some (if (t.takeWhile isD).length + 1 > 9 then (0, [], 0) else (2, c :: t.takeWhile isD, ((t.takeWhile isD).length : Int) + 1)) := by
  have := tw_le isD t
  simp only [List.length_cons] at hs
  unfold ref42_take
  rw [show ix (c :: t) 0 = some c from rfl, Option.bind_some, show ref42_letter c = some (isL c) from rfl, Option.bind_some, hL, if_neg (by simp), Option.bind_some, show ref42_digit c = some (isD c) from rfl, Option.bind_some, hc, if_pos rfl, show ref42_take_L3 (c :: t) n 0 = some (tw isD (c :: t) 0) from takL3 (by simp; omega) n 0 (by simp) (by simp; omega), Option.bind_some, tw0 t hc]
  by_cases q : (t.takeWhile isD).length + 1 > 9
  · rw [if_pos (by simp; omega), if_pos q]
  · rw [if_neg (by simp; omega), if_neg q, chk_bind (by simp only [List.length_cons]; omega), sub_tw]
end Rt
