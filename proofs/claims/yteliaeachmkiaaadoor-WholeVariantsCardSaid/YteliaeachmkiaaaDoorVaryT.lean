/- Vary: trimming and tokens, both ways. -/
import Derived.Test.YteliaeachmkiaaaDoorVaryK
import Derived.Test.YteliaeachmkiaaaDoorSL32
set_option linter.unusedVariables false
set_option linter.unusedSimpArgs false
open Go Go.SL Go.Proofs Pl
namespace Vary
def bl9 (c : UInt8) : Bool := ([32, 9] : Str).contains c
theorem bl9_eq (c : UInt8) : bl9 c = (decide ((c.toNat : Int) = 32) || decide ((c.toNat : Int) = 9)) := by
  have e1 : ∀ k : UInt8, (c == k) = decide ((c.toNat : Int) = (k.toNat : Int)) := fun k => by
    by_cases h : c = k
    · subst h; simp
    · have : ¬ (c.toNat : Int) = (k.toNat : Int) := fun e => h (UInt8.toNat_inj.1 (by omega))
      simp [h, this]
  unfold bl9
  rw [List.contains_cons, List.contains_cons, List.contains_nil, Bool.or_false, e1, e1]; rfl
/-- From the end. -/
def rd : Str → Str
  | [] => []
  | x :: t => match rd t with
    | [] => if bl9 x = true then [] else [x]
    | y :: ys => x :: y :: ys
theorem rd_snoc (r : Str) (z : UInt8) : rd (r ++ [z]) = if bl9 z = true then rd r else r ++ [z] := by
  induction r with
  | nil => simp [rd]
  | cons x r ih =>
    rw [List.cons_append, rd, ih]
    by_cases q : bl9 z = true
    · rw [if_pos q, if_pos q, rd]
    · rw [if_neg q, if_neg q]
      cases h : r ++ [z] with
      | nil => simp at h
      | cons a b => rfl
theorem rd_len : ∀ s : Str, (rd s).length ≤ s.length
  | [] => Nat.le_refl _
  | x :: t => by
    have := rd_len t
    rw [rd]
    cases h : rd t with
    | nil => simp only; split <;> simp
    | cons a b => rw [h] at this; simp only [List.length_cons] at this ⊢; omega
theorem rev_rd (s : Str) : (s.reverse.dropWhile bl9).reverse = rd s := by
  have : ∀ r : Str, rd r.reverse = (r.dropWhile bl9).reverse := fun r => by
    induction r with
    | nil => rfl
    | cons x r ih =>
      rw [List.reverse_cons, rd_snoc, List.dropWhile_cons]
      by_cases q : bl9 x = true
      · rw [if_pos q, if_pos q, ih]
      · rw [if_neg q, if_neg q, List.reverse_cons]
  rw [← this, List.reverse_reverse]
theorem dw_rd : ∀ s : Str, (rd s).dropWhile bl9 = rd (s.dropWhile bl9)
  | [] => rfl
  | x :: t => by
    rw [rd, List.dropWhile_cons]
    by_cases q : bl9 x = true
    · rw [if_pos q, if_pos q, ← dw_rd t]
      cases rd t with
      | nil => rfl
      | cons a b => simp only; rw [List.dropWhile_cons, if_pos q]
    · rw [if_neg q, if_neg q, rd, if_neg q]
      cases rd t with
      | nil => simp only; rw [List.dropWhile_cons, if_neg q]
      | cons a b => simp only; rw [List.dropWhile_cons, if_neg q]
def trm (s : Str) : Str := rd (s.dropWhile bl9)
theorem dw_len (p : UInt8 → Bool) : ∀ s : Str, (s.dropWhile p).length ≤ s.length
  | [] => Nat.le_refl _
  | x :: t => by
    rw [List.dropWhile_cons]
    have := dw_len p t
    split <;> simp only [List.length_cons] <;> omega
theorem trm_len (s : Str) : (trm s).length ≤ s.length := Nat.le_trans (rd_len _) (dw_len _ s)
theorem trimM_eq {s : Str} (h : s.length ≤ 4611686018427387904) : trimM s ([32, 9] : Str) = some (trm s) := by
  unfold trimM
  rw [if_pos ⟨h, by simp, by decide⟩]
  show some ((Go.Lib.trimRightS s [32, 9]).dropWhile (([32, 9] : Str).contains ·)) = _
  have e : Go.Lib.trimRightS s [32, 9] = rd s := rev_rd s
  rw [e]
  exact congrArg some (dw_rd s)
theorem tl {c : UInt8} {t : Str} : subL (c :: t) (1 : Int) (((c :: t).length : Nat) : Int) = t := by
  unfold subL
  rw [show ((1 : Int)).toNat = 1 from rfl, List.drop_succ_cons, List.drop_zero, List.take_of_length_le (by simp only [List.length_cons]; omega)]
/-! ### tokens -/
end Vary
