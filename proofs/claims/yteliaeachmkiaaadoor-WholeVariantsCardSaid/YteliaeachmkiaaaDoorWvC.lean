/- WholeVariants: the names of a Vary field are few. -/
import Derived.Test.YteliaeachmkiaaaDoorWvB
set_option linter.unusedVariables false
set_option linter.unusedSimpArgs false
open Go Go.SL Go.Proofs Pl
namespace Vary
theorem ix_ok {α : Type} {s : List α} {i : Int} (h0 : 0 ≤ i) (h1 : i < (s.length : Int)) : ∃ x, ix s i = some x := by
  unfold ix
  rw [if_pos h0]
  exact ⟨s[i.toNat]'(by omega), List.getElem?_eq_getElem (by omega)⟩
theorem sub_len {s : Str} {a b : Int} : (subL s a b).length ≤ (b - a).toNat := by
  unfold subL
  rw [List.length_take, List.length_drop]; omega
def Pst (s : Str) (z : List Str × Int × Bool × Int) : Prop := (sumL z.1 : Int) ≤ z.2.1 ∧ z.2.1 ≤ (s.length : Int)
theorem partsT {s : Str} {c : UInt8} (hs : s.length ≤ 10000) : ∀ (n : Nat) (y : List Str) (a : Int) (q : Bool) (i : Int), 0 ≤ i → i ≤ (s.length : Int) → (s.length : Int) + 1 - i < n → (sumL y : Int) ≤ a → a ≤ i →
    ∃ z, syntax_parts_L0 s c n y a q i = some z ∧ Pst s z
  | 0, y, a, q, i, h0, h1, h2, h3, h4 => by omega
  | n + 1, y, a, q, i, h0, h1, h2, h3, h4 => by
    rw [syntax_parts_L0]
    by_cases hi : i < (s.length : Int)
    · obtain ⟨b, hb⟩ := ix_ok h0 hi
      have dI : decide (i < (s.length : Int)) = true := decide_eq_true hi
      have eq1 : (if q = true then (ix s i).bind fun x25 => some (decide ((x25.toNat : Int) = 92)) else some false) = some (q && decide ((b.toNat : Int) = 92)) := by
        rw [hb]; cases q <;> rfl
      have eq2 : (if (!q) = true then (ix s i).bind fun x25 => some (decide ((x25.toNat : Int) = (c.toNat : Int))) else some false) = some (!q && decide ((b.toNat : Int) = (c.toNat : Int))) := by
        rw [hb]; cases q <;> rfl
      rw [if_pos dI, eq1, Option.bind_some]
      cases k1 : (q && decide ((b.toNat : Int) = 92)) with
      | true =>
        rw [if_pos rfl, chk_bind (by constructor <;> omega), chk_bind (by constructor <;> omega)]
        by_cases k2 : i + 1 = (s.length : Int)
        · obtain ⟨n', rfl⟩ : ∃ n', n = n' + 1 := ⟨n - 1, by omega⟩
          rw [syntax_parts_L0, if_neg (by simp; omega)]
          exact ⟨_, rfl, h3, by simp only; omega⟩
        · exact partsT hs n y a q (i + 1 + 1) (by omega) (by omega) (by omega) h3 (by omega)
      | false =>
        simp only [Bool.false_eq_true, if_false]
        rw [eq2, hb]
        simp only [Option.bind_some]
        by_cases k3 : (b.toNat : Int) = 34
        · rw [if_pos (by simpa using k3), chk_bind (by constructor <;> omega)]
          exact partsT hs n y a (!q) (i + 1) (by omega) (by omega) (by omega) h3 (by omega)
        · rw [if_neg (by simpa using k3)]
          cases k4 : (!q && decide ((b.toNat : Int) = (c.toNat : Int))) with
          | true =>
            have hsl : (subL s a i).length ≤ (i - a).toNat := sub_len
            have htl := trm_len (subL s a i)
            have hy := sumL_len y
            rw [if_pos rfl, chk_bind (by omega), trimM_eq (by omega), Option.bind_some, chk_bind (by simp only [lim, List.length_cons, List.length_nil]; omega), chk_bind (by constructor <;> omega), chk_bind (by constructor <;> omega)]
            exact partsT hs n _ (i + 1) q (i + 1) (by omega) (by omega) (by omega) (by rw [sumL_append, sumL_cons, sumL_nil]; omega) (by omega)
          | false =>
            simp only [Bool.false_eq_true, if_false]
            rw [chk_bind (by constructor <;> omega)]
            exact partsT hs n y a q (i + 1) (by omega) (by omega) (by omega) h3 (by omega)
    · rw [if_neg (by simpa using hi)]
      exact ⟨_, rfl, h3, by simp only; omega⟩
def nee (x : Str) : Bool := decide (x ≠ [])
theorem list_L0 : ∀ (l : List Str) (i : Nat) (y : List Str), y.length + l.length ≤ 1000000 → syntax_List_L0 l i y = some (y ++ l.filter nee)
  | [], i, y, _ => by simp [syntax_List_L0]
  | x :: l, i, y, h => by
    simp only [List.length_cons] at h
    rw [syntax_List_L0, List.filter_cons]
    by_cases q : nee x = true
    · rw [if_pos (show decide (x ≠ []) = true from q), if_pos q, chk_bind (by simp only [lim, List.length_cons, List.length_nil]; omega), list_L0 l (i + 1) _ (by simp only [List.length_append, List.length_cons, List.length_nil]; omega)]; simp
    · rw [if_neg (show ¬ decide (x ≠ []) = true from q), if_neg q, list_L0 l (i + 1) _ (by omega)]
theorem sumL_filter (p : Str → Bool) : ∀ (l : List Str), sumL (l.filter p) ≤ sumL l
  | [] => Nat.le_refl _
  | x :: l => by
    have := sumL_filter p l
    rw [List.filter_cons, sumL_cons]
    split
    · rw [sumL_cons]; omega
    · omega
theorem listT {s : Str} {n : Nat} (hs : s.length ≤ 10000) (hn : 20000 ≤ n) : (∃ l, syntax_List n s = some (l, none) ∧ sumL l ≤ s.length + 1) ∨ ∃ e : Int, syntax_List n s = some ([], some e) := by
  unfold syntax_List
  have hp : (∃ l, syntax_parts n s (44 : UInt8) = some (l, none) ∧ sumL l ≤ s.length + 1) ∨ syntax_parts n s (44 : UInt8) = some ([], some 2) := by
    unfold syntax_parts
    rw [clean_eq (by omega), Option.bind_some]
    cases q : ctl s with
    | true => exact .inr rfl
    | false =>
      obtain ⟨z, hz, h1, h2⟩ := partsT (c := 44) hs n [] 0 false 0 (by omega) (by omega) (by omega) (by simp [sumL_nil]) (by omega)
      rw [Bool.not_false, if_neg (by simp), hz, Option.bind_some]
      cases q2 : z.2.2.1 with
      | true => exact .inr rfl
      | false =>
        have hsl : (subL s z.2.1 (s.length : Int)).length ≤ ((s.length : Int) - z.2.1).toNat := sub_len
        have htl := trm_len (subL s z.2.1 (s.length : Int))
        have hy := sumL_len z.1
        simp only [Bool.false_eq_true, if_false]
        rw [chk_bind (by omega), trimM_eq (by omega), Option.bind_some, chk_bind (by simp only [lim, List.length_cons, List.length_nil]; omega)]
        refine .inl ⟨_, rfl, ?_⟩
        rw [sumL_append, sumL_cons, sumL_nil]; omega
  rcases hp with ⟨l, h1, h2⟩ | h1
  · have hl := sumL_len l
    rw [h1, Option.bind_some]
    simp only [Option.isSome_none, Bool.false_eq_true, if_false]
    rw [chk_bind (by simp only [szMax]; omega), list_L0 l 0 [] (by simp only [List.length_nil]; omega)]
    exact .inl ⟨_, rfl, by rw [List.nil_append]; exact Nat.le_trans (sumL_filter nee l) h2⟩
  · rw [h1]; exact .inr ⟨2, rfl⟩
theorem low_len (s : Str) : (low s).length = s.length := List.length_map ..
theorem names_L2 : ∀ (l : List Str) (i : Nat) (y : List Str), sumL y + sumL l ≤ 10000 → vary_Names_L2 l i y = some (Fl.ret ([], true)) ∨ ∃ z, vary_Names_L2 l i y = some (Fl.go z) ∧ sumL z ≤ sumL y + sumL l
  | [], i, y, _ => .inr ⟨y, rfl, by omega⟩
  | x :: l, i, y, h => by
    have hy := sumL_len y
    rw [sumL_cons] at h ⊢
    rw [vary_Names_L2]
    rcases nameT (s := x) (by simp only [szMax]; omega) with ⟨h1, h2⟩ | ⟨e, h1⟩
    · rw [h1, Option.bind_some]
      by_cases q : x = [42]
      · rw [if_pos (by simp [q])]; exact .inl rfl
      · rw [if_neg (by simp [q]), chk_bind (by simp only [lim, List.length_cons, List.length_nil]; omega)]
        have e1 : sumL (y ++ [(low x, (none : Err)).1]) = sumL y + (x.length + 1) := by rw [sumL_append, sumL_cons, sumL_nil]; simp only [low_len]
        rcases names_L2 l (i + 1) (y ++ [(low x, (none : Err)).1]) (by rw [e1]; omega) with h3 | ⟨z, h3, h4⟩
        · exact .inl h3
        · exact .inr ⟨z, h3, by rw [e1] at h4; omega⟩
    · rw [h1, Option.bind_some, if_pos (by simp)]; exact .inl rfl
theorem sumL_perm {l k : List Str} (h : l.Perm k) : sumL l = sumL k := by
  induction h with
  | nil => rfl
  | cons x _ ih => rw [sumL_cons, sumL_cons, ih]
  | swap x y l => rw [sumL_cons, sumL_cons, sumL_cons, sumL_cons]; omega
  | trans _ _ h1 h2 => rw [h1, h2]
theorem sumL_upTo {l : List Str} : ∀ m : Nat, m ≤ l.length → sumL (Go.Lib.compactUpTo l.toArray m) ≤ sumL (l.take m)
  | 0, h => Nat.le_refl _
  | m + 1, h => by
    have ih := sumL_upTo (l := l) m (by omega)
    have hm : l.toArray[m]! = l[m] := by simp [show m < l.length by omega]
    rw [Go.Lib.compactUpTo_succ, List.take_succ_eq_append_getElem (by omega), sumL_append, sumL_append, hm]
    split
    · omega
    · rw [sumL_nil]; omega
theorem sumL_compact (l : List Str) : sumL (Go.Lib.compact l) ≤ sumL l := by
  have := sumL_upTo (l := l) l.length (Nat.le_refl _)
  rw [List.take_length] at this
  have e : Go.Lib.compact l = Go.Lib.compactUpTo l.toArray l.length := rfl
  rw [e]; exact this
theorem compactM_t {l : List Str} (h : l.length ≤ lim) : compactM l = some (Go.Lib.compact l) := by unfold compactM; rw [if_pos h]
/-- The names of one Vary field. -/
theorem namesT {t : Str} {n : Nat} (ht : t.length ≤ 200) (hn : 20000 ≤ n) : ∃ r : List Str × Bool, vary_Names n [(⟨([118, 97, 114, 121] : Str), t⟩ : S_field_Field)] = some r ∧ sumL r.1 ≤ 1000 := by
  have ha : field_All [(⟨([118, 97, 114, 121] : Str), t⟩ : S_field_Field)] ([118, 97, 114, 121] : Str) = some [t] := by
    have := fall (f := [(⟨([118, 97, 114, 121] : Str), t⟩ : RF)]) (n := ([118, 97, 114, 121] : Str)) (by simp [tot]; omega) (by decide)
    rw [ffs_id] at this
    rw [this, vals_cons, if_pos (by simp)]; rfl
  unfold vary_Names
  rw [ha, Option.bind_some, chk_bind (by simp [szMax]), vary_Names_L0]
  rcases listT (s := t) (n := n) (by omega) hn with ⟨l, h1, h2⟩ | ⟨e, h1⟩
  · have hl := sumL_len l
    rw [h1, Option.bind_some]
    simp only [Option.isSome_none, Bool.false_eq_true, if_false]
    rw [chk_bind (by simp only [szMax]; omega)]
    rcases names_L2 l 0 [] (by rw [sumL_nil]; omega) with h3 | ⟨z, h3, h4⟩
    · rw [h3]; exact ⟨([], true), rfl, by simp [sumL_nil]⟩
    · rw [sumL_nil] at h4
      have hz := sumL_len z
      rw [h3, Option.bind_some, el_go, vary_Names_L0, Option.bind_some, el_go, sortSM_t (by simp only [lim]; omega), Option.bind_some, compactM_t (by rw [sortS_len]; simp only [lim]; omega), Option.bind_some]
      refine ⟨_, rfl, ?_⟩
      have a1 := sumL_compact (sortS z)
      have a2 := sumL_perm (sortS_perm z)
      simp only; omega
  · rw [h1]; exact ⟨([], true), rfl, by simp [sumL_nil]⟩
end Vary
