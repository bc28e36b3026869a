/- Vary: the elements of a list, both ways. -/
import Derived.Test.YtlpjmfojahofnaaDoorVaryT
set_option linter.unusedVariables false
set_option linter.unusedSimpArgs false
open Go Go.SL Go.Proofs Pl
namespace Vary
theorem ix_ok {α : Type} {s : List α} {i : Int} (h0 : 0 ≤ i) (h1 : i < (s.length : Int)) : ∃ x, ix s i = some x := by
  unfold ix
  rw [if_pos h0]
  exact ⟨s[i.toNat]'(by omega), List.getElem?_eq_getElem (by omega)⟩
def ctl (s : Str) : Bool := s.any fun c => (decide ((c.toNat : Int) < 32) && decide ((c.toNat : Int) ≠ 9)) || decide ((c.toNat : Int) = 127)
theorem clean_L0 : ∀ (s : Str) (i : Nat), syntax_clean_L0 s i = some (if ctl s = true then Fl.ret false else Fl.go ())
  | [], i => rfl
  | c :: s, i => by
    have e : ctl (c :: s) = (((decide ((c.toNat : Int) < 32) && decide ((c.toNat : Int) ≠ 9)) || decide ((c.toNat : Int) = 127)) || ctl s) := rfl
    rw [syntax_clean_L0, show syntax_control c = some ((decide ((c.toNat : Int) < 32) && decide ((c.toNat : Int) ≠ 9)) || decide ((c.toNat : Int) = 127)) from rfl, Option.bind_some, e]
    cases q : ((decide ((c.toNat : Int) < 32) && decide ((c.toNat : Int) ≠ 9)) || decide ((c.toNat : Int) = 127)) with
    | true => rfl
    | false => rw [if_neg (by simp), Bool.false_or]; exact clean_L0 s (i + 1)
theorem clean_eq {s : Str} (h : s.length ≤ 100000000) : syntax_clean s = some (!ctl s) := by
  unfold syntax_clean
  rw [chk_bind (by simp only [szMax]; omega), clean_L0, Option.bind_some]
  cases ctl s <;> rfl
theorem control_L0 : ∀ (s : Str) (i : Nat), ref01_Control_L0 s i = some (if ctl s = true then Fl.ret true else Fl.go ())
  | [], i => rfl
  | c :: s, i => by
    have e : ctl (c :: s) = (((decide ((c.toNat : Int) < 32) && decide ((c.toNat : Int) ≠ 9)) || decide ((c.toNat : Int) = 127)) || ctl s) := rfl
    have e2 : ((if decide ((c.toNat : Int) < 32) = true then some (decide ((c.toNat : Int) ≠ 9)) else some false).bind fun x18 => (if x18 = true then some true else some (decide ((c.toNat : Int) = 127)))) = some ((decide ((c.toNat : Int) < 32) && decide ((c.toNat : Int) ≠ 9)) || decide ((c.toNat : Int) = 127)) := by
      cases decide ((c.toNat : Int) < 32) <;> cases q : decide ((c.toNat : Int) ≠ 9) <;> simp [q]
    rw [ref01_Control_L0, e, ← Option.bind_assoc, e2, Option.bind_some]
    cases q : ((decide ((c.toNat : Int) < 32) && decide ((c.toNat : Int) ≠ 9)) || decide ((c.toNat : Int) = 127)) with
    | true => rfl
    | false => rw [if_neg (by simp), Bool.false_or]; exact control_L0 s (i + 1)
theorem control_eq {s : Str} (h : s.length ≤ 100000000) : ref01_Control s = some (ctl s) := by
  unfold ref01_Control
  rw [chk_bind (by simp only [szMax]; omega), control_L0, Option.bind_some]
  cases ctl s <;> rfl
def Okp (s : Str) (z : List Str × Int × Bool × Int) : Prop := z.1.length ≤ 20000 ∧ 0 ≤ z.2.1 ∧ z.2.1 ≤ (s.length : Int) ∧ ∀ x ∈ z.1, x.length ≤ s.length
theorem sub_len {s : Str} {a b : Int} : (subL s a b).length ≤ s.length := by
  unfold subL
  rw [List.length_take, List.length_drop]; omega
theorem parts_rel {s : Str} {c : UInt8} {N : Nat} (hs : s.length ≤ 10000) (hN : 20000 ≤ N) : ∀ (n m : Nat) (y : List Str) (a : Int) (q : Bool) (i : Int), 0 ≤ i → i ≤ (s.length : Int) → (s.length : Int) + 1 - i < n → (s.length : Int) + 1 - i < m → 0 ≤ a → a ≤ i → (y.length : Int) + (s.length - i) ≤ 20000 → (∀ x ∈ y, x.length ≤ s.length) →
    ∃ z, syntax_parts_L0 s c n y a q i = some z ∧ ((ref01_Parts_L0 s c N m y a q i = some (Fl.ret ([], false)) ∧ z.2.2.1 = true) ∨ (ref01_Parts_L0 s c N m y a q i = some (Fl.go z) ∧ Okp s z))
  | 0, m, y, a, q, i, h0, h1, h2, h3, h4, h5, h6, h7 => by omega
  | n + 1, 0, y, a, q, i, h0, h1, h2, h3, h4, h5, h6, h7 => by omega
  | n + 1, m + 1, y, a, q, i, h0, h1, h2, h3, h4, h5, h6, h7 => by
    rw [syntax_parts_L0, ref01_Parts_L0]
    by_cases hi : i < (s.length : Int)
    · obtain ⟨b, hb⟩ := ix_ok h0 hi
      have dI : decide (i < (s.length : Int)) = true := decide_eq_true hi
      have eq1 : (if q = true then (ix s i).bind fun x25 => some (decide ((x25.toNat : Int) = 92)) else some false) = some (q && decide ((b.toNat : Int) = 92)) := by
        rw [hb]; cases q <;> rfl
      have eq2 : (if (!q) = true then (ix s i).bind fun x25 => some (decide ((x25.toNat : Int) = (c.toNat : Int))) else some false) = some (!q && decide ((b.toNat : Int) = (c.toNat : Int))) := by
        rw [hb]; cases q <;> rfl
      rw [if_pos dI, if_pos dI, eq1, Option.bind_some, Option.bind_some]
      cases k1 : (q && decide ((b.toNat : Int) = 92)) with
      | true =>
        rw [if_pos rfl, if_pos rfl, chk_bind (by constructor <;> omega), chk_bind (by constructor <;> omega), chk_bind (by constructor <;> omega)]
        have hq : q = true := by cases q <;> simp_all
        by_cases k2 : i + 1 = (s.length : Int)
        · rw [if_pos (by simpa using k2)]
          obtain ⟨n', rfl⟩ : ∃ n', n = n' + 1 := ⟨n - 1, by omega⟩
          rw [syntax_parts_L0, if_neg (by simp; omega)]
          exact ⟨_, rfl, .inl ⟨rfl, hq⟩⟩
        · rw [if_neg (by simpa using k2), chk_bind (by constructor <;> omega)]
          exact parts_rel hs hN n m y a q (i + 1 + 1) (by omega) (by omega) (by omega) (by omega) h4 (by omega) (by omega) h7
      | false =>
        simp only [Bool.false_eq_true, if_false]
        rw [eq2, hb]
        simp only [Option.bind_some]
        by_cases k3 : (b.toNat : Int) = 34
        · have dk : decide ((b.toNat : Int) = 34) = true := decide_eq_true k3
          rw [if_pos dk, if_pos dk, chk_bind (by constructor <;> omega), chk_bind (by constructor <;> omega)]
          exact parts_rel hs hN n m y a (!q) (i + 1) (by omega) (by omega) (by omega) (by omega) h4 (by omega) (by omega) h7
        · have dk : ¬ decide ((b.toNat : Int) = 34) = true := by simpa using k3
          rw [if_neg dk, if_neg dk]
          cases k4 : (!q && decide ((b.toNat : Int) = (c.toNat : Int))) with
          | true =>
            have hsl : (subL s a i).length ≤ s.length := sub_len
            have htl := trm_len (subL s a i)
            rw [if_pos rfl, if_pos rfl, chk_bind (by omega), chk_bind (by omega), trimM_eq (by omega), rtrim (by omega) (by omega), Option.bind_some, Option.bind_some, chk_bind (by simp only [lim, List.length_cons, List.length_nil]; omega), chk_bind (by constructor <;> omega), chk_bind (by constructor <;> omega),
              chk_bind (by simp only [lim, List.length_cons, List.length_nil]; omega), chk_bind (by constructor <;> omega), chk_bind (by constructor <;> omega)]
            exact parts_rel hs hN n m _ (i + 1) q (i + 1) (by omega) (by omega) (by omega) (by omega) (by omega) (by omega) (by simp only [List.length_append, List.length_cons, List.length_nil]; omega) (fun x hx => by
              rcases List.mem_append.1 hx with hx | hx
              · exact h7 x hx
              · rw [List.mem_singleton] at hx; subst hx; omega)
          | false =>
            simp only [Bool.false_eq_true, if_false]
            rw [chk_bind (by constructor <;> omega), chk_bind (by constructor <;> omega)]
            exact parts_rel hs hN n m y a q (i + 1) (by omega) (by omega) (by omega) (by omega) h4 (by omega) (by omega) h7
    · have dI : decide (i < (s.length : Int)) = false := decide_eq_false hi
      rw [dI]
      exact ⟨_, rfl, .inr ⟨rfl, by simp only; omega, h4, by simp only; omega, h7⟩⟩
theorem parts_eq {s : Str} {c : UInt8} {n : Nat} (hs : s.length ≤ 10000) (hn : 20000 ≤ n) : ∃ o : Option (List Str), syntax_parts n s c = some (match o with | some l => (l, none) | none => ([], some 2)) ∧ ref01_Parts n s c = some (match o with | some l => (l, true) | none => ([], false)) ∧
    ∀ l, o = some l → l.length ≤ 20001 ∧ ∀ x ∈ l, x.length ≤ s.length := by
  obtain ⟨z, hz, hr⟩ := parts_rel (c := c) hs hn n n [] 0 false 0 (by omega) (by omega) (by omega) (by omega) (by omega) (by omega) (by simp only [List.length_nil]; omega) (by simp)
  unfold syntax_parts ref01_Parts
  rw [clean_eq (by omega), Option.bind_some]
  have bad : ref01_Parts_L0 s c n n [] 0 false 0 = some (Fl.ret ([], false)) ∨ (ref01_Parts_L0 s c n n [] 0 false 0 = some (Fl.go z) ∧ Okp s z) := hr.imp (fun h => h.1) id
  cases q : ctl s with
  | true =>
    refine ⟨none, rfl, ?_, fun l h => by cases h⟩
    rcases bad with h | ⟨h, _⟩
    · rw [h]; rfl
    · rw [h, Option.bind_some, el_go]
      cases z.2.2.1 with
      | true => rfl
      | false => rw [if_neg (by simp), control_eq (by omega), q]; rfl
  | false =>
    rw [Bool.not_false, if_neg (by simp), hz, Option.bind_some]
    rcases hr with ⟨h, h2⟩ | ⟨h, o1, o2, o3, o4⟩
    · rw [h2, h]
      exact ⟨none, rfl, rfl, fun l h => by cases h⟩
    · rw [h, Option.bind_some, el_go]
      cases q2 : z.2.2.1 with
      | true => exact ⟨none, rfl, rfl, fun l h => by cases h⟩
      | false =>
        have hsl : (subL s z.2.1 (s.length : Int)).length ≤ s.length := sub_len
        have htl := trm_len (subL s z.2.1 (s.length : Int))
        simp only [Bool.false_eq_true, if_false]
        rw [control_eq (by omega), q, Option.bind_some, Option.bind_some]
        simp only [Bool.false_eq_true, if_false]
        rw [chk_bind (by omega), chk_bind (by omega), trimM_eq (by omega), rtrim (by omega) (by omega), Option.bind_some, Option.bind_some, chk_bind (by simp only [lim, List.length_cons, List.length_nil]; omega), chk_bind (by simp only [lim, List.length_cons, List.length_nil]; omega)]
        refine ⟨some (z.1 ++ [trm (subL s z.2.1 (s.length : Int))]), rfl, rfl, fun l h => ?_⟩
        cases h
        refine ⟨by simp only [List.length_append, List.length_cons, List.length_nil]; omega, fun x hx => ?_⟩
        rcases List.mem_append.1 hx with hx | hx
        · exact o4 x hx
        · rw [List.mem_singleton] at hx; subst hx; omega
def nee (x : Str) : Bool := decide (x ≠ [])
theorem list_L0 : ∀ (l : List Str) (i : Nat) (y : List Str), y.length + l.length ≤ 1000000 → syntax_List_L0 l i y = some (y ++ l.filter nee)
  | [], i, y, _ => by simp [syntax_List_L0]
  | x :: l, i, y, h => by
    simp only [List.length_cons] at h
    rw [syntax_List_L0, List.filter_cons]
    by_cases q : nee x = true
    · rw [if_pos (show decide (x ≠ []) = true from q), if_pos q, chk_bind (by simp only [lim, List.length_cons, List.length_nil]; omega), list_L0 l (i + 1) _ (by simp only [List.length_append, List.length_cons, List.length_nil]; omega)]; simp
    · rw [if_neg (show ¬ decide (x ≠ []) = true from q), if_neg q, list_L0 l (i + 1) _ (by omega)]
theorem rlist_L0 : ∀ (l : List Str) (i : Nat) (y : List Str), y.length + l.length ≤ 1000000 → ref01_List_L0 l i y = some (y ++ l.filter nee)
  | [], i, y, _ => by simp [ref01_List_L0]
  | x :: l, i, y, h => by
    simp only [List.length_cons] at h
    rw [ref01_List_L0, List.filter_cons]
    by_cases q : nee x = true
    · rw [if_pos (show decide (x ≠ []) = true from q), if_pos q, chk_bind (by simp only [lim, List.length_cons, List.length_nil]; omega), rlist_L0 l (i + 1) _ (by simp only [List.length_append, List.length_cons, List.length_nil]; omega)]; simp
    · rw [if_neg (show ¬ decide (x ≠ []) = true from q), if_neg q, rlist_L0 l (i + 1) _ (by omega)]
theorem list_eq {s : Str} {n : Nat} (hs : s.length ≤ 10000) (hn : 20000 ≤ n) : ∃ o : Option (List Str), syntax_List n s = some (match o with | some l => (l, none) | none => ([], some 2)) ∧ ref01_List n s = some (match o with | some l => (l, true) | none => ([], false)) ∧
    ∀ l, o = some l → l.length ≤ 20001 ∧ ∀ x ∈ l, x.length ≤ s.length := by
  obtain ⟨o, h1, h2, h3⟩ := parts_eq (c := 44) hs hn
  unfold syntax_List ref01_List
  rw [h1, h2, Option.bind_some, Option.bind_some]
  cases o with
  | none =>
    refine ⟨none, rfl, ?_, fun l h => by cases h⟩
    simp only
    rw [chk_bind (by simp [szMax]), rlist_L0 [] 0 [] (by simp)]; rfl
  | some l =>
    obtain ⟨g1, g2⟩ := h3 l rfl
    simp only [Option.isSome_none, Bool.false_eq_true, if_false]
    rw [chk_bind (by simp only [szMax]; omega), chk_bind (by simp only [szMax]; omega), list_L0 l 0 [] (by simp only [List.length_nil]; omega), rlist_L0 l 0 [] (by simp only [List.length_nil]; omega)]
    refine ⟨some (l.filter nee), by simp, by simp, fun k hk => ?_⟩
    cases hk
    refine ⟨Nat.le_trans (List.length_filter_le _ _) g1, fun x hx => g2 x (List.mem_filter.1 hx).1⟩
end Vary
