/- Ruletype: names, as the program knows them. -/
import Derived.Test.YtdnelkmckpapgaaDoorRtO
set_option linter.unusedVariables false
set_option linter.unusedSimpArgs false
open Go Go.SL Go.Proofs Pl
namespace Rt
def kw (s : Str) : Bool := decide (s ∈ gkw0)
theorem index_eq (v : Str) : ∀ (l : List Str) (i : Nat), ∃ r, slices_Index_string_L0 v l i = some r ∧ (v ∈ l → ∃ k : Nat, r = Fl.ret (k : Int)) ∧ (v ∉ l → r = Fl.go ())
  | [], i => ⟨_, rfl, fun h => (by cases h), fun _ => rfl⟩
  | x :: l, i => by
    rw [slices_Index_string_L0]
    by_cases q : v = x
    · exact ⟨_, if_pos (by simpa using q), fun _ => ⟨i, rfl⟩, fun h => (by simp [q] at h)⟩
    · obtain ⟨r, hr, g1, g2⟩ := index_eq v l (i + 1)
      rw [if_neg (by simpa using q)]
      exact ⟨r, hr, fun h => g1 (by simpa [q] using h), fun h => g2 (by simpa [q] using h)⟩
theorem keyword_eq (s : Str) : rulelex_Keyword s = some (kw s) := by
  obtain ⟨r, hr, g1, g2⟩ := index_eq s gkw0 0
  unfold rulelex_Keyword slices_Contains_string slices_Index_string kw
  rw [chk_bind (by decide), hr, Option.bind_some]
  by_cases q : s ∈ gkw0
  · obtain ⟨k, rfl⟩ := g1 q
    rw [el_ret, Option.bind_some, Option.bind_some]
    simp [q]
  · rw [g2 q, el_go, Option.bind_some, Option.bind_some]
    simp [q]
theorem keyword2_L0 (s : Str) : ∀ (l : List Str) (i : Nat), ref42_Keyword_L0 s l i = some (if s ∈ l then Fl.ret true else Fl.go ())
  | [], i => rfl
  | x :: l, i => by
    rw [ref42_Keyword_L0]
    by_cases q : x = s
    · rw [if_pos (by simpa using q), if_pos (by simp [q])]
    · rw [if_neg (by simpa using q), keyword2_L0 s l (i + 1)]
      have : (s ∈ x :: l) ↔ s ∈ l := by
        simp only [List.mem_cons]
        exact ⟨fun h => h.elim (fun e => absurd e.symm q) id, .inr⟩
      simp only [this]
theorem keyword2_eq (s : Str) : ref42_Keyword s = some (kw s) := by
  have e : ref42_Keywords = some gkw0 := rfl
  unfold ref42_Keyword kw
  rw [e, Option.bind_some, chk_bind (by decide), keyword2_L0, Option.bind_some]
  by_cases q : s ∈ gkw0
  · rw [if_pos q, el_ret]; simp [q]
  · rw [if_neg q, el_go]; simp [q]
def nm (s : Str) : Bool := wdy s && decide (s.length ≤ 4096) && !kw s
theorem ix_mem {α : Type} {l : List α} {i : Int} {x : α} (h : ix l i = some x) : x ∈ l := by
  unfold ix at h
  split at h
  · exact List.mem_of_getElem? h
  · cases h
theorem named_eq {n : Nat} (hn : 10000 ≤ n) (s : Str) : ruletree_named n s = some (nm s) := by
  unfold ruletree_named
  by_cases hw : s.length ≤ 4096 ∧ wdy s = true
  · rw [split_word hn hw.1 hw.2, Option.bind_some]
    simp [ix, keyword_eq, nm, hw.1, hw.2]
  · obtain ⟨r, hr⟩ := split_ok (s := s) hn
    have hnm : nm s = false := by
      unfold nm
      cases q : wdy s with
      | false => rfl
      | true => simp; intro h; exact absurd ⟨h, q⟩ hw
    rw [hr, Option.bind_some, hnm]
    cases q : (r.2.isNone && decide ((r.1.length : Int) = 2)) with
    | false => rfl
    | true =>
      rw [if_pos rfl]
      simp only [Bool.and_eq_true, decide_eq_true_eq] at q
      obtain ⟨g1, g2⟩ := split_tk hn hr (by simpa using q.1)
      obtain ⟨t, ht⟩ := ix_ok (s := r.1) (i := 0) (by omega) (by omega)
      rw [ht, Option.bind_some, Option.bind_some]
      cases k1 : decide (t.Kind = 1) with
      | false => rfl
      | true =>
        rw [if_pos rfl, Option.bind_some, Option.bind_some]
        cases k2 : decide (t.Text = s) with
        | false => rfl
        | true =>
          have e1 := of_decide_eq_true k1
          have e2 := of_decide_eq_true k2
          have := g2 t (ix_mem ht) e1
          rw [e2] at this
          exact absurd ⟨g1, this⟩ hw
/-! ### numbers and texts -/
theorem digits_L0_eq : ∀ (s : Str) (i : Nat), ruletree_digits_L0 s i = some (if s.all isD = true then Fl.go () else Fl.ret false)
  | [], i => rfl
  | c :: s, i => by
    have e : (if decide ((c.toNat : Int) < 48) = true then some true else some (decide ((c.toNat : Int) > 57))) = some (!isD c) := by
      by_cases q : (c.toNat : Int) < 48
      · have : isD c = false := by simp only [isD, Bool.and_eq_false_iff, decide_eq_false_iff_not]; omega
        rw [if_pos (by simpa using q), this]; rfl
      · rw [if_neg (by simpa using q)]
        by_cases q2 : (c.toNat : Int) > 57
        · have : isD c = false := by simp only [isD, Bool.and_eq_false_iff, decide_eq_false_iff_not]; omega
          rw [this, decide_eq_true q2]; rfl
        · have : isD c = true := by simp only [isD, Bool.and_eq_true, decide_eq_true_eq]; omega
          rw [this, decide_eq_false q2]; rfl
    rw [ruletree_digits_L0, e, Option.bind_some]
    cases q : isD c with
    | true => rw [if_neg (by simp), digits_L0_eq s (i + 1), List.all_cons, q]; rfl
    | false => rw [if_pos (by simp), List.all_cons, q]; rfl
theorem digits_eq {s : Str} (h : s.length ≤ 3000) : ruletree_digits s = some (nmr s) := by
  unfold ruletree_digits
  rw [chk_bind (by simp only [szMax]; omega), digits_L0_eq, Option.bind_some]
  cases s with
  | nil => rfl
  | cons c t =>
    rw [nmr, List.all_cons]
    cases q : (isD c && t.all isD) with
    | true =>
      rw [if_pos rfl, el_go, Bool.true_and]
      have e1 : decide (((c :: t).length : Int) ≥ 1) = true := by simp only [List.length_cons, decide_eq_true_eq]; omega
      have e2 : decide (((c :: t).length : Int) ≤ 9) = decide (t.length ≤ 8) := by
        simp only [List.length_cons, decide_eq_decide]; omega
      rw [e1, e2, Bool.true_and]
    | false => rw [if_neg (by simp), el_ret, Bool.false_and]
def prt (s : Str) : Bool := s.all fun c => !(decide ((c.toNat : Int) < 32) || decide ((c.toNat : Int) > 126))
theorem prt_cons (c : UInt8) (s : Str) : prt (c :: s) = (!(decide ((c.toNat : Int) < 32) || decide ((c.toNat : Int) > 126)) && prt s) := by simp [prt]
theorem prt_cond (c : UInt8) : (if decide ((c.toNat : Int) < 32) = true then some true else some (decide ((c.toNat : Int) > 126))) = some (decide ((c.toNat : Int) < 32) || decide ((c.toNat : Int) > 126)) := by
  cases decide ((c.toNat : Int) < 32) <;> simp
theorem esc_cond (c : UInt8) : (if decide ((c.toNat : Int) = 34) = true then some true else some (decide ((c.toNat : Int) = 92))) = some (decide ((c.toNat : Int) = 34) || decide ((c.toNat : Int) = 92)) := by
  cases decide ((c.toNat : Int) = 34) <;> simp
theorem quote_L0_eq : ∀ (s : Str) (i : Nat) (y : Str), y.length + 2 * s.length ≤ 1000000 → ∃ r, rulelex_Quote_L0 s i y = some r ∧ (prt s = true → ∃ z, r = Fl.go z ∧ z.length ≤ 1000000) ∧ (prt s = false → r = Fl.ret ([], some 2))
  | [], i, y, h => ⟨_, rfl, fun _ => ⟨_, rfl, by simpa using h⟩, fun h => (by simp [prt] at h)⟩
  | c :: s, i, y, h => by
    simp only [List.length_cons] at h
    rw [rulelex_Quote_L0, prt_cond, Option.bind_some, prt_cons]
    cases q : (decide ((c.toNat : Int) < 32) || decide ((c.toNat : Int) > 126)) with
    | true => exact ⟨_, if_pos rfl, fun h => (by simp at h), fun _ => rfl⟩
    | false =>
      rw [if_neg (by simp), esc_cond, Option.bind_some, Bool.not_false, Bool.true_and]
      cases q2 : (decide ((c.toNat : Int) = 34) || decide ((c.toNat : Int) = 92)) with
      | true =>
        rw [if_pos rfl, chk_bind (by simp only [lim, List.length_cons, List.length_nil]; omega), chk_bind (by simp only [lim, List.length_append, List.length_cons, List.length_nil]; omega)]
        exact quote_L0_eq s (i + 1) _ (by simp only [List.length_append, List.length_cons, List.length_nil]; omega)
      | false =>
        rw [if_neg (by simp), chk_bind (by simp only [lim, List.length_cons, List.length_nil]; omega)]
        exact quote_L0_eq s (i + 1) _ (by simp only [List.length_append, List.length_cons, List.length_nil]; omega)
theorem printable_eq {s : Str} (h : s.length ≤ 3000) : ruletree_printable s = some (prt s) := by
  obtain ⟨r, hr, g1, g2⟩ := quote_L0_eq s 0 [34] (by simp <;> omega)
  unfold ruletree_printable rulelex_Quote
  rw [chk_bind (by simp only [szMax]; omega), hr, Option.bind_some]
  cases q : prt s with
  | false => rw [g2 q, el_ret]; rfl
  | true =>
    obtain ⟨z, rfl, hz⟩ := g1 q
    rw [el_go, chk_bind (by simp only [lim, List.length_cons, List.length_nil]; omega)]; rfl
theorem quote2_L0_eq {w : Str} : ∀ (s : Str) (i : Nat) (y : Str), i + s.length = w.length → y.length + 2 * s.length ≤ 1000000 → ∃ r, ref42_Quote_L0 w s i y = some r ∧ (prt s = true → ∃ z, r = Fl.go z ∧ z.length ≤ 1000000) ∧ (prt s = false → r = Fl.ret ([], false))
  | [], i, y, hi, h => ⟨_, rfl, fun _ => ⟨_, rfl, by simpa using h⟩, fun h => (by simp [prt] at h)⟩
  | c :: s, i, y, hi, h => by
    simp only [List.length_cons] at h hi
    have hsub : (subL w (i : Int) ((i : Int) + 1)).length ≤ 1 := by
      unfold subL
      rw [List.length_take]; omega
    rw [ref42_Quote_L0, prt_cond, Option.bind_some, prt_cons]
    cases q : (decide ((c.toNat : Int) < 32) || decide ((c.toNat : Int) > 126)) with
    | true => exact ⟨_, if_pos rfl, fun h => (by simp at h), fun _ => rfl⟩
    | false =>
      rw [if_neg (by simp), esc_cond, Option.bind_some, Bool.not_false, Bool.true_and]
      cases q2 : (decide ((c.toNat : Int) = 34) || decide ((c.toNat : Int) = 92)) with
      | true =>
        rw [if_pos rfl, chk_bind (by simp only [lim, List.length_cons, List.length_nil]; omega), chk_bind (by omega), chk_bind (by simp only [lim, List.length_append, List.length_cons, List.length_nil]; omega)]
        exact quote2_L0_eq s (i + 1) _ (by omega) (by simp only [List.length_append, List.length_cons, List.length_nil]; omega)
      | false =>
        rw [if_neg (by simp), chk_bind (by omega), chk_bind (by simp only [lim]; omega)]
        exact quote2_L0_eq s (i + 1) _ (by omega) (by simp only [List.length_append]; omega)
theorem printable2_eq {s : Str} (h : s.length ≤ 3000) : ref43_printable s = some (prt s) := by
  obtain ⟨r, hr, g1, g2⟩ := quote2_L0_eq (w := s) s 0 [34] (by omega) (by simp <;> omega)
  unfold ref43_printable ref42_Quote
  rw [chk_bind (by simp only [szMax]; omega), hr, Option.bind_some]
  cases q : prt s with
  | false => rw [g2 q, el_ret]; rfl
  | true =>
    obtain ⟨z, rfl, hz⟩ := g1 q
    rw [el_go, chk_bind (by simp only [lim, List.length_cons, List.length_nil]; omega)]; rfl
end Rt
