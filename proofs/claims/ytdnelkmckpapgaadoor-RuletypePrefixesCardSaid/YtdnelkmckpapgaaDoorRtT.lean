/- Ruletype: the document's validity is the program's. -/
import Derived.Test.YtdnelkmckpapgaaDoorRtQ
import Derived.Test.YtdnelkmckpapgaaDoorRtM
set_option linter.unusedVariables false
set_option linter.unusedSimpArgs false
open Go Go.SL Go.Proofs Pl
namespace Rt
theorem A2.imp_mem {α β : Type} {P Q : α → β → Prop} {l : List α} {k : List β} (h : A2 P l k) (hf : ∀ a ∈ l, ∀ b, P a b → Q a b) : A2 Q l k := by
  induction h with
  | nil => exact .nil
  | cons hp _ ih => exact .cons (hf _ (by simp) _ hp) (ih fun a ha => hf a (by simp [ha]))
def Sm (f : N → Option Bool) (g : M → Option Bool) (x : N) (y : M) : Prop := ∃ b, f x = some b ∧ g y = some b
def gor (b : Bool) : Fl Bool Unit := if b then Fl.go () else Fl.ret false
theorem gor_el (b c : Bool) : (gor b).el some (fun _ => some c) = some (b && c) := by cases b <;> rfl
theorem exprs_L0_rel {f : N → Option Bool} {g : M → Option Bool} {l : List N} {k : List M} (h : A2 (Sm f g) l k) : ∀ i j : Nat, ∃ b : Bool, ref43_exprs_L0 f l i = some (gor b) ∧ ruletree_expression_L0 g k j = some (gor b) ∧ (l = [] → b = true) := by
  induction h with
  | nil => exact fun i j => ⟨true, rfl, rfl, fun _ => rfl⟩
  | cons hp _ ih =>
    intro i j
    obtain ⟨b, h1, h2⟩ := hp
    rw [ref43_exprs_L0, ruletree_expression_L0, h1, h2, Option.bind_some, Option.bind_some]
    cases b with
    | false => exact ⟨false, rfl, rfl, fun h => by cases h⟩
    | true =>
      obtain ⟨b, g1, g2, _⟩ := ih (i + 1) (j + 1)
      exact ⟨b, g1, g2, fun h => by cases h⟩
theorem all_L0_rel {m n : Nat} {g : M → Option Bool} {l : List N} {k : List M} (h : A2 (Sm (ref43_stands (ref43_all m) n) g) l k) : ∀ i j : Nat, ∃ b : Bool, ref43_all_L0 (ref43_all m) n l i = some (gor b) ∧ ruletree_blocked_L0 g k j = some (gor b) := by
  induction h with
  | nil => exact fun i j => ⟨true, rfl, rfl⟩
  | cons hp _ ih =>
    intro i j
    obtain ⟨b, h1, h2⟩ := hp
    rw [ref43_all_L0, ruletree_blocked_L0, h1, h2, Option.bind_some, Option.bind_some]
    cases b with
    | false => exact ⟨false, rfl, rfl⟩
    | true => exact ih (i + 1) (j + 1)
theorem valid_L0_blocked {n : Nat} : ∀ (l : List M) (i j : Nat), ruletree_Valid_L0 n l i = ruletree_blocked_L0 (ruletree_stated n) l j
  | [], i, j => rfl
  | k :: l, i, j => by
    rw [ruletree_Valid_L0, ruletree_blocked_L0]
    congr 1; funext b; rw [valid_L0_blocked l (i + 1) (j + 1)]
def cmp (s : Str) : Bool := decide (s = [61, 61]) || (decide (s = [33, 61]) || (decide (s = [60]) || (decide (s = [60, 61]) || (decide (s = [115, 116, 97, 114, 116, 115]) || (decide (s = [101, 110, 100, 115]) || decide (s = [99, 111, 110, 116, 97, 105, 110, 115]))))))
theorem compares2_eq (s : Str) : ref43_compares s = some (cmp s) := by
  unfold ref43_compares
  rw [chk_bind (by constructor <;> omega), show ((7 : Int)).toNat = 7 from rfl]
  by_cases h1 : s = [61, 61]; · subst h1; rfl
  by_cases h2 : s = [33, 61]; · subst h2; rfl
  by_cases h3 : s = [60]; · subst h3; rfl
  by_cases h4 : s = [60, 61]; · subst h4; rfl
  by_cases h5 : s = [115, 116, 97, 114, 116, 115]; · subst h5; rfl
  by_cases h6 : s = [101, 110, 100, 115]; · subst h6; rfl
  by_cases h7 : s = [99, 111, 110, 116, 97, 105, 110, 115]; · subst h7; rfl
  simp [ref43_compares_L0, ix, h1, h2, h3, h4, h5, h6, h7, cmp, Fl.el]
theorem compares_eq (s : Str) : ((ruletree_compares 4 s).bind fun x22 => (if x22 = true then some true else (ruletree_compares 1 s).bind fun x26 => some x26)) = some (cmp s) := by
  by_cases h1 : s = [61, 61]; · subst h1; rfl
  by_cases h2 : s = [33, 61]; · subst h2; rfl
  by_cases h3 : s = [60]; · subst h3; rfl
  by_cases h4 : s = [60, 61]; · subst h4; rfl
  by_cases h5 : s = [115, 116, 97, 114, 116, 115]; · subst h5; rfl
  by_cases h6 : s = [101, 110, 100, 115]; · subst h6; rfl
  by_cases h7 : s = [99, 111, 110, 116, 97, 105, 110, 115]; · subst h7; rfl
  simp [ruletree_compares, h1, h2, h3, h4, h5, h6, h7, cmp]
theorem exprT {n : Nat} {y : M} {k : Int} {b : Bool} (hk : ruletree_operands n y = some k) (hl : y.Kids.length ≤ 3000) (hb : ruletree_expression_L0 (ruletree_expression n) y.Kids 0 = some (gor b)) :
    ruletree_expression (n + 1) y = some (if k = -2 then false else if 0 ≤ k then b && decide ((y.Kids.length : Int) = k) else b) := by
  rw [ruletree_expression, hk, Option.bind_some]
  by_cases q : k = -2
  · rw [if_pos (by simpa using q), if_pos q]
  · rw [if_neg (by simpa using q), if_neg q]
    by_cases q2 : 0 ≤ k
    · by_cases q3 : (y.Kids.length : Int) = k
      · rw [if_neg (by simp [q3]), chk_bind (by simp only [szMax]; omega), hb, Option.bind_some, gor_el, if_pos q2, decide_eq_true q3]
      · rw [if_pos (by simp [q3]; omega), if_pos q2, decide_eq_false q3, Bool.and_false]
    · rw [if_neg (by simp; omega), chk_bind (by simp only [szMax]; omega), hb, Option.bind_some, gor_el, if_neg q2, Bool.and_true]
theorem exprs_val {f : N → Option Bool} {n : Nat} {l : List N} {b : Bool} (hl : l.length ≤ 3000) (hb : ref43_exprs_L0 f l 0 = some (gor b)) (k : Int) : ref43_exprs f n l k = some (b && decide ((l.length : Int) = k)) := by
  unfold ref43_exprs
  rw [chk_bind (by simp only [szMax]; omega), hb, Option.bind_some, gor_el]
theorem opt_if {c : Bool} {b : Bool} : (if c = true then (some b).bind fun x => some x else some false) = some (c && b) := by cases c <;> rfl
theorem op_if {c : Bool} {k : Int} : (if (!c) = true then some (-2) else some k) = some (if c = true then k else -2) := by cases c <;> rfl
theorem expression_rel : ∀ (d f n : Nat) (x : N) (y : M), OkN d x → Cvd d x y → d + 10000 ≤ f → d + 10000 ≤ n → Sm (ref43_expression f) (ruletree_expression n) x y
  | d + 1, 0, n, x, y, h, hc, hf, hn => by omega
  | d + 1, f + 1, 0, x, y, h, hc, hf, hn => by omega
  | d + 1, f + 1, n + 1, x, y, h, hc, hf, hn => by
    obtain ⟨h1, h2, h3⟩ := h
    obtain ⟨c1, c2, c3, c4⟩ := hc
    have hlen := c4.len
    obtain ⟨b, b1, b2, b3⟩ := exprs_L0_rel (c4.imp_mem fun a ha q hq => expression_rel d f n a q (h3 a ha) hq (by omega) (by omega)) 0 0
    have ex := exprs_val (n := f) (by omega) b1
    have hb0 : decide ((x.Kids.length : Int) = 0) = (b && decide ((x.Kids.length : Int) = 0)) := by
      cases q : decide ((x.Kids.length : Int) = 0) with
      | false => rw [Bool.and_false]
      | true => rw [b3 (List.length_eq_zero_iff.1 (by have := of_decide_eq_true q; omega))]; rfl
    have fin : ∀ (c : Bool) (k : Int), 0 ≤ k → ruletree_operands n y = some (if c = true then k else -2) → ref43_expression (f + 1) x = some (c && (b && decide ((x.Kids.length : Int) = k))) → Sm (ref43_expression (f + 1)) (ruletree_expression (n + 1)) x y := fun c k hk ho hr => by
      refine ⟨_, hr, ?_⟩
      rw [exprT ho (by omega) b2, hlen]
      cases c with
      | false => rfl
      | true => rw [if_pos rfl, if_neg (by omega), if_pos hk, Bool.true_and]
    have t0 : decide (x.Text = ([] : Str)) = decide (y.Text = ([] : Str)) := by rw [c2]
    by_cases k13 : x.Kind = 13
    · refine fin (decide (x.Text = [])) 2 (by omega) ?_ ?_
      · rw [ruletree_operands, c1, if_pos (by simpa using k13), c2, op_if]
      · rw [ref43_expression, if_pos (by simpa using k13), ex, opt_if]; rfl
    by_cases k14 : x.Kind = 14
    · refine fin (decide (x.Text = [])) 2 (by omega) ?_ ?_
      · rw [ruletree_operands, c1, if_neg (by simpa using k13), if_pos (by simpa using k14), c2, op_if]
      · rw [ref43_expression, if_neg (by simpa using k13), if_pos (by simpa using k14), ex, opt_if]; rfl
    by_cases k17 : x.Kind = 17
    · refine fin (decide (x.Text = [])) 2 (by omega) ?_ ?_
      · rw [ruletree_operands, c1, if_neg (by simpa using k13), if_neg (by simpa using k14), if_pos (by simpa using k17), c2, op_if]
      · rw [ref43_expression, if_neg (by simpa using k13), if_neg (by simpa using k14), if_pos (by simpa using k17), ex, opt_if]; rfl
    by_cases k18 : x.Kind = 18
    · refine fin (decide (x.Text = [])) 2 (by omega) ?_ ?_
      · rw [ruletree_operands, c1, if_neg (by simpa using k13), if_neg (by simpa using k14), if_neg (by simpa using k17), if_pos (by simpa using k18), c2, op_if]
      · rw [ref43_expression, if_neg (by simpa using k13), if_neg (by simpa using k14), if_neg (by simpa using k17), if_pos (by simpa using k18), ex, opt_if]; rfl
    by_cases k19 : x.Kind = 19
    · refine fin (decide (x.Text = [])) 2 (by omega) ?_ ?_
      · rw [ruletree_operands, c1, if_neg (by simpa using k13), if_neg (by simpa using k14), if_neg (by simpa using k17), if_neg (by simpa using k18), if_pos (by simpa using k19), c2, op_if]
      · rw [ref43_expression, if_neg (by simpa using k13), if_neg (by simpa using k14), if_neg (by simpa using k17), if_neg (by simpa using k18), if_pos (by simpa using k19), ex, opt_if]; rfl
    by_cases k15 : x.Kind = 15
    · refine fin (decide (x.Text = [])) 1 (by omega) ?_ ?_
      · rw [ruletree_operands, c1, if_neg (by simpa using k13), if_neg (by simpa using k14), if_neg (by simpa using k17), if_neg (by simpa using k18), if_neg (by simpa using k19), if_pos (by simpa using k15), c2, op_if]
      · rw [ref43_expression, if_neg (by simpa using k13), if_neg (by simpa using k14), if_neg (by simpa using k17), if_neg (by simpa using k18), if_neg (by simpa using k19), if_pos (by simpa using k15), ex, opt_if]; rfl
    by_cases k16 : x.Kind = 16
    · refine fin (cmp x.Text) 2 (by omega) ?_ ?_
      · rw [ruletree_operands, c1, if_neg (by simpa using k13), if_neg (by simpa using k14), if_neg (by simpa using k17), if_neg (by simpa using k18), if_neg (by simpa using k19), if_neg (by simpa using k15), if_pos (by simpa using k16), c2, ← op_if]
        have e := compares_eq x.Text
        cases q : ruletree_compares 4 x.Text with
        | none => rw [q] at e; cases e
        | some v =>
          rw [q, Option.bind_some] at e
          rw [Option.bind_some, e, Option.bind_some]
      · rw [ref43_expression, if_neg (by simpa using k13), if_neg (by simpa using k14), if_neg (by simpa using k17), if_neg (by simpa using k18), if_neg (by simpa using k19), if_neg (by simpa using k15), if_pos (by simpa using k16), compares2_eq, Option.bind_some, ex, opt_if]; rfl
    by_cases k20 : x.Kind = 20
    · refine fin (nmr x.Text) 0 (by omega) ?_ ?_
      · rw [ruletree_operands, c1, if_neg (by simpa using k13), if_neg (by simpa using k14), if_neg (by simpa using k17), if_neg (by simpa using k18), if_neg (by simpa using k19), if_neg (by simpa using k15), if_neg (by simpa using k16), if_pos (by simpa using k20), c2, digits_eq h1, Option.bind_some, op_if]
      · rw [ref43_expression, if_neg (by simpa using k13), if_neg (by simpa using k14), if_neg (by simpa using k17), if_neg (by simpa using k18), if_neg (by simpa using k19), if_neg (by simpa using k15), if_neg (by simpa using k16), if_pos (by simpa using k20), (token1_eq (by omega)).2, Option.bind_some, ← hb0]
    by_cases k21 : x.Kind = 21
    · refine fin (prt x.Text) 0 (by omega) ?_ ?_
      · rw [ruletree_operands, c1, if_neg (by simpa using k13), if_neg (by simpa using k14), if_neg (by simpa using k17), if_neg (by simpa using k18), if_neg (by simpa using k19), if_neg (by simpa using k15), if_neg (by simpa using k16), if_neg (by simpa using k20), if_pos (by simpa using k21), c2, printable_eq h1, Option.bind_some, op_if]
      · rw [ref43_expression, if_neg (by simpa using k13), if_neg (by simpa using k14), if_neg (by simpa using k17), if_neg (by simpa using k18), if_neg (by simpa using k19), if_neg (by simpa using k15), if_neg (by simpa using k16), if_neg (by simpa using k20), if_pos (by simpa using k21), printable2_eq h1, Option.bind_some, ← hb0]
    by_cases k22 : x.Kind = 22
    · refine fin (decide (x.Text = ([116, 114, 117, 101] : Str)) || decide (x.Text = ([102, 97, 108, 115, 101] : Str))) 0 (by omega) ?_ ?_
      · rw [ruletree_operands, c1, if_neg (by simpa using k13), if_neg (by simpa using k14), if_neg (by simpa using k17), if_neg (by simpa using k18), if_neg (by simpa using k19), if_neg (by simpa using k15), if_neg (by simpa using k16), if_neg (by simpa using k20), if_neg (by simpa using k21), if_pos (by simpa using k22), c2, op_if]
      · rw [ref43_expression, if_neg (by simpa using k13), if_neg (by simpa using k14), if_neg (by simpa using k17), if_neg (by simpa using k18), if_neg (by simpa using k19), if_neg (by simpa using k15), if_neg (by simpa using k16), if_neg (by simpa using k20), if_neg (by simpa using k21), if_pos (by simpa using k22), ← hb0]
    by_cases k23 : x.Kind = 23
    · refine fin (nm x.Text) 0 (by omega) ?_ ?_
      · rw [ruletree_operands, c1, if_neg (by simpa using k13), if_neg (by simpa using k14), if_neg (by simpa using k17), if_neg (by simpa using k18), if_neg (by simpa using k19), if_neg (by simpa using k15), if_neg (by simpa using k16), if_neg (by simpa using k20), if_neg (by simpa using k21), if_neg (by simpa using k22), if_pos (by simpa using k23), c2, named_eq (by omega), Option.bind_some, op_if]
      · rw [ref43_expression, if_neg (by simpa using k13), if_neg (by simpa using k14), if_neg (by simpa using k17), if_neg (by simpa using k18), if_neg (by simpa using k19), if_neg (by simpa using k15), if_neg (by simpa using k16), if_neg (by simpa using k20), if_neg (by simpa using k21), if_neg (by simpa using k22), if_pos (by simpa using k23), named2_eq (by omega), Option.bind_some, ← hb0]
    by_cases k24 : x.Kind = 24
    · refine ⟨nm x.Text && b, ?_, ?_⟩
      · rw [ref43_expression, if_neg (by simpa using k13), if_neg (by simpa using k14), if_neg (by simpa using k17), if_neg (by simpa using k18), if_neg (by simpa using k19), if_neg (by simpa using k15), if_neg (by simpa using k16), if_neg (by simpa using k20), if_neg (by simpa using k21), if_neg (by simpa using k22), if_neg (by simpa using k23), if_pos (by simpa using k24), named2_eq (by omega), Option.bind_some, ex, opt_if, decide_eq_true rfl, Bool.and_true]; rfl
      · have ho : ruletree_operands n y = some (if nm x.Text = true then -1 else -2) := by
          rw [ruletree_operands, c1, if_neg (by simpa using k13), if_neg (by simpa using k14), if_neg (by simpa using k17), if_neg (by simpa using k18), if_neg (by simpa using k19), if_neg (by simpa using k15), if_neg (by simpa using k16), if_neg (by simpa using k20), if_neg (by simpa using k21), if_neg (by simpa using k22), if_neg (by simpa using k23), if_pos (by simpa using k24), c2, named_eq (by omega), Option.bind_some, op_if]
        rw [exprT ho (by omega) b2]
        cases nm x.Text with
        | false => rfl
        | true => rw [if_pos rfl, if_neg (by omega), if_neg (by omega), Bool.true_and]
    · refine ⟨false, ?_, ?_⟩
      · rw [ref43_expression, if_neg (by simpa using k13), if_neg (by simpa using k14), if_neg (by simpa using k17), if_neg (by simpa using k18), if_neg (by simpa using k19), if_neg (by simpa using k15), if_neg (by simpa using k16), if_neg (by simpa using k20), if_neg (by simpa using k21), if_neg (by simpa using k22), if_neg (by simpa using k23), if_neg (by simpa using k24)]
      · have ho : ruletree_operands n y = some (-2) := by
          rw [ruletree_operands, c1, if_neg (by simpa using k13), if_neg (by simpa using k14), if_neg (by simpa using k17), if_neg (by simpa using k18), if_neg (by simpa using k19), if_neg (by simpa using k15), if_neg (by simpa using k16), if_neg (by simpa using k20), if_neg (by simpa using k21), if_neg (by simpa using k22), if_neg (by simpa using k23), if_neg (by simpa using k24)]
        rw [exprT ho (by omega) b2]; rfl
end Rt
