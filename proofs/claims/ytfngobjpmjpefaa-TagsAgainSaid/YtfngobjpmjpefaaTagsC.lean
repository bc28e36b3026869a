/- Clean: the program's and the reference's. -/
import Derived.Test.YtfngobjpmjpefaaTagsU
set_option linter.unusedVariables false
set_option linter.unusedSimpArgs false
open Go Go.SL Go.Proofs Pl
namespace Tags
def sp (c : UInt8) : Bool := decide ((c.toNat : Int) = 32) || decide ((c.toNat : Int) = 9)
/-- The words of a text; the first argument: what has been read of the word under way. -/
def wd : Str → Str → List Str
  | w, [] => if w = [] then [] else [w]
  | w, c :: s => if sp c then (if w = [] then wd [] s else w :: wd [] s) else wd (w ++ [c]) s
theorem ix_drop {α : Type} {s : List α} {i : Nat} {c : α} {r : List α} (h : s.drop i = c :: r) : ix s (i : Int) = some c ∧ s.drop (i + 1) = r ∧ i < s.length := by
  have hi : i < s.length := by
    rcases Nat.lt_or_ge i s.length with q | q
    · exact q
    · rw [List.drop_eq_nil_of_le q] at h; cases h
  refine ⟨?_, ?_, hi⟩
  · unfold ix; rw [if_pos (by omega), Int.toNat_natCast]
    have : s[i]? = (s.drop i)[0]? := by simp
    rw [this, h]; rfl
  · rw [← List.drop_drop, h]; rfl
theorem words_L0 (s : Str) (hs : s.length ≤ 3000) : ∀ (r : Str) (i n : Nat) (o : List Str) (w : Str), s.drop i = r → i + r.length = s.length → r.length + 2 ≤ n → o.length ≤ i → w.length ≤ i →
    ∃ x y, ref35_Words_L0 s n o w (i : Int) = some (o ++ wd w r, x, y)
  | [], i, n + 2, o, w, hd, hi, hn, ho, hw => by
    simp only [List.length_nil, Nat.add_zero] at hi
    rw [ref35_Words_L0, if_pos (by simp; omega)]
    have h1 : ¬ ((i : Int) < (s.length : Int)) := by omega
    have h2 : ¬ (((i : Int) + 1) ≤ (s.length : Int)) := by omega
    simp only [h1, decide_false, Bool.false_eq_true, if_false, Option.bind_some]
    by_cases hw0 : w = []
    · simp only [hw0, ne_eq, not_true_eq_false, decide_false, Bool.false_eq_true, if_false]
      rw [chk_bind (by constructor <;> omega), ref35_Words_L0, if_neg (by simpa using h2)]
      exact ⟨[], (i : Int) + 1, by simp [wd]⟩
    · simp only [hw0, ne_eq, not_false_eq_true, decide_true, if_true]
      rw [chk_bind (by simp only [List.length_cons, List.length_nil, lim]; omega), chk_bind (by constructor <;> omega), ref35_Words_L0, if_neg (by simpa using h2)]
      exact ⟨[], (i : Int) + 1, by simp [wd, hw0]⟩
  | c :: r, i, n + 1, o, w, hd, hi, hn, ho, hw => by
    obtain ⟨hix, hdr, hil⟩ := ix_drop hd
    simp only [List.length_cons] at hi hn
    rw [ref35_Words_L0, if_pos (by simp; omega)]
    have h1 : (i : Int) < (s.length : Int) := by omega
    have e1 : ((i : Int) + 1) = ((i + 1 : Nat) : Int) := by omega
    simp only [h1, decide_true, if_true, hix, Option.bind_some]
    by_cases hc : sp c = true
    · have hcc : ((if decide ((c.toNat : Int) ≠ 32) = true then some (decide ((c.toNat : Int) ≠ 9)) else some false)) = some false := by
        unfold sp at hc
        by_cases q : (c.toNat : Int) = 32
        · simp [q]
        · simp [q] at hc; simp [hc]
      rw [hcc, Option.bind_some]
      simp only [Bool.false_eq_true, if_false]
      by_cases hw0 : w = []
      · obtain ⟨x, y, e⟩ := words_L0 s hs r (i + 1) n o [] hdr (by omega) (by omega) (by omega) (by simp)
        simp only [hw0, ne_eq, not_true_eq_false, decide_false, Bool.false_eq_true, if_false]
        rw [chk_bind (by constructor <;> omega), e1, e]
        exact ⟨x, y, by simp [wd, hc]⟩
      · obtain ⟨x, y, e⟩ := words_L0 s hs r (i + 1) n (o ++ [w]) [] hdr (by omega) (by omega) (by simp; omega) (by simp)
        simp only [hw0, ne_eq, not_false_eq_true, decide_true, if_true]
        rw [chk_bind (by simp only [List.length_cons, List.length_nil, lim]; omega), chk_bind (by constructor <;> omega), e1, e]
        exact ⟨x, y, by simp [wd, hc, hw0]⟩
    · have hcc : ((if decide ((c.toNat : Int) ≠ 32) = true then some (decide ((c.toNat : Int) ≠ 9)) else some false)) = some true := by
        unfold sp at hc
        simp only [Bool.or_eq_true, decide_eq_true_eq, not_or] at hc
        simp [hc.1, hc.2]
      rw [hcc, Option.bind_some]
      simp only [if_true]
      have hsub : subL s (i : Int) ((i : Int) + 1) = [c] := by
        unfold subL
        rw [Int.toNat_natCast, hd, show ((i : Int) + 1 - (i : Int)).toNat = 1 from by omega]; rfl
      obtain ⟨x, y, e⟩ := words_L0 s hs r (i + 1) n o (w ++ [c]) hdr (by omega) (by omega) (by omega) (by simp; omega)
      rw [chk_bind (by constructor <;> omega), chk_bind (by omega), hsub, chk_bind (by simp only [List.length_cons, List.length_nil, lim]; omega), chk_bind (by constructor <;> omega), e1, e]
      exact ⟨x, y, by simp [wd, hc]⟩
theorem words_eq {s : Str} (hs : s.length ≤ 3000) {n : Nat} (hn : s.length + 2 ≤ n) : ref35_Words n s = some (wd [] s) := by
  unfold ref35_Words
  obtain ⟨x, y, e⟩ := words_L0 s hs s 0 n [] [] rfl (by simp) hn (by simp) (by simp)
  simp only [Int.natCast_zero, List.nil_append] at e
  rw [e]; rfl
/-! ### tags -/
def okc (c : UInt8) : Bool := !(decide ((c.toNat : Int) < 33) || decide ((c.toNat : Int) > 126))
def good (w : Str) : Bool := decide (1 ≤ w.length) && decide (w.length ≤ 32) && w.all okc
theorem good_L0 : ∀ (w : Str) (i : Nat), tags_good_L0 w i = some (if w.all okc then .go () else .ret false)
  | [], i => by rw [tags_good_L0]; rfl
  | c :: w, i => by
    rw [tags_good_L0]
    have hc : ((if decide ((c.toNat : Int) < 33) = true then some true else some (decide ((c.toNat : Int) > 126)))) = some (!okc c) := by
      unfold okc; by_cases h : (c.toNat : Int) < 33 <;> simp [h]
    rw [hc, Option.bind_some, good_L0 w]
    cases h : okc c <;> simp [h]
theorem good_eq {w : Str} (h : w.length ≤ 20000) : tags_good w = some (good w) := by
  unfold tags_good good
  by_cases h1 : (w.length : Int) < 1 ∨ (w.length : Int) > 32
  · rw [if_pos (by simpa using h1)]
    have : (decide (1 ≤ w.length) && decide (w.length ≤ 32)) = false := by
      rw [Bool.and_eq_false_iff, decide_eq_false_iff_not, decide_eq_false_iff_not]; omega
    rw [this]; rfl
  · rw [if_neg (by simpa using h1), chk_bind (by simp only [szMax]; omega), good_L0]
    have h2 : 1 ≤ w.length := by omega
    have h3 : w.length ≤ 32 := by omega
    simp only [h2, h3, decide_true, Bool.true_and, Option.bind_some]
    cases w.all okc <;> rfl
theorem tag_L0 (s : Str) : ∀ (r : Str) (i n : Nat), s.drop i = r → i + r.length = s.length → r.length < n → s.length ≤ 3000 → ref35_Tag_L0 s n (i : Int) = some (if r.all okc then .go (s.length : Int) else .ret false)
  | [], i, n + 1, hd, hi, hn, hs => by
    simp only [List.length_nil, Nat.add_zero] at hi
    rw [ref35_Tag_L0, if_neg (by simp; omega), hi]; rfl
  | c :: r, i, n + 1, hd, hi, hn, hs => by
    obtain ⟨hix, hdr, hil⟩ := ix_drop hd
    simp only [List.length_cons] at hi hn
    rw [ref35_Tag_L0, if_pos (by simp; omega), hix]
    have hc : ((if decide ((c.toNat : Int) < 33) = true then some true else some (decide ((c.toNat : Int) > 126)))) = some (!okc c) := by
      unfold okc; by_cases h : (c.toNat : Int) < 33 <;> simp [h]
    simp only [Option.bind_some, hc]
    cases h : okc c
    · simp [h]
    · simp only [Bool.not_true, Bool.false_eq_true, if_false]
      rw [chk_bind (by constructor <;> omega), show ((i : Int) + 1) = ((i + 1 : Nat) : Int) from by omega, tag_L0 s r (i + 1) n hdr (by omega) (by omega) hs]
      simp [h]
theorem tag_eq {w : Str} {n : Nat} (h : w.length ≤ 3000) (hn : w.length < n) : ref35_Tag n w = some (good w) := by
  unfold ref35_Tag good
  have := tag_L0 w w 0 n rfl (by simp) hn h
  simp only [Int.natCast_zero] at this
  rw [this, Option.bind_some]
  cases w.all okc
  · simp [Fl.el]
  · simp only [if_true, Fl.el, Bool.and_true]
    congr 1
    congr 1 <;> (congr 1; simp only [ge_iff_le, eq_iff_iff]; omega)
/-! ### has -/
theorem index_L0 (v : Str) : ∀ (l : List Str) (i : Nat), ∃ j : Nat, slices_Index_string_L0 v l i = some (if v ∈ l then .ret (j : Int) else .go ())
  | [], i => ⟨0, by rw [slices_Index_string_L0]; rfl⟩
  | x :: l, i => by
    rw [slices_Index_string_L0]
    by_cases h : v = x
    · exact ⟨i, by simp [h]⟩
    · obtain ⟨j, e⟩ := index_L0 v l (i + 1)
      exact ⟨j, by simp only [h, decide_false, Bool.false_eq_true, if_false, e, List.mem_cons, false_or]⟩
theorem contains_eq {l : List Str} (v : Str) (h : l.length ≤ 100000) : slices_Contains_string l v = some (decide (v ∈ l)) := by
  unfold slices_Contains_string slices_Index_string
  obtain ⟨j, e⟩ := index_L0 v l 0
  rw [chk_bind (by simp only [szMax]; omega), e]
  by_cases hv : v ∈ l
  · simp [hv, Fl.el]
  · simp [hv, Fl.el]
theorem has_L0 (s : List Str) (v : Str) : ∀ (r : List Str) (i n : Nat), s.drop i = r → i + r.length = s.length → r.length < n → s.length ≤ 100000 → ∃ y, ref35_Has_L0 s v n (i : Int) = some (if v ∈ r then .ret true else .go y)
  | [], i, n + 1, hd, hi, hn, hs => ⟨_, by
    simp only [List.length_nil, Nat.add_zero] at hi
    rw [ref35_Has_L0, if_neg (by simp; omega)]; rfl⟩
  | c :: r, i, n + 1, hd, hi, hn, hs => by
    obtain ⟨hix, hdr, hil⟩ := ix_drop hd
    simp only [List.length_cons] at hi hn
    obtain ⟨y, e⟩ := has_L0 s v r (i + 1) n hdr (by omega) (by omega) hs
    refine ⟨y, ?_⟩
    rw [ref35_Has_L0, if_pos (by simp; omega), hix]
    simp only [Option.bind_some]
    by_cases h : c = v
    · simp [h]
    · have h' : ¬ v = c := fun q => h q.symm
      simp only [h, decide_false, Bool.false_eq_true, if_false, List.mem_cons, h', false_or]
      rw [chk_bind (by constructor <;> omega), show ((i : Int) + 1) = ((i + 1 : Nat) : Int) from by omega, e]
theorem has_eq {l : List Str} (v : Str) {n : Nat} (h : l.length ≤ 100000) (hn : l.length < n) : ref35_Has n l v = some (decide (v ∈ l)) := by
  unfold ref35_Has
  obtain ⟨y, e⟩ := has_L0 l v l 0 n rfl (by simp) hn h
  simp only [Int.natCast_zero] at e
  rw [e]
  by_cases hv : v ∈ l <;> simp [hv, Fl.el]
/-! ### sorted -/
theorem sorted_L2 {l : List Str} {i : Nat} {x : Str} (hx : ix l (i : Int) = some x) : ∀ (A B : List Str) (n : Nat), A.length < n → (A ++ B).length ≤ 100000 → (∀ b ∈ B, x < b) → (A ++ B).Pairwise (· < ·) →
    ∃ A' B', A ++ B = A' ++ B' ∧ ref35_Sorted_L2 l (i : Int) (A ++ B) n (A.length : Int) = some (A'.length : Int) ∧ (∀ a ∈ A', a ≤ x) ∧ (∀ b ∈ B', x < b) := by
  intro A
  induction hA : A.length generalizing A with
  | zero =>
    intro B n hn hl hB hp
    have : A = [] := List.eq_nil_of_length_eq_zero hA
    subst this
    obtain ⟨m, rfl⟩ : ∃ m, n = m + 1 := ⟨n - 1, by omega⟩
    refine ⟨[], B, rfl, ?_, by simp, hB⟩
    rw [ref35_Sorted_L2]; simp
  | succ k ih =>
    intro B n hn hl hB hp
    obtain ⟨m, rfl⟩ : ∃ m, n = m + 1 := ⟨n - 1, by omega⟩
    rcases List.eq_nil_or_concat A with rfl | ⟨q, y, rfl⟩
    · simp at hA
    simp only [List.concat_eq_append] at hA hl hp ⊢
    have hq : q.length = k := by simpa using hA
    have hk : k ≤ 100000 := by simp only [List.length_append] at hl; omega
    have hix : ix (q ++ [y] ++ B) (((k + 1 : Nat) : Int) - 1) = some y := by
      unfold ix
      have : ((((k + 1 : Nat) : Int) - 1)).toNat = q.length := by omega
      rw [if_pos (by omega), this]; simp
    rw [ref35_Sorted_L2, if_pos (by simp), hx]
    simp only [Option.bind_some]
    rw [chk_bind (by constructor <;> omega), hix]
    simp only [Option.bind_some]
    by_cases h : x < y
    · rw [bl_t.2 h]
      simp only [if_true]
      have e2 : q ++ [y] ++ B = q ++ (y :: B) := by simp
      rw [chk_bind (by constructor <;> omega)]
      obtain ⟨A', B', e, hr, h1, h2⟩ := ih q hq (y :: B) m (by omega) (by rw [← e2]; exact hl) (fun b hb => by
        rcases List.mem_cons.1 hb with rfl | hb
        · exact h
        · exact hB b hb) (by rw [← e2]; exact hp)
      refine ⟨A', B', by rw [e2]; exact e, ?_, h1, h2⟩
      rw [e2, show (((k + 1 : Nat) : Int) - 1) = (k : Int) from by omega]; exact hr
    · rw [bl_f.2 (List.not_lt.1 h)]
      simp only [Bool.false_eq_true, if_false]
      refine ⟨q ++ [y], B, rfl, by simp only [List.length_append, List.length_cons, List.length_nil, hq], fun a ha => ?_, hB⟩
      rcases List.mem_append.1 ha with ha | ha
      · have hp' := (List.pairwise_append.1 (List.pairwise_append.1 hp).1).2.2 a ha y (by simp)
        exact List.le_trans (le_of hp') (List.not_lt.1 h)
      · simp at ha; subst ha; exact List.not_lt.1 h
end Tags
