/- Ruletype: the document's lexer on words and numbers. -/
import Derived.Test.YtdnelkmckpapgaaDoorRtP
set_option linter.unusedVariables false
set_option linter.unusedSimpArgs false
open Go Go.SL Go.Proofs Pl
namespace Rt
theorem quoted2_L0 {s : Str} (hs : s.length ≤ 5000) : ∀ (n : Nat) (y : Str) (i : Int), 0 ≤ i → i ≤ (s.length : Int) → (s.length : Int) - i < n → (y.length : Int) + (s.length - i) ≤ 100000 → ∃ r, ref42_quoted_L0 s n y i = some r ∧ ∀ z, r = Fl.ret z → (z.1 = 0 ∧ z.2.2 = 0) ∨ (z.1 = 3 ∧ 0 < z.2.2 ∧ z.2.2 ≤ (s.length : Int))
  | 0, y, i, h0, h3, h1, h2 => by omega
  | n + 1, y, i, h0, h3, h1, h2 => by
    rw [ref42_quoted_L0]
    by_cases hi : i < (s.length : Int)
    · obtain ⟨c, hc⟩ := ix_ok h0 hi
      rw [if_pos (by simpa using hi), hc, Option.bind_some]
      by_cases q : (c.toNat : Int) = 34
      · rw [if_pos (by simpa using q), chk_bind (by constructor <;> omega)]
        exact ⟨_, rfl, fun z e => by cases e; right; exact ⟨rfl, by simp only; omega, by simp only; omega⟩⟩
      · rw [if_neg (by simpa using q)]
        cases hb : (decide ((c.toNat : Int) < 32) || decide ((c.toNat : Int) > 126)) with
        | true => exact ⟨_, if_pos rfl, fun z e => by cases e; left; exact ⟨rfl, rfl⟩⟩
        | false =>
          rw [if_neg (by simp)]
          have hsub : ∀ j : Int, (subL s j (j + 1)).length ≤ 1 := fun j => by
            unfold subL
            rw [List.length_take]; omega
          by_cases q2 : (c.toNat : Int) = 92
          · rw [if_pos (by simpa using q2), chk_bind (by constructor <;> omega)]
            by_cases q3 : i + 1 = (s.length : Int)
            · rw [if_pos (by simpa using q3)]; exact ⟨_, rfl, fun z e => by cases e; left; exact ⟨rfl, rfl⟩⟩
            · obtain ⟨d, hd⟩ := ix_ok (s := s) (i := i + 1) (by omega) (by omega)
              rw [if_neg (by simpa using q3), hd, Option.bind_some]
              have e2 : ∃ b, (if decide ((d.toNat : Int) ≠ 92) = true then (some d).bind fun x40 => some (decide ((x40.toNat : Int) ≠ 34)) else some false) = some b := ite_ex (fun _ => ⟨_, rfl⟩) (fun _ => ⟨_, rfl⟩)
              obtain ⟨b, hb⟩ := e2
              rw [hb, Option.bind_some]
              have := hsub (i + 1)
              cases b with
              | true => exact ⟨_, if_pos rfl, fun z e => by cases e; left; exact ⟨rfl, rfl⟩⟩
              | false =>
                rw [if_neg (by simp), chk_bind (by constructor <;> omega), chk_bind (by omega), chk_bind (by simp only [lim]; omega), chk_bind (by constructor <;> omega)]
                exact quoted2_L0 hs n _ _ (by omega) (by omega) (by omega) (by simp only [List.length_append]; omega)
          · have := hsub i
            rw [if_neg (by simpa using q2), chk_bind (by constructor <;> omega), chk_bind (by omega), chk_bind (by simp only [lim]; omega), chk_bind (by constructor <;> omega)]
            exact quoted2_L0 hs n _ _ (by omega) (by omega) (by omega) (by simp only [List.length_append]; omega)
    · rw [if_neg (by simpa using hi)]; exact ⟨_, rfl, fun z e => by cases e⟩
abbrev sgs : List Str := [([61, 61] : Str), ([33, 61] : Str), ([60, 61] : Str), ([60] : Str), ([43] : Str), ([45] : Str), ([42] : Str), ([40] : Str), ([41] : Str), ([123] : Str), ([125] : Str), ([44] : Str), ([59] : Str), ([61] : Str)]
theorem take2_L5 {s : Str} : ∀ (k i : Nat), i + k = 14 → ∃ r, ref42_take_L5 s k i = some r ∧ ∀ z, r = Fl.ret z → z.1 = 4 ∧ 0 ≤ z.2.2 ∧ z.2.2 ≤ (s.length : Int)
  | 0, i, h => ⟨_, rfl, fun z e => by cases e⟩
  | k + 1, i, h => by
    rw [ref42_take_L5]
    obtain ⟨p, hp⟩ := ix_ok (s := sgs) (i := (i : Int)) (by omega) (by simp; omega)
    rw [hp, Option.bind_some]
    by_cases h1 : (s.length : Int) ≥ (p.length : Int)
    · rw [if_pos (by simpa using h1), Option.bind_some, chk_bind (by omega), Option.bind_some, Option.bind_some]
      cases q : decide (subL s (0 : Int) (p.length : Int) = p) with
      | true => rw [if_pos rfl, Option.bind_some, Option.bind_some]; exact ⟨_, rfl, fun z e => by cases e; exact ⟨rfl, by simp only; omega, h1⟩⟩
      | false => rw [if_neg (by simp)]; exact take2_L5 k (i + 1) (by omega)
    · rw [if_neg (by simpa using h1), Option.bind_some, if_neg (by simp)]; exact take2_L5 k (i + 1) (by omega)
theorem take2_ok {n : Nat} {s : Str} (hn : 10000 ≤ n) (h0 : 0 < s.length) (hs : s.length ≤ 5000) : ∃ a w b, ref42_take n s = some (a, w, b) ∧ 0 ≤ b ∧ b ≤ (s.length : Int) ∧ Tk a w := by
  cases s with
  | nil => simp at h0
  | cons c t =>
    have hl : ((c :: t).length : Int) = (t.length : Int) + 1 := by simp
    cases hL : isL c with
    | true =>
      have := tw_le isA t
      exact ⟨_, _, _, tak_word hn hs hL, by omega, by omega, fun _ => by simp only [wdy, hL, tw_all, Bool.and_self], fun h => by omega⟩
    | false =>
      cases hD : isD c with
      | true =>
        have := tw_le isD t
        by_cases q : (t.takeWhile isD).length + 1 > 9
        · exact ⟨0, [], 0, by rw [tak_num hn hs hL hD, if_pos q], by omega, by omega, fun h => by omega, fun h => by omega⟩
        · exact ⟨2, c :: t.takeWhile isD, ((t.takeWhile isD).length : Int) + 1, by rw [tak_num hn hs hL hD, if_neg q], by omega, by omega, fun h => by omega, fun _ => by
            have e : decide ((t.takeWhile isD).length ≤ 8) = true := by simp only [decide_eq_true_eq]; omega
            simp only [nmr, hD, tw_all, e, Bool.and_self]⟩
      | false =>
        unfold ref42_take
        rw [show ix (c :: t) 0 = some c from rfl, Option.bind_some, show ref42_letter c = some (isL c) from rfl, Option.bind_some, hL, if_neg (by simp), Option.bind_some, show ref42_digit c = some (isD c) from rfl, Option.bind_some, hD, if_neg (by simp), Option.bind_some]
        by_cases q : (c.toNat : Int) = 34
        · rw [if_pos (by simpa using q)]
          unfold ref42_quoted
          obtain ⟨r, hr, h1⟩ := quoted2_L0 hs n [] 1 (by omega) (by omega) (by omega) (by simp only [List.length_nil]; omega)
          rw [hr, Option.bind_some]
          cases r with
          | ret z =>
            rw [el_ret, Option.bind_some]
            rcases h1 z rfl with ⟨g1, g2⟩ | ⟨g1, g2, g3⟩
            · exact ⟨_, _, _, rfl, by omega, by omega, fun h => by omega, fun h => by omega⟩
            · exact ⟨_, _, _, rfl, by omega, by omega, fun h => by omega, fun h => by omega⟩
          | go z => rw [el_go, Option.bind_some]; exact ⟨_, _, _, rfl, by simp, by simp only; omega, fun h => by simp at h, fun h => by simp at h⟩
        · rw [if_neg (by simpa using q)]
          obtain ⟨r, hr, h1⟩ := take2_L5 (s := c :: t) 14 0 rfl
          rw [chk_bind (by constructor <;> omega), show ((14 : Int)).toNat = 14 from rfl, hr, Option.bind_some]
          cases r with
          | ret z =>
            obtain ⟨g1, g2, g3⟩ := h1 z rfl
            exact ⟨z.1, z.2.1, z.2.2, rfl, g2, g3, fun h => by omega, fun h => by omega⟩
          | go z => exact ⟨_, _, _, rfl, by omega, by omega, fun h => by simp at h, fun h => by simp at h⟩
theorem split2_L3 {s : Str} {i : Int} (h0 : 0 ≤ i) (hs : s.length ≤ 5000) : ∀ (n : Nat) (j : Int), 1 ≤ j → i + j ≤ (s.length : Int) → (s.length : Int) - (i + j) < n → ∃ r, ref42_Split_L3 i s n j = some r ∧ 1 ≤ r ∧ i + r ≤ (s.length : Int)
  | 0, j, h1, h2, h3 => by omega
  | n + 1, j, h1, h2, h3 => by
    rw [ref42_Split_L3, chk_bind (by constructor <;> omega)]
    by_cases hi : i + j < (s.length : Int)
    · obtain ⟨c, hc⟩ := ix_ok (s := s) (i := i + j) (by omega) hi
      rw [if_pos (by simpa using hi), chk_bind (by constructor <;> omega), hc, Option.bind_some, Option.bind_some]
      by_cases q : (c.toNat : Int) = 10
      · exact ⟨j, if_neg (by simpa using q), h1, h2⟩
      · rw [if_pos (by simpa using q), chk_bind (by constructor <;> omega)]
        exact split2_L3 h0 hs n (j + 1) (by omega) (by omega) (by omega)
    · rw [if_neg (by simpa using hi), Option.bind_some]
      exact ⟨j, if_neg (by simp), h1, h2⟩
theorem split2_L0 {s : Str} {m : Nat} (hm : 10000 ≤ m) (hs : s.length ≤ 5000) : ∀ (n : Nat) (y : List S_ref42_Token) (a b i : Int), 0 ≤ i → i ≤ (s.length : Int) → (s.length : Int) - i < n → (y.length : Int) + (s.length - i) ≤ 100000 → 0 ≤ a → a + (s.length - i) ≤ 100000 → 0 ≤ b → b + (s.length - i) ≤ 100000 → (∀ t ∈ y, Tk t.Kind t.Text) →
    ∃ r, ref42_Split_L0 s m n y a b i = some r ∧ (∀ z, r = Fl.ret z → z.2 = 2) ∧ ∀ p, r = Fl.go p → p.1.length ≤ 100000 ∧ ∀ t ∈ p.1, Tk t.Kind t.Text
  | 0, y, a, b, i, h0, h1, h2, h3, h4, h5, h6, h7, hy => by omega
  | n + 1, y, a, b, i, h0, h1, h2, h3, h4, h5, h6, h7, hy => by
    rw [ref42_Split_L0]
    by_cases hi : i < (s.length : Int)
    · obtain ⟨c, hc⟩ := ix_ok h0 hi
      rw [if_pos (by simpa using hi), hc, Option.bind_some]
      split
      · rw [chk_bind (by constructor <;> omega), chk_bind (by constructor <;> omega), chk_bind (by constructor <;> omega)]
        exact split2_L0 hm hs n _ _ _ _ (by omega) (by omega) (by omega) (by omega) (by omega) (by omega) (by omega) (by omega) hy
      · split
        · obtain ⟨r, hr, g1, g2⟩ := split2_L3 h0 hs m 1 (by omega) (by omega) (by omega)
          rw [hr, Option.bind_some, chk_bind (by constructor <;> omega), chk_bind (by constructor <;> omega)]
          exact split2_L0 hm hs n _ _ _ _ (by omega) (by omega) (by omega) (by omega) (by omega) (by omega) (by omega) (by omega) hy
        · split
          · have hsl : (subL s i (s.length : Int)).length = s.length - i.toNat := by
              unfold subL
              rw [List.length_take, List.length_drop]; omega
            rw [chk_bind (by omega)]
            obtain ⟨u, w, v, hr, g1, g2, g3⟩ := take2_ok (n := m) (s := subL s i (s.length : Int)) hm (by omega) (by omega)
            rw [hr, Option.bind_some]
            split
            · exact ⟨_, rfl, fun z e => (by cases e; rfl), fun p e => by cases e⟩
            · rename_i hz
              have hz' : v ≠ 0 := by simpa using hz
              rw [chk_bind (by simp only [lim, List.length_cons, List.length_nil]; omega), chk_bind (by constructor <;> simp only <;> omega), chk_bind (by constructor <;> simp only <;> omega)]
              refine split2_L0 hm hs n _ _ _ _ (by simp only; omega) (by simp only; omega) (by simp only; omega) (by simp only [List.length_append, List.length_cons, List.length_nil]; omega) (by omega) (by simp only; omega) (by simp only; omega) (by simp only; omega) fun t ht => ?_
              rcases List.mem_append.1 ht with ht | ht
              · exact hy t ht
              · rw [List.mem_singleton] at ht
                subst ht
                exact g3
          · rw [chk_bind (by constructor <;> omega), chk_bind (by constructor <;> omega)]
            exact split2_L0 hm hs n _ _ _ _ (by omega) (by omega) (by omega) (by omega) (by omega) (by omega) (by omega) (by omega) hy
    · rw [if_neg (by simpa using hi)]
      exact ⟨_, rfl, fun z e => (by cases e), fun p e => by cases e; exact ⟨by simp only; omega, hy⟩⟩
theorem split2_ok {n : Nat} {s : Str} (hn : 10000 ≤ n) : ∃ r, ref42_Split n s = some r ∧ (r.2 = 0 → s.length ≤ 4096 ∧ ∀ t ∈ r.1, Tk t.Kind t.Text) := by
  unfold ref42_Split
  by_cases h : (s.length : Int) > 4096
  · exact ⟨_, if_pos (by simpa using h), fun e => by simp at e⟩
  · obtain ⟨r, hr, h1, h2⟩ := split2_L0 hn (s := s) (by omega) n [] 1 1 0 (by omega) (by omega) (by omega) (by simp; omega) (by omega) (by omega) (by omega) (by omega) (by simp)
    rw [if_neg (by simpa using h), hr, Option.bind_some]
    cases r with
    | ret z => rw [el_ret]; exact ⟨_, rfl, fun e => by rw [h1 z rfl] at e; omega⟩
    | go p =>
      obtain ⟨g1, g2⟩ := h2 p rfl
      rw [el_go, chk_bind (by simp only [lim, List.length_cons, List.length_nil]; omega)]
      refine ⟨_, rfl, fun _ => ⟨by omega, fun t ht => ?_⟩⟩
      rcases List.mem_append.1 ht with ht | ht
      · exact g2 t ht
      · rw [List.mem_singleton] at ht
        subst ht
        exact ⟨fun h => by simp at h, fun h => by simp at h⟩
theorem split2_one {n : Nat} {c : UInt8} {t : Str} {k : Int} (hn : 10000 ≤ n) (hs : (c :: t).length ≤ 4096) (hc : (c.toNat : Int) ≠ 10 ∧ (c.toNat : Int) ≠ 32 ∧ (c.toNat : Int) ≠ 9 ∧ (c.toNat : Int) ≠ 13 ∧ (c.toNat : Int) ≠ 35) (ht : ref42_take n (c :: t) = some (k, c :: t, (t.length : Int) + 1)) :
    ref42_Split n (c :: t) = some ([⟨k, c :: t, 1, 1⟩, ⟨5, [], 1, ((c :: t).length : Int) + 1⟩], 0) := by
  obtain ⟨n1, n2, n3, n4, n5⟩ := hc
  obtain ⟨k, rfl⟩ : ∃ k, n = k + 2 := ⟨n - 2, by omega⟩
  have hlen : ((c :: t).length : Int) = (t.length : Int) + 1 := by simp
  unfold ref42_Split
  have e : subL (c :: t) (0 : Int) ((c :: t).length : Int) = c :: t := by
    unfold subL
    rw [show ((0 : Int)).toNat = 0 from rfl, List.drop_zero, List.take_of_length_le (by omega)]
  rw [if_neg (by simp only [decide_eq_true_eq]; omega), ref42_Split_L0, if_pos (by simp only [decide_eq_true_eq]; omega), show ix (c :: t) 0 = some c from rfl, Option.bind_some,
    if_neg (by simpa using n1), if_neg (by simpa using n5), if_pos (by simp only [Bool.and_eq_true, decide_eq_true_eq]; exact ⟨⟨n2, n3⟩, n4⟩), chk_bind (by omega), e, ht, Option.bind_some, if_neg (by simp only [decide_eq_true_eq]; omega),
    chk_bind (by simp [lim]), chk_bind (by constructor <;> simp only <;> omega), chk_bind (by constructor <;> simp only <;> omega), ref42_Split_L0, if_neg (by simp only [decide_eq_true_eq]; omega), Option.bind_some, el_go, chk_bind (by simp [lim])]
  simp
  omega
theorem token1_eq {n : Nat} {s : Str} (hn : 10000 ≤ n) : ref43_token n s 1 = some (wdy s && decide (s.length ≤ 4096)) ∧ ref43_token n s 2 = some (nmr s) := by
  have tail : ∀ (k : Int) (b : Bool), (k = 1 → wdy s = true → s.length ≤ 4096 → b = true) → (k = 2 → nmr s = true → s.length ≤ 4096 → b = true) → (k = 1 ∨ k = 2) → b = false → ref43_token n s k = some b := fun k b h1 h2 hk hb => by
    subst hb
    obtain ⟨r, hr, g⟩ := split2_ok (s := s) hn
    unfold ref43_token
    rw [hr, Option.bind_some]
    cases q : (decide (r.2 = 0) && decide ((r.1.length : Int) = 2)) with
    | false => rfl
    | true =>
      rw [if_pos rfl]
      simp only [Bool.and_eq_true, decide_eq_true_eq] at q
      obtain ⟨g1, g2⟩ := g q.1
      obtain ⟨t, ht⟩ := ix_ok (s := r.1) (i := 0) (by omega) (by omega)
      rw [ht, Option.bind_some, Option.bind_some]
      cases k1 : decide (t.Kind = k) with
      | false => rfl
      | true =>
        rw [if_pos rfl, Option.bind_some, Option.bind_some]
        cases k2 : decide (t.Text = s) with
        | false => rfl
        | true =>
          have e1 := of_decide_eq_true k1
          have e2 := of_decide_eq_true k2
          have := g2 t (ix_mem ht)
          rw [e1, e2] at this
          rcases hk with rfl | rfl
          · exact absurd (h1 rfl (this.1 rfl) g1) (by simp)
          · exact absurd (h2 rfl (this.2 rfl) g1) (by simp)
  have one : ∀ (k : Int), ref42_Split n s = some ([⟨k, s, 1, 1⟩, ⟨5, [], 1, (s.length : Int) + 1⟩], 0) → s.length ≤ 4096 → ref43_token n s k = some true := fun k h hl => by
    unfold ref43_token
    rw [h, Option.bind_some, if_pos (by simp), show ix ([⟨k, s, 1, 1⟩, ⟨5, [], 1, (s.length : Int) + 1⟩] : List S_ref42_Token) 0 = some ⟨k, s, 1, 1⟩ from rfl, show ix ([⟨k, s, 1, 1⟩, ⟨5, [], 1, (s.length : Int) + 1⟩] : List S_ref42_Token) 1 = some ⟨5, [], 1, (s.length : Int) + 1⟩ from rfl,
      Option.bind_some, Option.bind_some, if_pos (by simp), Option.bind_some, Option.bind_some, if_pos (by simp), Option.bind_some, Option.bind_some, if_pos (by simp), Option.bind_some, chk_bind (by constructor <;> omega), Option.bind_some, if_pos (by simp), Option.bind_some]
    rfl
  constructor
  · cases q : (wdy s && decide (s.length ≤ 4096)) with
    | false => exact tail 1 false (fun _ a b => by rw [a, decide_eq_true b] at q; cases q) (fun h => by omega) (.inl rfl) rfl
    | true =>
      simp only [Bool.and_eq_true, decide_eq_true_eq] at q
      refine one 1 ?_ q.2
      cases s with
      | nil => cases q.1
      | cons c t =>
        have hw := q.1
        simp only [wdy, Bool.and_eq_true] at hw
        refine split2_one hn q.2 (L_ne hw.1) ?_
        rw [tak_word hn (by omega) hw.1, tw_self isA t hw.2]
  · cases q : nmr s with
    | false => exact tail 2 false (fun h => by omega) (fun _ a b => by rw [a] at q; cases q) (.inr rfl) rfl
    | true =>
      cases s with
      | nil => cases q
      | cons c t =>
        have hw := q
        simp only [nmr, Bool.and_eq_true, decide_eq_true_eq] at hw
        obtain ⟨⟨w1, w2⟩, w3⟩ := hw
        obtain ⟨n1, n2, n3, n4, n5, n6⟩ := D_ne w1
        refine one 2 ?_ (by simp only [List.length_cons]; omega)
        refine split2_one hn (by simp only [List.length_cons]; omega) ⟨n1, n2, n3, n4, n5⟩ ?_
        rw [tak_num hn (by simp only [List.length_cons]; omega) n6 w1, tw_self isD t w2, if_neg (by omega)]
theorem named2_eq {n : Nat} (hn : 10000 ≤ n) (s : Str) : ref43_named n s = some (nm s) := by
  unfold ref43_named nm
  rw [(token1_eq hn).1, Option.bind_some, keyword2_eq]
  cases (wdy s && decide (s.length ≤ 4096)) <;> rfl
end Rt
