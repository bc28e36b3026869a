/- Facts on the reference's index. -/
import Derived.Test.YtfngobjpmjpefaaTagsF
set_option linter.unusedVariables false
set_option linter.unusedSimpArgs false
open Go Go.SL Go.Proofs Pl
namespace Tags
theorem tag_L0 (s : Str) : ∀ (r : Str) (i n : Nat), s.drop i = r → i + r.length = s.length → r.length < n → s.length ≤ szMax → ref35_Tag_L0 s n (i : Int) = some (if r.all okc then .go (s.length : Int) else .ret false)
  | [], i, n + 1, hd, hi, hn, hs => by
    simp only [List.length_nil, Nat.add_zero] at hi
    rw [ref35_Tag_L0, if_neg (by simp; omega), hi]; rfl
  | c :: r, i, n + 1, hd, hi, hn, hs => by
    obtain ⟨hix, hdr, hil⟩ := ix_drop hd
    simp only [List.length_cons] at hi hn
    rw [ref35_Tag_L0, if_pos (by simp; omega), hix]
    have hc : ((if decide ((c.toNat : Int) < 33) = true then some true else some (decide ((c.toNat : Int) > 126)))) = some (!okc c) := by
      unfold okc; by_cases h : (c.toNat : Int) < 33 <;> simp [h]
    simp only [Option.bind_some, hc]
    cases h : okc c
    · simp [h]
    · simp only [Bool.not_true, Bool.false_eq_true, if_false]
      rw [chk_bind (by simp only [szMax] at hs; constructor <;> omega), show ((i : Int) + 1) = ((i + 1 : Nat) : Int) from by omega, tag_L0 s r (i + 1) n hdr (by omega) (by omega) hs]
      simp [h]
theorem tag_eq {w : Str} {n : Nat} (h : w.length ≤ szMax) (hn : w.length < n) : ref35_Tag n w = some (good w) := by
  unfold ref35_Tag good
  have := tag_L0 w w 0 n rfl (by simp) hn h
  simp only [Int.natCast_zero] at this
  rw [this, Option.bind_some]
  cases w.all okc
  · simp [Fl.el]
  · simp only [if_true, Fl.el, Bool.and_true]
    congr 1
    congr 1 <;> (congr 1; simp only [ge_iff_le, eq_iff_iff]; omega)
theorem sorted_L2 {l : List Str} {i : Nat} {x : Str} (hx : ix l (i : Int) = some x) : ∀ (A B : List Str) (n : Nat), A.length < n → (A ++ B).length ≤ 100000 → (∀ b ∈ B, x < b) → (A ++ B).Pairwise (· < ·) →
    ∃ A' B', A ++ B = A' ++ B' ∧ ref35_Sorted_L2 l (i : Int) (A ++ B) n (A.length : Int) = some (A'.length : Int) ∧ (∀ a ∈ A', a ≤ x) ∧ (∀ b ∈ B', x < b) := by
  intro A
  induction hA : A.length generalizing A with
  | zero =>
    intro B n hn hl hB hp
    have : A = [] := List.eq_nil_of_length_eq_zero hA
    subst this
    obtain ⟨m, rfl⟩ : ∃ m, n = m + 1 := ⟨n - 1, by omega⟩
    refine ⟨[], B, rfl, ?_, by simp, hB⟩
    rw [ref35_Sorted_L2]; simp
  | succ k ih =>
    intro B n hn hl hB hp
    obtain ⟨m, rfl⟩ : ∃ m, n = m + 1 := ⟨n - 1, by omega⟩
    rcases List.eq_nil_or_concat A with rfl | ⟨q, y, rfl⟩
    · simp at hA
    simp only [List.concat_eq_append] at hA hl hp ⊢
    have hq : q.length = k := by simpa using hA
    have hk : k ≤ 100000 := by simp only [List.length_append] at hl; omega
    have hix : ix (q ++ [y] ++ B) (((k + 1 : Nat) : Int) - 1) = some y := by
      unfold ix
      have : ((((k + 1 : Nat) : Int) - 1)).toNat = q.length := by omega
      rw [if_pos (by omega), this]; simp
    rw [ref35_Sorted_L2, if_pos (by simp), hx]
    simp only [Option.bind_some]
    rw [chk_bind (by constructor <;> omega), hix]
    simp only [Option.bind_some]
    by_cases h : x < y
    · rw [bl_t.2 h]
      simp only [if_true]
      have e2 : q ++ [y] ++ B = q ++ (y :: B) := by simp
      rw [chk_bind (by constructor <;> omega)]
      obtain ⟨A', B', e, hr, h1, h2⟩ := ih q hq (y :: B) m (by omega) (by rw [← e2]; exact hl) (fun b hb => by
        rcases List.mem_cons.1 hb with rfl | hb
        · exact h
        · exact hB b hb) (by rw [← e2]; exact hp)
      refine ⟨A', B', by rw [e2]; exact e, ?_, h1, h2⟩
      rw [e2, show (((k + 1 : Nat) : Int) - 1) = (k : Int) from by omega]; exact hr
    · rw [bl_f.2 (List.not_lt.1 h)]
      simp only [Bool.false_eq_true, if_false]
      refine ⟨q ++ [y], B, rfl, by simp only [List.length_append, List.length_cons, List.length_nil, hq], fun a ha => ?_, hB⟩
      rcases List.mem_append.1 ha with ha | ha
      · have hp' := (List.pairwise_append.1 (List.pairwise_append.1 hp).1).2.2 a ha y (by simp)
        exact List.le_trans (le_of hp') (List.not_lt.1 h)
      · simp at ha; subst ha; exact List.not_lt.1 h
theorem sorted_L0 {l : List Str} {n : Nat} (hl : l.length ≤ 3000) (hn : l.length + 2 ≤ n) : ∀ (r : List Str) (i m : Nat) (out : List Str), l.drop i = r → i + r.length = l.length → r.length < m → out.Pairwise (· < ·) → out.length ≤ i →
    ∃ out' y, ref35_Sorted_L0 l n m out (i : Int) = some (out', y) ∧ out'.Pairwise (· < ·) ∧ ∀ x, x ∈ out' ↔ x ∈ out ∨ x ∈ r
  | [], i, m + 1, out, hd, hi, hm, hp, ho => by
    simp only [List.length_nil, Nat.add_zero] at hi
    rw [ref35_Sorted_L0, if_neg (by simp; omega)]
    exact ⟨out, _, rfl, hp, by simp⟩
  | x :: r, i, m + 1, out, hd, hi, hm, hp, ho => by
    obtain ⟨hix, hdr, hil⟩ := ix_drop hd
    simp only [List.length_cons] at hi hm
    have e1 : ((i : Int) + 1) = ((i + 1 : Nat) : Int) := by omega
    rw [ref35_Sorted_L0, if_pos (by simp; omega), hix, Option.bind_some, has_eq x (by omega) (by omega), Option.bind_some]
    by_cases hx : x ∈ out
    · obtain ⟨out', y, e, h1, h2⟩ := sorted_L0 hl hn r (i + 1) m out hdr (by omega) (by omega) hp (by omega)
      rw [if_pos (by simpa using hx), chk_bind (by constructor <;> omega), e1, e]
      refine ⟨out', y, rfl, h1, fun z => ?_⟩
      rw [h2, List.mem_cons]
      constructor
      · rintro (h | h)
        · exact .inl h
        · exact .inr (.inr h)
      · rintro (h | h | h)
        · exact .inl h
        · subst h; exact .inl hx
        · exact .inr h
    · obtain ⟨A, B, hab, hr, hA, hB⟩ := sorted_L2 hix out [] n (by omega) (by simp; omega) (by simp) (by simpa using hp)
      simp only [List.append_nil] at hab hr
      subst hab
      have hp2 := List.pairwise_append.1 hp
      have hA' : ∀ a ∈ A, a < x := fun a ha => lt_of (hA a ha) fun e => hx (by subst e; simp [ha])
      have hlen : A.length + B.length ≤ 3000 := by simp at ho; omega
      have hs1 : subL (A ++ B) (0 : Int) (A.length : Int) = A := by unfold subL; simp
      have hs2 : subL (A ++ B) (A.length : Int) ((A ++ B).length : Int) = B := by
        unfold subL
        simp only [Int.toNat_natCast, List.drop_left, List.length_append]
        exact List.take_of_length_le (by omega)
      have hp' : (A ++ [x] ++ B).Pairwise (· < ·) := by
        refine List.pairwise_append.2 ⟨List.pairwise_append.2 ⟨hp2.1, List.pairwise_singleton _ _, fun a ha b hb => by simp at hb; subst hb; exact hA' a ha⟩, hp2.2.1, fun a ha b hb => ?_⟩
        rcases List.mem_append.1 ha with ha | ha
        · exact hp2.2.2 a ha b hb
        · simp at ha; subst ha; exact hB b hb
      obtain ⟨out', y, e, h1, h2⟩ := sorted_L0 hl hn r (i + 1) m (A ++ [x] ++ B) hdr (by omega) (by omega) hp' (by simp at ho ⊢; omega)
      rw [if_neg (by simpa using hx), hr, Option.bind_some]
      rw [chk_bind (by simp only [List.length_append]; omega), hs1, hs2, chk_bind (by simp only [lim]; omega), Option.bind_some, chk_bind (by simp only [List.length_cons, List.length_nil, lim]; omega), chk_bind (by simp only [List.length_append]; omega), chk_bind (by simp only [List.length_append, List.length_cons, List.length_nil, lim]; omega), chk_bind (by constructor <;> omega), e1, e]
      refine ⟨out', y, rfl, h1, fun z => ?_⟩
      rw [h2]
      simp only [List.mem_append, List.mem_cons, List.not_mem_nil, or_false]
      constructor
      · rintro (((h | h) | h) | h) <;> simp [h]
      · rintro ((h | h) | h | h) <;> simp [h]
theorem sorted_eq {l : List Str} {n : Nat} (hl : l.length ≤ 3000) (hn : l.length + 2 ≤ n) : ∃ out, ref35_Sorted n l = some out ∧ out.Pairwise (· < ·) ∧ ∀ x, x ∈ out ↔ x ∈ l := by
  obtain ⟨out, y, e, h1, h2⟩ := sorted_L0 hl hn l 0 n [] rfl (by simp) (by omega) List.Pairwise.nil (by simp)
  simp only [Int.natCast_zero] at e
  refine ⟨out, ?_, h1, fun x => by rw [h2]; simp⟩
  unfold ref35_Sorted; rw [e]; rfl
theorem mem_upTo (d : Array Str) : ∀ (m j : Nat), j < m → d[j]! ∈ Go.Lib.compactUpTo d m
  | 0, j, h => by omega
  | m + 1, j, h => by
    rw [Go.Lib.compactUpTo_succ]
    rcases Nat.lt_or_ge j m with q | q
    · exact List.mem_append_left _ (mem_upTo d m j q)
    · have : j = m := by omega
      subst this
      cases hk : Go.Lib.keeps d j with
      | true => simp
      | false =>
        have h2 : ¬ (j = 0 ∨ d[j]! ≠ d[j - 1]!) := by simpa [Go.Lib.keeps] using hk
        have h3 : j ≠ 0 := fun e => h2 (.inl e)
        have h4 : d[j]! = d[j - 1]! := Classical.byContradiction fun e => h2 (.inr e)
        rw [h4]
        exact List.mem_append_left _ (mem_upTo d j (j - 1) (by omega))
theorem mem_comp {l : List Str} {x : Str} : x ∈ Go.Lib.compact l ↔ x ∈ l := by
  constructor
  · intro h
    unfold Go.Lib.compact Go.Lib.compactUpTo at h
    obtain ⟨j, hj, rfl⟩ := List.mem_map.1 h
    have hj := List.mem_range.1 (List.mem_filter.1 hj).1
    have : l.toArray[j]! = l[j] := by simp [hj]
    rw [this]; exact List.getElem_mem hj
  · intro h
    obtain ⟨j, hj, rfl⟩ := List.getElem_of_mem h
    have := mem_upTo l.toArray l.length j hj
    have e : l.toArray[j]! = l[j] := by simp [hj]
    rw [e] at this; exact this
theorem texts_L0 (b : List Str) : ∀ (l pre : List Str), b = pre ++ l → base_Texts_L0 b l pre.length = some (.go ())
  | [], pre, h => by rw [base_Texts_L0]
  | x :: l, pre, h => by
    have ih := texts_L0 b l (pre ++ [x]) (by simp [h])
    rw [base_Texts_L0]
    have : ix b (pre.length : Int) = some x := by unfold ix; rw [if_pos (by omega), h]; simp
    rw [this]
    simpa using ih
theorem texts_eq {l : List Str} (h : l.length ≤ 100000) : base_Texts l l = some true := by
  unfold base_Texts
  rw [if_neg (by simp), chk_bind (by simp only [szMax]; omega)]
  have := texts_L0 l l [] rfl
  simp only [List.length_nil] at this
  rw [this]; rfl

theorem asc_upTo {l : List Str} (hs : l.Pairwise (· ≤ ·)) : ∀ m : Nat, m ≤ l.length → (Go.Lib.compactUpTo l.toArray m).Pairwise (· < ·) ∧ ∀ a ∈ Go.Lib.compactUpTo l.toArray m, 0 < m ∧ a ≤ l.toArray[m - 1]!
  | 0, h => by
    have : Go.Lib.compactUpTo l.toArray 0 = [] := rfl
    rw [this]; exact ⟨List.Pairwise.nil, fun a ha => by cases ha⟩
  | m + 1, h => by
    obtain ⟨h1, h2⟩ := asc_upTo hs m (by omega)
    rw [Go.Lib.compactUpTo_succ]
    have hm : l.toArray[m]! = l[m] := by simp [show m < l.length by omega]
    have hle : 0 < m → l.toArray[m - 1]! ≤ l.toArray[m]! := fun h0 => by
      have e1 : l.toArray[m - 1]! = l[m - 1] := by simp [show m - 1 < l.length by omega]
      rw [hm, e1]
      exact List.pairwise_iff_getElem.1 hs (m - 1) m (by omega) (by omega) (by omega)
    simp only [Nat.add_sub_cancel]
    cases hk : Go.Lib.keeps l.toArray m with
    | true =>
      have hk2 : m = 0 ∨ l.toArray[m]! ≠ l.toArray[m - 1]! := by simpa [Go.Lib.keeps] using hk
      simp only [if_true]
      refine ⟨List.pairwise_append.2 ⟨h1, List.pairwise_singleton _ _, fun a ha b hb => ?_⟩, fun a ha => ?_⟩
      · simp only [List.mem_singleton] at hb; subst hb
        obtain ⟨h0, h3⟩ := h2 a ha
        rcases hk2 with q | q
        · omega
        · exact List.lt_of_le_of_lt h3 (lt_of (hle h0) fun e => q e.symm)
      · rcases List.mem_append.1 ha with ha | ha
        · obtain ⟨h0, h3⟩ := h2 a ha
          exact ⟨by omega, List.le_trans h3 (hle h0)⟩
        · simp only [List.mem_singleton] at ha; subst ha
          exact ⟨by omega, le_rfl'⟩
    | false =>
      simp only [Bool.false_eq_true, if_false, List.append_nil]
      exact ⟨h1, fun a ha => ⟨by omega, List.le_trans (h2 a ha).2 (hle (h2 a ha).1)⟩⟩
theorem comp_lt (l : List Str) : (Go.Lib.compact (sortS l)).Pairwise (· < ·) := (asc_upTo (sortS_le l) _ (Nat.le_refl _)).1
abbrev En := S_ref35_Entry
def rget : List En → Str → Option (List Str)
  | [], _ => none
  | e :: r, id => if e.ID = id then some e.Tags else rget r id
def rdel (r : List En) (id : Str) : List En := r.filter fun e => decide (e.ID ≠ id)
theorem rget_del (k id : Str) : ∀ r : List En, rget (rdel r k) id = if k = id then none else rget r id
  | [] => by unfold rdel rget; simp
  | e :: r => by
    have ih := rget_del k id r
    unfold rdel at ih ⊢
    rw [List.filter_cons]
    by_cases h : e.ID = k
    · rw [if_neg (by simp [h]), ih]
      by_cases q : k = id
      · simp [q]
      · rw [if_neg q, if_neg q, rget, if_neg (by rw [h]; exact q)]
    · rw [if_pos (by simp [h]), rget, ih, rget]
      by_cases q : k = id
      · subst q; simp [h]
      · rw [if_neg q]; split <;> simp_all
theorem rget_app {id : Str} (e : En) : ∀ r : List En, rget (r ++ [e]) id = match rget r id with | some v => some v | none => if e.ID = id then some e.Tags else none
  | [] => by simp [rget]
  | a :: r => by
    rw [List.cons_append, rget, rget, rget_app e r]
    split <;> rfl
theorem rget_mem {id : Str} : ∀ r : List En, id ∈ r.map (·.ID) ↔ (rget r id).isSome = true
  | [] => by simp [rget]
  | e :: r => by
    rw [List.map_cons, List.mem_cons, rget, rget_mem r]
    by_cases h : e.ID = id
    · simp [h]
    · have : ¬ id = e.ID := fun q => h q.symm
      simp [h, this]
theorem rget_of {r : List En} (h : (r.map (·.ID)).Nodup) {e : En} (he : e ∈ r) : rget r e.ID = some e.Tags := by
  induction r with
  | nil => cases he
  | cons a r ih =>
    rw [List.map_cons, List.nodup_cons] at h
    rw [rget]
    rcases List.mem_cons.1 he with rfl | he
    · simp
    · rw [if_neg fun q : a.ID = e.ID => h.1 (q ▸ List.mem_map_of_mem (f := (·.ID)) he)]
      exact ih h.2 he
theorem rget_in {id : Str} {v : List Str} : ∀ r : List En, rget r id = some v → ∃ e ∈ r, e.ID = id ∧ e.Tags = v
  | [], h => by cases h
  | a :: r, h => by
    rw [rget] at h
    split at h
    · rename_i q; cases h; exact ⟨a, by simp, q, rfl⟩
    · obtain ⟨e, h1, h2⟩ := rget_in r h; exact ⟨e, by simp [h1], h2⟩
theorem remove_L0 (r : List En) (id : Str) (hr : r.length ≤ 1000) : ∀ (q : List En) (i m : Nat) (o : List En), r.drop i = q → i + q.length = r.length → q.length < m → o.length ≤ i →
    ∃ y, ref35_Remove_L0 r id m o (i : Int) = some (o ++ rdel q id, y)
  | [], i, m + 1, o, hd, hi, hm, ho => by
    simp only [List.length_nil, Nat.add_zero] at hi
    rw [ref35_Remove_L0, if_neg (by simp; omega)]
    exact ⟨(i : Int), by simp [rdel]⟩
  | e :: q, i, m + 1, o, hd, hi, hm, ho => by
    obtain ⟨hix, hdr, hil⟩ := ix_drop hd
    simp only [List.length_cons] at hi hm
    have e1 : ((i : Int) + 1) = ((i + 1 : Nat) : Int) := by omega
    rw [ref35_Remove_L0, if_pos (by simp; omega), hix, Option.bind_some]
    by_cases h : e.ID = id
    · obtain ⟨y, ih⟩ := remove_L0 r id hr q (i + 1) m o hdr (by omega) (by omega) (by omega)
      rw [if_neg (by simp [h]), chk_bind (by constructor <;> omega), e1, ih]
      exact ⟨y, by simp [rdel, h]⟩
    · obtain ⟨y, ih⟩ := remove_L0 r id hr q (i + 1) m (o ++ [e]) hdr (by omega) (by omega) (by simp; omega)
      rw [if_pos (by simp [h]), Option.bind_some, chk_bind (by simp only [List.length_cons, List.length_nil, lim]; omega), chk_bind (by constructor <;> omega), e1, ih]
      exact ⟨y, by simp [rdel, h]⟩
theorem remove_eq {r : List En} {n : Nat} (id : Str) (hr : r.length ≤ 1000) (hn : r.length < n) : ref35_Remove n r id = some (rdel r id) := by
  obtain ⟨y, e⟩ := remove_L0 r id hr r 0 n [] rfl (by simp) hn (by simp)
  simp only [Int.natCast_zero, List.nil_append] at e
  unfold ref35_Remove; rw [e]; rfl
end Tags
