/- Facts on Put, Remove, Find. -/
import Derived.Test.YtfngobjpmjpefaaTagsU
import Derived.Test.YtfngobjpmjpefaaR
set_option linter.unusedVariables false
set_option linter.unusedSimpArgs false
open Go Go.SL Go.Proofs Pl
namespace Tags
theorem ix_drop {α : Type} {s : List α} {i : Nat} {c : α} {r : List α} (h : s.drop i = c :: r) : ix s (i : Int) = some c ∧ s.drop (i + 1) = r ∧ i < s.length := by
  have hi : i < s.length := by
    rcases Nat.lt_or_ge i s.length with q | q
    · exact q
    · rw [List.drop_eq_nil_of_le q] at h; cases h
  refine ⟨?_, ?_, hi⟩
  · unfold ix; rw [if_pos (by omega), Int.toNat_natCast]
    have : s[i]? = (s.drop i)[0]? := by simp
    rw [this, h]; rfl
  · rw [← List.drop_drop, h]; rfl
def okc (c : UInt8) : Bool := !(decide ((c.toNat : Int) < 33) || decide ((c.toNat : Int) > 126))
def good (w : Str) : Bool := decide (1 ≤ w.length) && decide (w.length ≤ 32) && w.all okc
theorem good_L0 : ∀ (w : Str) (i : Nat), tags_good_L0 w i = some (if w.all okc then .go () else .ret false)
  | [], i => by rw [tags_good_L0]; rfl
  | c :: w, i => by
    rw [tags_good_L0]
    have hc : ((if decide ((c.toNat : Int) < 33) = true then some true else some (decide ((c.toNat : Int) > 126)))) = some (!okc c) := by
      unfold okc; by_cases h : (c.toNat : Int) < 33 <;> simp [h]
    rw [hc, Option.bind_some, good_L0 w]
    cases h : okc c <;> simp [h]
theorem good_eq {w : Str} : tags_good w = some (good w) := by
  unfold tags_good good
  by_cases h1 : (w.length : Int) < 1 ∨ (w.length : Int) > 32
  · rw [if_pos (by simpa using h1)]
    have : (decide (1 ≤ w.length) && decide (w.length ≤ 32)) = false := by
      rw [Bool.and_eq_false_iff, decide_eq_false_iff_not, decide_eq_false_iff_not]; omega
    rw [this]; rfl
  · rw [if_neg (by simpa using h1), chk_bind (by simp only [szMax]; omega), good_L0]
    have h2 : 1 ≤ w.length := by omega
    have h3 : w.length ≤ 32 := by omega
    simp only [h2, h3, decide_true, Bool.true_and, Option.bind_some]
    cases w.all okc <;> rfl
theorem index_L0 (v : Str) : ∀ (l : List Str) (i : Nat), ∃ j : Nat, slices_Index_string_L0 v l i = some (if v ∈ l then .ret (j : Int) else .go ())
  | [], i => ⟨0, by rw [slices_Index_string_L0]; rfl⟩
  | x :: l, i => by
    rw [slices_Index_string_L0]
    by_cases h : v = x
    · exact ⟨i, by simp [h]⟩
    · obtain ⟨j, e⟩ := index_L0 v l (i + 1)
      exact ⟨j, by simp only [h, decide_false, Bool.false_eq_true, if_false, e, List.mem_cons, false_or]⟩
theorem contains_eq {l : List Str} (v : Str) (h : l.length ≤ 100000) : slices_Contains_string l v = some (decide (v ∈ l)) := by
  unfold slices_Contains_string slices_Index_string
  obtain ⟨j, e⟩ := index_L0 v l 0
  rw [chk_bind (by simp only [szMax]; omega), e]
  by_cases hv : v ∈ l
  · simp [hv, Fl.el]
  · simp [hv, Fl.el]
theorem has_L0 (s : List Str) (v : Str) : ∀ (r : List Str) (i n : Nat), s.drop i = r → i + r.length = s.length → r.length < n → s.length ≤ 100000 → ∃ y, ref35_Has_L0 s v n (i : Int) = some (if v ∈ r then .ret true else .go y)
  | [], i, n + 1, hd, hi, hn, hs => ⟨_, by
    simp only [List.length_nil, Nat.add_zero] at hi
    rw [ref35_Has_L0, if_neg (by simp; omega)]; rfl⟩
  | c :: r, i, n + 1, hd, hi, hn, hs => by
    obtain ⟨hix, hdr, hil⟩ := ix_drop hd
    simp only [List.length_cons] at hi hn
    obtain ⟨y, e⟩ := has_L0 s v r (i + 1) n hdr (by omega) (by omega) hs
    refine ⟨y, ?_⟩
    rw [ref35_Has_L0, if_pos (by simp; omega), hix]
    simp only [Option.bind_some]
    by_cases h : c = v
    · simp [h]
    · have h' : ¬ v = c := fun q => h q.symm
      simp only [h, decide_false, Bool.false_eq_true, if_false, List.mem_cons, h', false_or]
      rw [chk_bind (by constructor <;> omega), show ((i : Int) + 1) = ((i + 1 : Nat) : Int) from by omega, e]
theorem has_eq {l : List Str} (v : Str) {n : Nat} (h : l.length ≤ 100000) (hn : l.length < n) : ref35_Has n l v = some (decide (v ∈ l)) := by
  unfold ref35_Has
  obtain ⟨y, e⟩ := has_L0 l v l 0 n rfl (by simp) hn h
  simp only [Int.natCast_zero] at e
  rw [e]
  by_cases hv : v ∈ l <;> simp [hv, Fl.el]
structure Inv (x : Ix) (k : Nat) : Prop where
  nd : Nd x.entries
  len : x.entries.length ≤ k
  val : ∀ p ∈ x.entries, p.2.length ≤ 16
theorem mset_mem {β : Type} {m : List (Str × β)} {k : Str} {v : β} {p : Str × β} (h : p ∈ mset m k v) : p ∈ m ∨ p.2 = v := by
  unfold mset at h
  split at h
  · obtain ⟨q, hq, e⟩ := List.mem_map.1 h
    split at e
    · subst e; exact .inr rfl
    · subst e; exact .inl hq
  · rcases List.mem_append.1 h with h | h
    · exact .inl h
    · simp at h; subst h; exact .inr rfl
theorem Inv.get {x : Ix} {k : Nat} (h : Inv x k) (id : Str) : ((mget x.entries id).getD []).length ≤ 16 := by
  cases e : mget x.entries id with
  | none => simp
  | some v => exact h.val _ (mget_mem e)
theorem put_L0 (x : Ix) : ∀ (l : List Str) (i : Nat), tags_Index_Put_bor_L0 x l i = some (if l.all good then .go () else .ret (some 2, x))
  | [], i => by rw [tags_Index_Put_bor_L0]; rfl
  | w :: l, i => by
    rw [tags_Index_Put_bor_L0, good_eq, Option.bind_some, put_L0 x l]
    cases h : good w <;> simp [h]
/-- Put, as a plain function. -/
def putF (x : Ix) (id : Str) (l : List Str) : Err × Ix :=
  if 16 < l.length then (some 5, x) else if l.all good then (none, ⟨mset x.entries id (Go.Lib.compact (sortS l))⟩) else (some 2, x)
theorem put_eq (x : Ix) (id : Str) (l : List Str) : tags_Index_Put_bor x id l = some (putF x id l) := by
  unfold tags_Index_Put_bor putF
  by_cases h : 16 < l.length
  · rw [if_pos (by simp; omega), if_pos h]
  · rw [if_neg (by simp; omega), if_neg h, chk_bind (by simp only [szMax]; omega), put_L0]
    cases h2 : l.all good
    · simp [Fl.el]
    · simp only [if_true, Option.bind_some, Fl.el]
      rw [clone_eq (by simp only [lim]; omega), Option.bind_some, sortSM_t (by simp only [lim]; omega), Option.bind_some, compactM_t (by rw [sortS_len]; simp only [lim]; omega)]
      rfl
theorem compact_len (l : List Str) : (Go.Lib.compact (sortS l)).length ≤ l.length := by
  have := Go.Lib.compact_length_le (sortS l)
  rw [sortS_len] at this; exact this
theorem Inv.put {x : Ix} {k : Nat} (h : Inv x k) (id : Str) (l : List Str) : Inv (putF x id l).2 (k + 1) := by
  have h' : Inv x (k + 1) := ⟨h.nd, Nat.le_succ_of_le h.len, h.val⟩
  unfold putF
  split
  · exact h'
  · rename_i h1
    split
    · refine ⟨h.nd.mset _ _, Nat.le_trans (length_mset _ _ _) (Nat.succ_le_succ h.len), fun p hp => ?_⟩
      rcases mset_mem hp with hp | hp
      · exact h.val p hp
      · rw [hp]; exact Nat.le_trans (compact_len l) (by omega)
    · exact h'
theorem Inv.del {x : Ix} {k : Nat} (h : Inv x k) (id : Str) : Inv (⟨mdel x.entries id⟩ : Ix) (k + 1) :=
  ⟨h.nd.mdel _, Nat.le_succ_of_le (Nat.le_trans (length_mdel _ _) h.len), fun p hp => h.val p ((List.mem_filter.1 hp).1)⟩
theorem find_L0 {x : Ix} {k : Nat} (h : Inv x k) (tag : Str) : ∀ (l : List Str) (i : Nat) (o : List Str), o.length + l.length ≤ 100000 →
    tags_Index_Find_L0 x tag l i o = some (o ++ l.filter fun id => decide (tag ∈ (mget x.entries id).getD []))
  | [], i, o, _ => by rw [tags_Index_Find_L0]; simp
  | id :: l, i, o, ho => by
    simp only [List.length_cons] at ho
    rw [tags_Index_Find_L0, contains_eq tag (Nat.le_trans (h.get id) (by omega)), Option.bind_some]
    by_cases q : tag ∈ (mget x.entries id).getD []
    · rw [if_pos (by simpa using q), chk_bind (by simp only [List.length_cons, List.length_nil, lim]; omega), find_L0 h tag l _ _ (by simp; omega)]
      simp [q]
    · rw [if_neg (by simpa using q), find_L0 h tag l _ _ (by omega)]
      simp [q]
theorem find_eq {x : Ix} {k : Nat} (h : Inv x k) (hk : k ≤ 1000) (tag : Str) : tags_Index_Find x tag = some ((sortS (keys x.entries)).filter fun id => decide (tag ∈ (mget x.entries id).getD [])) := by
  have hl := h.len
  have hs : (sortS (keys x.entries)).length = x.entries.length := by rw [sortS_len]; unfold keys; simp
  unfold tags_Index_Find
  rw [ids_eq (by omega), Option.bind_some, chk_bind (by simp only [szMax]; omega), find_L0 h tag _ _ _ (by simp only [List.length_nil]; omega)]
  simp
theorem tags_eq {x : Ix} {k : Nat} (h : Inv x k) (id : Str) : tags_Index_Tags x id = some ((mget x.entries id).getD []) := by
  unfold tags_Index_Tags
  rw [clone_eq (Nat.le_trans (h.get id) (by simp only [lim]; omega))]; rfl
theorem fits_L0 (acts : List S_law35_Act) : ∀ (r : List S_law35_Act) (i n : Nat), acts.drop i = r → i + r.length = acts.length → r.length < n → acts.length ≤ szMax → ∃ y, law35_fits_L0 acts n (i : Int) = some y ∧ (y = .ret false ∨ ∃ z, y = .go z)
  | [], i, n + 1, hd, hi, hn, hs => by
    simp only [List.length_nil, Nat.add_zero] at hi
    rw [law35_fits_L0, if_neg (by simp; omega)]
    exact ⟨_, rfl, .inr ⟨_, rfl⟩⟩
  | a :: r, i, n + 1, hd, hi, hn, hs => by
    obtain ⟨hix, hdr, hil⟩ := ix_drop hd
    simp only [List.length_cons, szMax] at hi hn hs
    rw [law35_fits_L0, if_pos (by simp; omega), hix]
    simp only [Option.bind_some]
    split
    · exact ⟨_, rfl, .inl rfl⟩
    · rw [chk_bind (by constructor <;> omega), show ((i : Int) + 1) = ((i + 1 : Nat) : Int) from by omega]
      exact fits_L0 acts r (i + 1) n hdr (by omega) (by omega) (by simp only [szMax]; omega)
theorem fits_eq {acts : List S_law35_Act} {n : Nat} (hn : acts.length < n) (hs : acts.length ≤ szMax) : ∃ b, law35_fits n acts = some b ∧ (b = true → acts.length ≤ 40) := by
  obtain ⟨y, e, h⟩ := fits_L0 acts acts 0 n rfl (by simp) hn hs
  simp only [Int.natCast_zero] at e
  unfold law35_fits
  rw [e]
  rcases h with rfl | ⟨z, rfl⟩
  · exact ⟨false, rfl, fun h => by cases h⟩
  · refine ⟨_, rfl, fun h => ?_⟩
    have := of_decide_eq_true h
    omega
end Tags
