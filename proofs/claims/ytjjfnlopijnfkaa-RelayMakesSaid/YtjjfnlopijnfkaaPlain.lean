/- Plain facts: the order of strings, sorted lists, maps as lists of entries. -/
import Derived.Test.YtjjfnlopijnfkaaLR
set_option linter.unusedVariables false
set_option linter.unusedSimpArgs false
set_option linter.unusedSectionVars false
namespace Pl
open Go Go.SL

/-! ### the order of strings -/
theorem bl : ∀ (x y : Str), Op.bytesLess x y = decide (x < y)
  | x, [] => by cases x <;> simp [Op.bytesLess]
  | [], _ :: _ => by simp [Op.bytesLess]
  | a :: x, b :: y => by
    simp only [Op.bytesLess, bl x y, List.cons_lt_cons_iff]
    by_cases h : a < b
    · simp [h]
    · by_cases k : a = b
      · subst k; simp [h]
      · simp [h, k]
theorem bl_t {x y : Str} : Op.bytesLess x y = true ↔ x < y := by rw [bl]; simp
theorem bl_f {x y : Str} : Op.bytesLess x y = false ↔ y ≤ x := by rw [bl]; simp
theorem lt_of {x y : Str} (h : x ≤ y) (k : x ≠ y) : x < y := by
  rcases Classical.em (x < y) with q | q
  · exact q
  · exact absurd (List.le_antisymm h (List.not_lt.1 q)) k
theorem le_of {x y : Str} (h : x < y) : x ≤ y := List.not_lt.1 fun k => List.lt_asymm h k
theorem ne_of {x y : Str} (h : x < y) : x ≠ y := fun e => by subst e; exact List.lt_irrefl _ h
theorem le_rfl' {x : Str} : x ≤ x := List.not_lt.1 (List.lt_irrefl x)

/-! ### sorted lists -/
theorem sortS_perm (l : List Str) : (sortS l).Perm l := List.mergeSort_perm l _
theorem sortS_le (l : List Str) : (sortS l).Pairwise (· ≤ ·) := by
  refine (List.pairwise_mergeSort (fun a b c h k => ?_) (fun a b => ?_) l).imp fun h => of_decide_eq_true h
  · exact decide_eq_true (List.le_trans (of_decide_eq_true h) (of_decide_eq_true k))
  · rcases List.le_total a b with h | h <;> simp [h]
theorem eq_le {l k : List Str} (hl : l.Pairwise (· ≤ ·)) (hk : k.Pairwise (· ≤ ·)) (hp : l.Perm k) : l = k :=
  List.Perm.eq_of_pairwise (fun a b _ _ h k => List.le_antisymm h k) hl hk hp
theorem sortS_congr {l k : List Str} (h : l.Perm k) : sortS l = sortS k :=
  eq_le (sortS_le l) (sortS_le k) (((sortS_perm l).trans h).trans (sortS_perm k).symm)
theorem sortS_nodup {l : List Str} (h : l.Nodup) : (sortS l).Nodup := (sortS_perm l).nodup_iff.2 h
theorem lt_of_le_nodup {l : List Str} (h : l.Pairwise (· ≤ ·)) (k : l.Nodup) : l.Pairwise (· < ·) :=
  (List.Pairwise.and h k).imp fun ⟨a, b⟩ => lt_of a b
theorem sortS_lt {l : List Str} (h : l.Nodup) : (sortS l).Pairwise (· < ·) := lt_of_le_nodup (sortS_le l) (sortS_nodup h)
theorem nodup_of_lt {l : List Str} (h : l.Pairwise (· < ·)) : l.Nodup := h.imp ne_of
theorem mem_sortS {l : List Str} {x : Str} : x ∈ sortS l ↔ x ∈ l := (sortS_perm l).mem_iff
/-- Strictly ascending lists with the same members. -/
theorem eq_lt {l k : List Str} (hl : l.Pairwise (· < ·)) (hk : k.Pairwise (· < ·)) (h : ∀ x, x ∈ l ↔ x ∈ k) : l = k :=
  eq_le (hl.imp le_of) (hk.imp le_of) ((List.perm_ext_iff_of_nodup (nodup_of_lt hl) (nodup_of_lt hk)).2 h)
theorem sortI_perm (l : List Int) : (sortI l).Perm l := List.mergeSort_perm l _
theorem sortI_le (l : List Int) : (sortI l).Pairwise (· ≤ ·) := by
  refine (List.pairwise_mergeSort (fun a b c h k => ?_) (fun a b => ?_) l).imp fun h => of_decide_eq_true h
  · simp at h k ⊢; omega
  · rcases Int.le_total a b with h | h <;> simp [h]
theorem eq_leI {l k : List Int} (hl : l.Pairwise (· ≤ ·)) (hk : k.Pairwise (· ≤ ·)) (hp : l.Perm k) : l = k :=
  List.Perm.eq_of_pairwise (fun a b _ _ h k => Int.le_antisymm h k) hl hk hp
theorem sortI_congr {l k : List Int} (h : l.Perm k) : sortI l = sortI k :=
  eq_leI (sortI_le l) (sortI_le k) (((sortI_perm l).trans h).trans (sortI_perm k).symm)
theorem mem_sortI {l : List Int} {x : Int} : x ∈ sortI l ↔ x ∈ l := (sortI_perm l).mem_iff
theorem eq_ltI {l k : List Int} (hl : l.Pairwise (· < ·)) (hk : k.Pairwise (· < ·)) (h : ∀ x, x ∈ l ↔ x ∈ k) : l = k :=
  eq_leI (hl.imp fun h => by omega) (hk.imp fun h => by omega) ((List.perm_ext_iff_of_nodup (hl.imp fun h => by omega) (hk.imp fun h => by omega)).2 h)
theorem sortI_lt {l : List Int} (h : l.Nodup) : (sortI l).Pairwise (· < ·) :=
  (List.Pairwise.and (sortI_le l) ((sortI_perm l).nodup_iff.2 h)).imp fun ⟨a, b⟩ => by omega
theorem sortS_len (l : List Str) : (sortS l).length = l.length := (sortS_perm l).length_eq
theorem sortI_len (l : List Int) : (sortI l).length = l.length := (sortI_perm l).length_eq
theorem sortSM_t {l : List Str} (h : l.length ≤ lim) : sortSM l = some (sortS l) := by unfold sortSM; rw [if_pos h]
theorem sortIM_t {l : List Int} (h : l.length ≤ lim) : sortIM l = some (sortI l) := by unfold sortIM; rw [if_pos h]

/-! ### maps -/
section
variable {α β : Type} [DecidableEq α]
def keys (m : List (α × β)) : List α := m.map (·.1)
def Nd (m : List (α × β)) : Prop := (keys m).Nodup
theorem Nd.nil : Nd ([] : List (α × β)) := List.nodup_nil
theorem keys_mset (m : List (α × β)) (k : α) (v : β) : keys (mset m k v) = if k ∈ keys m then keys m else keys m ++ [k] := by
  unfold mset keys
  cases h : mget m k with
  | none =>
    have := (mget_none_iff m k).1 h
    simp only [if_neg this, List.map_append, List.map_cons, List.map_nil]
  | some x =>
    have hk : k ∈ m.map (·.1) := by
      rcases Classical.em (k ∈ m.map (·.1)) with q | q
      · exact q
      · rw [(mget_none_iff m k).2 q] at h; cases h
    rw [if_pos hk]
    simp only [List.map_map]
    apply List.map_congr_left
    intro p hp
    simp only [Function.comp]
    split
    · rename_i e; exact e.symm
    · rfl
theorem Nd.mset {m : List (α × β)} (h : Nd m) (k : α) (v : β) : Nd (mset m k v) := by
  unfold Nd; rw [keys_mset]; split
  · exact h
  · rename_i q
    exact List.nodup_append.2 ⟨h, by simp, fun a ha b hb => by simp at hb; subst hb; exact fun e => q (e ▸ ha)⟩
theorem keys_mdel (m : List (α × β)) (k : α) : keys (mdel m k) = (keys m).filter fun x => !decide (x = k) := by
  unfold keys mdel; rw [List.filter_map]; rfl
theorem Nd.mdel {m : List (α × β)} (h : Nd m) (k : α) : Nd (mdel m k) := by
  unfold Nd; rw [keys_mdel]; exact List.filter_sublist.nodup h
theorem mem_keys {m : List (α × β)} {k : α} : k ∈ keys m ↔ (mget m k).isSome = true := by
  cases h : mget m k with
  | none => simp only [Option.isSome_none, Bool.false_eq_true, iff_false]; exact (mget_none_iff m k).1 h
  | some x => simp only [Option.isSome_some, iff_true]; exact List.mem_map_of_mem (f := (·.1)) (mget_mem h)
theorem mget_of_mem {m : List (α × β)} (h : Nd m) {k : α} {v : β} (hm : (k, v) ∈ m) : mget m k = some v := by
  induction m with
  | nil => cases hm
  | cons p m ih =>
    rw [mget_cons]
    have hn : p.1 ∉ keys m ∧ Nd m := List.nodup_cons.1 h
    rcases List.mem_cons.1 hm with rfl | hm
    · simp
    · have : k ∈ keys m := List.mem_map_of_mem (f := (·.1)) hm
      rw [if_neg fun e : p.1 = k => hn.1 (e ▸ this)]
      exact ih hn.2 hm
theorem Nd.perm {m l : List (α × β)} (h : Nd m) (p : l.Perm m) : Nd l := (p.map _).nodup_iff.2 h
theorem keys_sub {m : List (α × β)} {p : (α × β) → Bool} (h : Nd m) : (keys (m.filter p)).Nodup := by
  unfold keys; exact (List.Sublist.map _ List.filter_sublist).nodup h
theorem mem_filter {m : List (α × β)} {p : (α × β) → Bool} (h : Nd m) {k : α} : k ∈ keys (m.filter p) ↔ ∃ v, mget m k = some v ∧ p (k, v) = true := by
  unfold keys
  simp only [List.mem_map, List.mem_filter]
  constructor
  · rintro ⟨⟨a, v⟩, ⟨h1, h2⟩, rfl⟩
    exact ⟨v, mget_of_mem h h1, h2⟩
  · rintro ⟨v, h1, h2⟩
    exact ⟨(k, v), ⟨mget_mem h1, h2⟩, rfl⟩
theorem length_mset (m : List (α × β)) (k : α) (v : β) : (mset m k v).length ≤ m.length + 1 := by
  unfold mset; cases mget m k <;> simp
theorem length_mdel (m : List (α × β)) (k : α) : (mdel m k).length ≤ m.length := List.length_filter_le _ _
end
/-- A loop over a map that collects. -/
theorem mfold_filter {α γ : Type} (p : α → Bool) (f : α → γ) {B : α → List γ → Option (List γ)} (m : List α) (n : Nat) (hB : ∀ e s, e ∈ m → s.length < n → B e s = some (if p e then s ++ [f e] else s)) :
    ∀ (l : List α) (s : List γ), (∀ e ∈ l, e ∈ m) → s.length + l.length ≤ n → mfold B l s = some (s ++ (l.filter p).map f)
  | [], s, _, _ => by simp [mfold]
  | e :: l, s, hm, hn => by
    have hn' : s.length + (l.length + 1) ≤ n := hn
    unfold mfold
    rw [hB e s (hm e (by simp)) (by omega)]
    simp only [Option.bind_some]
    by_cases h : p e = true
    · rw [if_pos h, mfold_filter p f m n hB l _ (fun x hx => hm x (by simp [hx])) (by simp; omega)]; simp [h]
    · rw [if_neg h, mfold_filter p f m n hB l _ (fun x hx => hm x (by simp [hx])) (by omega)]; simp [h]
theorem chk_bind {p : Prop} [Decidable p] (h : p) {γ : Type} {f : Unit → Option γ} : (chk p).bind f = f () := by rw [chk_t h]; rfl
end Pl
