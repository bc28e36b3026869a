/- Plain facts: sets of variants. -/
import Derived.Test.YtlpjmfojahofnaaVaryI
set_option linter.unusedVariables false
set_option linter.unusedSimpArgs false
open Go Go.SL Go.Proofs Pl
namespace Vary
abbrev Vt := S_vary_variant
abbrev St := S_vary_Set
theorem clone_eq {l : List Str} (h : l.length ≤ 1000000) : slices_Clone_string l = some l := by
  unfold slices_Clone_string
  rw [chk_bind (by simp only [lim, List.length_nil]; omega)]; rfl
theorem ix_dropped {α : Type} {s r : List α} {i : Nat} {c : α} (h : s.drop i = c :: r) : ix s (i : Int) = some c ∧ s.drop (i + 1) = r := by
  have hi : i < s.length := by
    rcases Nat.lt_or_ge i s.length with q | q
    · exact q
    · rw [List.drop_eq_nil_of_le q] at h; cases h
  rw [List.drop_eq_getElem_cons hi] at h
  injection h with h1 h2
  refine ⟨?_, h2⟩
  unfold ix
  rw [if_pos (by omega)]
  simp [hi, h1]
theorem equal_L0 {b : List Str} : ∀ (r q : List Str) (i : Nat), b.drop i = q → q.length = r.length → slices_Equal_string_L0 b r i = some (if r = q then Fl.go () else Fl.ret false)
  | [], q, i, hq, hl => by
    have : q = [] := List.length_eq_zero_iff.1 hl
    subst this; rfl
  | x :: r, [], i, hq, hl => by simp at hl
  | x :: r, y :: q, i, hq, hl => by
    obtain ⟨h1, h2⟩ := ix_dropped hq
    rw [slices_Equal_string_L0, h1, Option.bind_some]
    by_cases k : x = y
    · rw [if_neg (by simpa using k), equal_L0 r q (i + 1) h2 (by simpa using hl)]
      subst k; simp
    · rw [if_pos (by simpa using k)]; simp [k]
theorem equal_eq {a b : List Str} (h : a.length ≤ 1000000) : slices_Equal_string a b = some (decide (a = b)) := by
  unfold slices_Equal_string
  by_cases k : a.length = b.length
  · rw [if_neg (by simp; omega), chk_bind (by simp only [szMax]; omega), equal_L0 a b 0 rfl k.symm, Option.bind_some]
    by_cases e : a = b
    · rw [if_pos e]; simp [e, Fl.el]
    · rw [if_neg e]; simp [e, Fl.el]
  · rw [if_pos (by simp; omega)]
    have : a ≠ b := fun e => k (by rw [e])
    simp [this]
def same (k : Str) (names : List Str) (v : Vt) : Bool := decide (v.key = k) && decide (v.names = names)
def out (id : Int) (k : Str) (names : List Str) (v : Vt) : Bool := !decide (v.id = id) && same k names v
def stay (id : Int) (k : Str) (names : List Str) (v : Vt) : Bool := !decide (v.id = id) && !same k names v
theorem put_L0 {id : Int} {k : Str} {names : List Str} : ∀ (l : List Vt) (i : Nat) (g : List Int) (o : List Vt), g.length + l.length ≤ 1000000 → o.length + l.length ≤ 1000000 → (∀ v ∈ l, v.names.length ≤ 1000000) →
    vary_Set_Put_L0 id k names l i g o = some (g ++ (l.filter (out id k names)).map (·.id), o ++ l.filter (stay id k names))
  | [], i, g, o, _, _, _ => by simp [vary_Set_Put_L0]
  | v :: l, i, g, o, hg, ho, hv => by
    simp only [List.length_cons] at hg ho
    have hv' : ∀ z ∈ l, z.names.length ≤ 1000000 := fun z hz => hv z (by simp [hz])
    rw [vary_Set_Put_L0]
    by_cases h1 : v.id = id
    · rw [if_pos (by simpa using h1), put_L0 l (i + 1) g o (by omega) (by omega) hv']
      simp [out, stay, h1]
    · rw [if_neg (by simpa using h1)]
      have e : (if decide (v.key = k) = true then (slices_Equal_string v.names names).bind fun x55 => some x55 else some false) = some (same k names v) := by
        unfold same
        by_cases h2 : v.key = k
        · rw [if_pos (by simpa using h2), equal_eq (hv v (by simp)), Option.bind_some]; simp [h2]
        · rw [if_neg (by simpa using h2)]; simp [h2]
      rw [e, Option.bind_some]
      by_cases h3 : same k names v = true
      · rw [if_pos h3, chk_bind (by simp only [lim, List.length_cons, List.length_nil]; omega), put_L0 l (i + 1) _ o (by simp only [List.length_append, List.length_cons, List.length_nil]; omega) (by omega) hv']
        simp [out, stay, h1, h3]
      · rw [if_neg h3, chk_bind (by simp only [lim, List.length_cons, List.length_nil]; omega), put_L0 l (i + 1) g _ (by omega) (by simp only [List.length_append, List.length_cons, List.length_nil]; omega) hv']
        simp [out, stay, h1, h3]
theorem put_L3 {t : List Int × List Vt} (ht : t.2.length ≤ 100000) : ∀ (n i : Nat) (y : List Int), i ≤ 100000 → t.2.length - i < n → y.length + (t.2.length - i) ≤ 1000000 → ∃ z, vary_Set_Put_L3 t n y (i : Int) = some (y ++ (t.2.drop i).map (·.id), z)
  | 0, i, y, _, h, _ => by omega
  | n + 1, i, y, hi, h, hy => by
    rw [vary_Set_Put_L3]
    by_cases k : i < t.2.length
    · have hd := List.drop_eq_getElem_cons k
      obtain ⟨h1, h2⟩ := ix_dropped hd
      have e1 : ((i : Int) + 1) = ((i + 1 : Nat) : Int) := by omega
      rw [if_pos (by simpa using k), h1, Option.bind_some, chk_bind (by simp only [lim, List.length_cons, List.length_nil]; omega), chk_bind (by constructor <;> omega), e1]
      obtain ⟨z, hz⟩ := put_L3 ht n (i + 1) (y ++ [t.2[i].id]) (by omega) (by omega) (by simp only [List.length_append, List.length_cons, List.length_nil]; omega)
      exact ⟨z, by rw [hz, hd, List.map_cons, List.append_assoc]; rfl⟩
    · rw [if_neg (by simpa using k), List.drop_eq_nil_of_le (by omega)]
      exact ⟨(i : Int), by simp⟩
def putL (l : List Vt) (names : List Str) (k : Str) (id : Int) : List Vt := ⟨names, k, id⟩ :: l.filter (stay id k names)
def goneL (l : List Vt) (names : List Str) (k : Str) (id : Int) : List Int := (l.filter (out id k names)).map (·.id) ++ ((putL l names k id).drop 16).map (·.id)
theorem put_eq {n : Nat} {l : List Vt} {names : List Str} {f : List RF} {id : Int} (hn : 100 ≤ n) (hl : l.length ≤ 16) (hv : ∀ v ∈ l, v.names.length ≤ 1000000) (hs : sumL names ≤ 1000) (hf : tot f ≤ 10000) :
    vary_Set_Put n ⟨l⟩ names (ffs f) id = some (goneL l names (key names f) id, ⟨(putL l names (key names f) id).take 16⟩) := by
  have h1 := sumL_len names
  have h2 : (l.filter (stay id (key names f) names)).length ≤ l.length := List.length_filter_le _ _
  have h3 : (l.filter (out id (key names f) names)).length ≤ l.length := List.length_filter_le _ _
  unfold vary_Set_Put
  rw [clone_eq (by omega), Option.bind_some, fkey hs hf, Option.bind_some, chk_bind (by simp only [szMax]; omega), put_L0 l 0 [] _ (by simp <;> omega) (by simp <;> omega) hv, Option.bind_some, List.nil_append]
  have e : [(⟨names, key names f, id⟩ : Vt)] ++ l.filter (stay id (key names f) names) = putL l names (key names f) id := rfl
  rw [e]
  have hp : (putL l names (key names f) id).length ≤ 17 := by unfold putL; simp only [List.length_cons]; omega
  obtain ⟨z, hz⟩ := put_L3 (t := ((l.filter (out id (key names f) names)).map (·.id), putL l names (key names f) id)) (by simp only; omega) n 16 ((l.filter (out id (key names f) names)).map (·.id)) (by omega) (by simp only; omega) (by simp only [List.length_map]; omega)
  rw [show ((16 : Nat) : Int) = 16 from rfl] at hz
  rw [hz, Option.bind_some, chk_bind (by simp only; omega)]
  have hs : subL (putL l names (key names f) id) (0 : Int) (min ((putL l names (key names f) id).length : Int) 16) = (putL l names (key names f) id).take 16 := by
    unfold subL
    rw [show ((0 : Int)).toNat = 0 from rfl, List.drop_zero]
    rcases Nat.le_total (putL l names (key names f) id).length 16 with q | q
    · rw [show (min ((putL l names (key names f) id).length : Int) 16 - 0).toNat = (putL l names (key names f) id).length from by omega, List.take_of_length_le (Nat.le_refl _), List.take_of_length_le q]
    · rw [show (min ((putL l names (key names f) id).length : Int) 16 - 0).toNat = 16 from by omega]
  show some (_, (⟨subL (putL l names (key names f) id) (0 : Int) (min ((putL l names (key names f) id).length : Int) 16)⟩ : St)) = _
  rw [hs]; rfl
theorem ids_L0 : ∀ (l : List Vt) (i : Nat) (y : List Int), y.length + l.length ≤ 1000000 → vary_Set_IDs_L0 l i y = some (y ++ l.map (·.id))
  | [], i, y, _ => by simp [vary_Set_IDs_L0]
  | v :: l, i, y, h => by
    simp only [List.length_cons] at h
    rw [vary_Set_IDs_L0, chk_bind (by simp only [lim, List.length_cons, List.length_nil]; omega), ids_L0 l (i + 1) _ (by simp only [List.length_append, List.length_cons, List.length_nil]; omega)]
    simp
theorem ids_eq {l : List Vt} (h : l.length ≤ 1000) : vary_Set_IDs ⟨l⟩ = some (l.map (·.id)) := by
  unfold vary_Set_IDs
  rw [chk_bind (by simp only [szMax]; omega)]
  show (vary_Set_IDs_L0 l 0 []).bind _ = _
  rw [ids_L0 l 0 [] (by simp <;> omega)]; rfl
def hit (f : List RF) (v : Vt) : Bool := decide (key v.names f = v.key)
theorem find_L0 {f : List RF} (hf : tot f ≤ 10000) : ∀ (l : List Vt) (i : Nat) (y : List Int), y.length + l.length ≤ 1000000 → (∀ v ∈ l, sumL v.names ≤ 1000) → vary_Set_Find_L0 (ffs f) l i y = some (y ++ (l.filter (hit f)).map (·.id))
  | [], i, y, _, _ => by simp [vary_Set_Find_L0]
  | v :: l, i, y, h, hv => by
    simp only [List.length_cons] at h
    have hv' : ∀ z ∈ l, sumL z.names ≤ 1000 := fun z hz => hv z (by simp [hz])
    rw [vary_Set_Find_L0, fkey (hv v (by simp)) hf, Option.bind_some]
    by_cases k : key v.names f = v.key
    · rw [if_pos (by simpa using k), chk_bind (by simp only [lim, List.length_cons, List.length_nil]; omega), find_L0 hf l (i + 1) _ (by simp only [List.length_append, List.length_cons, List.length_nil]; omega) hv']
      simp [hit, k]
    · rw [if_neg (by simpa using k), find_L0 hf l (i + 1) _ (by omega) hv']
      simp [hit, k]
theorem find_eq {l : List Vt} {f : List RF} (h : l.length ≤ 1000) (hf : tot f ≤ 10000) (hv : ∀ v ∈ l, sumL v.names ≤ 1000) : vary_Set_Find ⟨l⟩ (ffs f) = some ((l.filter (hit f)).map (·.id)) := by
  unfold vary_Set_Find
  rw [chk_bind (by simp only [szMax]; omega)]
  show (vary_Set_Find_L0 (ffs f) l 0 []).bind _ = _
  rw [find_L0 hf l 0 [] (by simp <;> omega) hv]; rfl
end Vary
