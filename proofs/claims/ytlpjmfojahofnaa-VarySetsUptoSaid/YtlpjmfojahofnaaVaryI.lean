/- Plain facts: two keys of the same names are the same exactly if each name's values are. -/
import Derived.Test.YtlpjmfojahofnaaVaryK
set_option linter.unusedVariables false
set_option linter.unusedSimpArgs false
open Go Go.SL Go.Proofs Pl
namespace Vary
def jv (f : List RF) (n : Str) : Str := jn ((vals f n).map norm) [44]
def tx (f : List RF) (n : Str) : Str := if vals f n = [] then [] else 61 :: quo (jv f n)
theorem item_tx (f : List RF) (n : Str) : item f n = n ++ tx f n := by
  unfold item tx jv; split <;> simp
theorem esc_ne {c : UInt8} (h : ¬ (decide ((c.toNat : Int) = 34) || decide ((c.toNat : Int) = 92)) = true) : c ≠ 34 ∧ c ≠ 92 := by
  constructor
  · rintro rfl; exact h (by decide)
  · rintro rfl; exact h (by decide)
theorem quo_inj : ∀ (v w r r' : Str), v.flatMap esc ++ 34 :: r = w.flatMap esc ++ 34 :: r' → v = w ∧ r = r'
  | [], [], r, r', h => by simpa using h
  | [], d :: w, r, r', h => by
    exfalso
    simp only [List.flatMap_nil, List.nil_append, List.flatMap_cons, List.append_assoc] at h
    unfold esc at h
    split at h
    · simp at h
    · rename_i k; simp at h; exact (esc_ne k).1 h.1.symm
  | c :: v, [], r, r', h => by
    exfalso
    simp only [List.flatMap_nil, List.nil_append, List.flatMap_cons, List.append_assoc] at h
    unfold esc at h
    split at h
    · simp at h
    · rename_i k; simp at h; exact (esc_ne k).1 h.1
  | c :: v, d :: w, r, r', h => by
    simp only [List.flatMap_cons, List.append_assoc] at h
    have step : c = d ∧ v.flatMap esc ++ 34 :: r = w.flatMap esc ++ 34 :: r' := by
      by_cases k : (decide ((c.toNat : Int) = 34) || decide ((c.toNat : Int) = 92)) = true
      · by_cases q : (decide ((d.toNat : Int) = 34) || decide ((d.toNat : Int) = 92)) = true
        · rw [show esc c = [92, c] from by unfold esc; rw [if_pos k], show esc d = [92, d] from by unfold esc; rw [if_pos q]] at h
          simpa using h
        · rw [show esc c = [92, c] from by unfold esc; rw [if_pos k], show esc d = [d] from by unfold esc; rw [if_neg q]] at h
          simp at h
          exact absurd h.1.symm (esc_ne q).2
      · by_cases q : (decide ((d.toNat : Int) = 34) || decide ((d.toNat : Int) = 92)) = true
        · rw [show esc c = [c] from by unfold esc; rw [if_neg k], show esc d = [92, d] from by unfold esc; rw [if_pos q]] at h
          simp at h
          exact absurd h.1 (esc_ne k).2
        · rw [show esc c = [c] from by unfold esc; rw [if_neg k], show esc d = [d] from by unfold esc; rw [if_neg q]] at h
          simpa using h
    obtain ⟨h1, h2⟩ := quo_inj v w r r' step.2
    exact ⟨by rw [step.1, h1], h2⟩
def Same (f g : List RF) (n : Str) : Prop := (vals f n = [] ↔ vals g n = []) ∧ jv f n = jv g n
theorem jv_nil {f : List RF} {n : Str} (h : vals f n = []) : jv f n = [] := by unfold jv; rw [h]; rfl
theorem tx_same {f g : List RF} {n : Str} (h : Same f g n) : tx f n = tx g n := by
  unfold tx
  by_cases k : vals f n = []
  · rw [if_pos k, if_pos (h.1.1 k)]
  · rw [if_neg k, if_neg fun q => k (h.1.2 q), h.2]
def Tl (j : Str) : Prop := j = [] ∨ ∃ r, j = 38 :: r
theorem tl_jt (l : List Str) : Tl (jt [38] l) := by
  cases l with
  | nil => exact .inl rfl
  | cons x l => right; rw [jt_cons]; exact ⟨_, rfl⟩
theorem parse {f g : List RF} {n j k : Str} (hj : Tl j) (hk : Tl k) (h : tx f n ++ j = tx g n ++ k) : Same f g n ∧ j = k := by
  unfold tx at h
  by_cases a : vals f n = []
  · by_cases b : vals g n = []
    · rw [if_pos a, if_pos b] at h
      exact ⟨⟨by simp [a, b], by rw [jv_nil a, jv_nil b]⟩, by simpa using h⟩
    · rw [if_pos a, if_neg b] at h
      exfalso
      rcases hj with rfl | ⟨r, rfl⟩ <;> simp at h
  · by_cases b : vals g n = []
    · rw [if_neg a, if_pos b] at h
      exfalso
      rcases hk with rfl | ⟨r, rfl⟩ <;> simp at h
    · rw [if_neg a, if_neg b] at h
      unfold quo at h
      simp only [List.cons_append, List.nil_append, List.append_assoc, List.cons.injEq, true_and] at h
      obtain ⟨h1, h2⟩ := quo_inj _ _ _ _ h
      exact ⟨⟨by simp [a, b], h1⟩, h2⟩
theorem jt_same {f g : List RF} : ∀ (l : List Str), jt [38] (l.map (item f)) = jt [38] (l.map (item g)) ↔ ∀ n ∈ l, Same f g n
  | [] => by simp
  | n :: l => by
    have ih := jt_same (f := f) (g := g) l
    rw [List.map_cons, List.map_cons, jt_cons, jt_cons, item_tx, item_tx]
    constructor
    · intro h
      simp only [List.append_assoc, List.append_cancel_left_eq] at h
      obtain ⟨h1, h2⟩ := parse (tl_jt _) (tl_jt _) h
      intro m hm
      rcases List.mem_cons.1 hm with rfl | hm
      · exact h1
      · exact ih.1 h2 m hm
    · intro h
      rw [tx_same (h n (by simp)), ih.2 fun m hm => h m (by simp [hm])]
theorem key_same {f g : List RF} (l : List Str) : key l f = key l g ↔ ∀ n ∈ l, Same f g n := by
  unfold key
  cases l with
  | nil => simp
  | cons n l =>
    rw [List.map_cons, List.map_cons, jn_cons, jn_cons, item_tx, item_tx]
    constructor
    · intro h
      simp only [List.append_assoc, List.append_cancel_left_eq] at h
      obtain ⟨h1, h2⟩ := parse (tl_jt _) (tl_jt _) h
      intro m hm
      rcases List.mem_cons.1 hm with rfl | hm
      · exact h1
      · exact (jt_same l).1 h2 m hm
    · intro h
      rw [tx_same (h n (by simp)), (jt_same l).2 fun m hm => h m (by simp [hm])]
def sameB (f g : List RF) (n : Str) : Bool := (decide (((vals f n).length : Int) > 0) == decide (((vals g n).length : Int) > 0)) && decide (jv f n = jv g n)
theorem sameB_t {f g : List RF} {n : Str} : sameB f g n = true ↔ Same f g n := by
  have e : ∀ (l : List Str), decide ((l.length : Int) > 0) = !decide (l = []) := fun l => by cases l <;> simp <;> omega
  unfold sameB Same
  rw [e, e]
  by_cases a : vals f n = [] <;> by_cases b : vals g n = [] <;> simp [a, b]
end Vary
