/- WholeVariants: the variants, one Put behind the other. -/
import Derived.Test.YteliaeachmkiaaaDoorWvC
set_option linter.unusedVariables false
set_option linter.unusedSimpArgs false
open Go Go.SL Go.Proofs Pl
namespace Vary
theorem btexts_L0 {b : List Str} : ∀ (r q : List Str) (i : Nat), b.drop i = q → q.length = r.length → base_Texts_L0 b r i = some (if r = q then Fl.go () else Fl.ret false)
  | [], q, i, hq, hl => by
    have : q = [] := List.length_eq_zero_iff.1 hl
    subst this; rfl
  | x :: r, [], i, hq, hl => by simp at hl
  | x :: r, y :: q, i, hq, hl => by
    obtain ⟨h1, h2⟩ := ix_dropped hq
    rw [base_Texts_L0, h1, Option.bind_some]
    by_cases k : x = y
    · rw [if_neg (by simpa using k), btexts_L0 r q (i + 1) h2 (by simpa using hl)]
      subst k; simp
    · rw [if_pos (by simpa using k)]; simp [k]
theorem btexts_eq {a b : List Str} (h : a.length ≤ 1000000) : base_Texts a b = some (decide (a = b)) := by
  unfold base_Texts
  by_cases k : a.length = b.length
  · rw [if_neg (by simp; omega), chk_bind (by simp only [szMax]; omega), btexts_L0 a b 0 rfl k.symm, Option.bind_some]
    by_cases e : a = b
    · rw [if_pos e]; simp [e, Fl.el]
    · rw [if_neg e]; simp [e, Fl.el]
  · rw [if_pos (by simp; omega)]
    have : a ≠ b := fun e => k (by rw [e])
    simp [this]
def gn (m : List (Int × Bool)) (j : Int) : Bool := (mget m j).getD false
def addG (g : List Int) (m : List (Int × Bool)) : List (Int × Bool) := g.foldl (fun m e => mset m e true) m
theorem wv_L6 : ∀ (g : List Int) (i : Nat) (m : List (Int × Bool)), quaysidetop_WholeVariants_L6 g i m = some (addG g m)
  | [], i, m => rfl
  | e :: g, i, m => by rw [quaysidetop_WholeVariants_L6, wv_L6 g (i + 1)]; rfl
theorem gn_add : ∀ (g : List Int) (m : List (Int × Bool)) (j : Int), gn (addG g m) j = (gn m j || decide (j ∈ g))
  | [], m, j => by simp [addG]
  | e :: g, m, j => by
    have h1 : addG (e :: g) m = addG g (mset m e true) := rfl
    rw [h1, gn_add g (mset m e true) j]
    have h2 : gn (mset m e true) j = (gn m j || decide (j = e)) := by
      unfold gn
      by_cases k : e = j
      · subst k; rw [mget_mset, if_pos rfl]; simp
      · rw [mget_mset, if_neg k]; simp [show ¬ j = e from fun h => k h.symm]
    rw [h2]
    by_cases k : j = e
    · simp [k]
    · simp [k]
def alive (vs : List Vt) (m : List (Int × Bool)) : List Vt := vs.reverse.filter fun v => !gn m v.id
structure WInv (S : List (List RF)) (vs : List Vt) (m : List (Int × Bool)) : Prop where
  id : ∀ (j : Nat) v, vs[j]? = some v → v.id = (j : Int)
  ks : ∀ (j : Nat) v f, vs[j]? = some v → S[j]? = some f → v.key = key v.names f
  sm : ∀ v ∈ vs, sumL v.names ≤ 1000
  gone : ∀ j : Int, gn m j = true → ∃ (a b : Nat) (v w : Vt), (a : Int) = j ∧ a < b ∧ vs[a]? = some v ∧ vs[b]? = some w ∧ v.names = w.names ∧ v.key = w.key
theorem alive_mem {vs : List Vt} {m : List (Int × Bool)} {v : Vt} (h : v ∈ alive vs m) : v ∈ vs ∧ gn m v.id = false := by
  have h := List.mem_filter.1 h
  exact ⟨List.mem_reverse.1 h.1, by simpa using h.2⟩
theorem WInv.put {S : List (List RF)} {vs : List Vt} {m : List (Int × Bool)} {l : List Str} {f : List RF} {n : Nat} (h : WInv S vs m) (hn : 100 ≤ n) (hvl : vs.length ≤ 12) (hl : sumL l ≤ 1000) (hf : S[vs.length]? = some f) (gf : GoodF f) :
    ∃ g, vary_Set_Put n ⟨alive vs m⟩ l f (vs.length : Int) = some (g, ⟨alive (vs ++ [⟨l, key l f, (vs.length : Int)⟩]) (addG g m)⟩) ∧ g.length ≤ 12 ∧ WInv S (vs ++ [⟨l, key l f, (vs.length : Int)⟩]) (addG g m) := by
  have ha : (alive vs m).length ≤ vs.length := by unfold alive; have := List.length_filter_le (fun v : Vt => !gn m v.id) vs.reverse; rwa [List.length_reverse] at this
  have idx : ∀ v ∈ vs, ∃ j : Nat, j < vs.length ∧ vs[j]? = some v ∧ v.id = (j : Int) := fun v hv => by
    obtain ⟨j, hj, e⟩ := List.getElem_of_mem hv
    have e2 : vs[j]? = some v := by rw [List.getElem?_eq_getElem hj, e]
    exact ⟨j, hj, e2, h.id j v e2⟩
  have hp := put_eq (n := n) (l := alive vs m) (names := l) (f := f) (id := (vs.length : Int)) hn (by omega) (fun v hv => Nat.le_trans (sumL_len _) (Nat.le_trans (h.sm v (alive_mem hv).1) (by omega))) hl (tot_good gf)
  rw [ffs_id] at hp
  have hpl : (putL (alive vs m) l (key l f) (vs.length : Int)).length ≤ 13 := by
    unfold putL; rw [List.length_cons]
    have := List.length_filter_le (stay (vs.length : Int) (key l f) l) (alive vs m); omega
  rw [List.take_of_length_le (by omega)] at hp
  have hg : goneL (alive vs m) l (key l f) (vs.length : Int) = ((alive vs m).filter (out (vs.length : Int) (key l f) l)).map (·.id) := by
    unfold goneL; rw [List.drop_of_length_le (by omega)]; simp
  rw [hg] at hp
  generalize hgg : ((alive vs m).filter (out (vs.length : Int) (key l f) l)).map (·.id) = g at hp
  have hne : ∀ v ∈ vs, v.id ≠ (vs.length : Int) := fun v hv => by obtain ⟨j, hj, _, e⟩ := idx v hv; omega
  have gmem : ∀ v ∈ vs, (v.id ∈ g ↔ gn m v.id = false ∧ same (key l f) l v = true) := fun v hv => by
    rw [← hgg, List.mem_map]
    constructor
    · rintro ⟨u, hu, e⟩
      obtain ⟨hu1, hu2⟩ := List.mem_filter.1 hu
      obtain ⟨hu3, hu4⟩ := alive_mem hu1
      obtain ⟨a, _, a1, a2⟩ := idx u hu3
      obtain ⟨b, _, b1, b2⟩ := idx v hv
      have : a = b := by omega
      subst this
      rw [a1] at b1; cases b1
      exact ⟨hu4, by unfold out at hu2; rw [Bool.and_eq_true] at hu2; exact hu2.2⟩
    · rintro ⟨h1, h2⟩
      refine ⟨v, List.mem_filter.2 ⟨List.mem_filter.2 ⟨List.mem_reverse.2 hv, by simp [h1]⟩, ?_⟩, rfl⟩
      unfold out; rw [h2]; simp [hne v hv]
  have gin : ∀ j ∈ g, ∃ v ∈ vs, v.id = j := fun j hj => by
    rw [← hgg, List.mem_map] at hj
    obtain ⟨u, hu, e⟩ := hj
    exact ⟨u, (alive_mem (List.mem_filter.1 hu).1).1, e⟩
  have g0 : gn m (vs.length : Int) = false := by
    cases q : gn m (vs.length : Int) with
    | false => rfl
    | true =>
      obtain ⟨a, b, v, w, e, _, hv, _⟩ := h.gone _ q
      have := (List.getElem?_eq_some_iff.1 hv).1
      omega
  have g1 : gn (addG g m) (vs.length : Int) = false := by
    rw [gn_add, g0, Bool.false_or, decide_eq_false]
    intro hj
    obtain ⟨v, hv, e⟩ := gin _ hj
    exact hne v hv e
  have hal : putL (alive vs m) l (key l f) (vs.length : Int) = alive (vs ++ [⟨l, key l f, (vs.length : Int)⟩]) (addG g m) := by
    unfold putL alive
    rw [List.reverse_append, List.reverse_singleton, List.singleton_append, List.filter_cons, if_pos (by simp [g1]), List.filter_filter]
    congr 1
    refine List.filter_congr fun w hw => ?_
    have hw := List.mem_reverse.1 hw
    rw [gn_add]
    have hm := gmem w hw
    unfold stay
    rw [decide_eq_false (hne w hw)]
    cases q : gn m w.id with
    | true => simp
    | false =>
      cases q2 : same (key l f) l w with
      | true => rw [decide_eq_true (hm.2 ⟨q, q2⟩)]; rfl
      | false => rw [decide_eq_false fun hc => by have := (hm.1 hc).2; rw [q2] at this; cases this]; rfl
  rw [hal] at hp
  refine ⟨g, hp, ?_, ⟨fun j v hv => ?_, fun j v f' hv hf' => ?_, fun v hv => ?_, fun j hj => ?_⟩⟩
  · rw [← hgg, List.length_map]
    have := List.length_filter_le (out (vs.length : Int) (key l f) l) (alive vs m); omega
  · rw [List.getElem?_append] at hv
    split at hv
    · exact h.id j v hv
    · rename_i q
      have : j = vs.length := by
        rcases Nat.lt_or_ge (j - vs.length) 1 with q2 | q2
        · omega
        · rw [List.getElem?_eq_none (by simpa using q2)] at hv; cases hv
      subst this
      simp at hv; rw [← hv]
  · rw [List.getElem?_append] at hv
    split at hv
    · exact h.ks j v f' hv hf'
    · rename_i q
      have : j = vs.length := by
        rcases Nat.lt_or_ge (j - vs.length) 1 with q2 | q2
        · omega
        · rw [List.getElem?_eq_none (by simpa using q2)] at hv; cases hv
      subst this
      rw [hf] at hf'; cases hf'
      simp at hv; rw [← hv]
  · rcases List.mem_append.1 hv with hv | hv
    · exact h.sm v hv
    · rw [List.mem_singleton] at hv; subst hv; exact hl
  · rw [gn_add, Bool.or_eq_true] at hj
    rcases hj with hj | hj
    · obtain ⟨a, b, v, w, e, hab, hv, hw, h1, h2⟩ := h.gone j hj
      exact ⟨a, b, v, w, e, hab, by rw [List.getElem?_append_left (List.getElem?_eq_some_iff.1 hv).1]; exact hv, by rw [List.getElem?_append_left (List.getElem?_eq_some_iff.1 hw).1]; exact hw, h1, h2⟩
    · obtain ⟨v, hv, e⟩ := gin j (of_decide_eq_true hj)
      obtain ⟨a, ha1, ha2, ha3⟩ := idx v hv
      have hs := ((gmem v hv).1 (by rw [e]; exact of_decide_eq_true hj)).2
      unfold same at hs
      rw [Bool.and_eq_true] at hs
      refine ⟨a, vs.length, v, _, by omega, ha1, by rw [List.getElem?_append_left ha1]; exact ha2, by simp; rfl, of_decide_eq_true hs.2, of_decide_eq_true hs.1⟩
end Vary
