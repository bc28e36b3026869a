/- WholeVariants: two requests agree in a field exactly if its normalized values are the same. -/
import Derived.Test.YteliaeachmkiaaaDoorWvA
set_option linter.unusedVariables false
set_option linter.unusedSimpArgs false
open Go Go.SL Go.Proofs Pl
namespace Vary
theorem squeezed_L0 : ∀ (s : Str) (i : Nat) (y : Str) (b : Bool), ctl s = false → y.length + 2 * s.length ≤ 1000000 →
    quaysidetop_squeezed_L0 s i y (b && decide ((y.length : Int) > 0)) = some ((s.foldl nst (y, b)).1, ((s.foldl nst (y, b)).2 && decide (((s.foldl nst (y, b)).1.length : Int) > 0)))
  | [], i, y, b, _, _ => rfl
  | c :: s, i, y, b, hc, hl => by
    have e : ctl (c :: s) = (((decide ((c.toNat : Int) < 32) && decide ((c.toNat : Int) ≠ 9)) || decide ((c.toNat : Int) = 127)) || ctl s) := rfl
    rw [e, Bool.or_eq_false_iff] at hc
    simp only [List.length_cons] at hl
    have e2 : (if decide ((c.toNat : Int) = 32) = true then some true else some (decide ((c.toNat : Int) = 9))) = some (isB c) := by
      unfold isB; cases decide ((c.toNat : Int) = 32) <;> simp
    rw [quaysidetop_squeezed_L0, e2, Option.bind_some, List.foldl_cons]
    cases q : isB c with
    | true =>
      have : nst (y, b) c = (y, true) := by unfold nst; rw [if_pos q]
      rw [if_pos rfl, this]
      have := squeezed_L0 s (i + 1) y true hc.2 (by omega)
      rw [Bool.true_and] at this; exact this
    | false =>
      have hcl : cl c = c := by
        unfold cl
        obtain ⟨n1, n2⟩ := isB_f.1 q
        have h1 := Bool.or_eq_false_iff.1 hc.1
        have h3 : ¬ ((c.toNat : Int) = 127) := by simpa using h1.2
        have h4 : ¬ ((c.toNat : Int) < 32) := by
          intro h5
          have := h1.1
          rw [decide_eq_true h5, Bool.true_and] at this
          have : (c.toNat : Int) = 9 := by simpa using this
          omega
        rw [decide_eq_false h3, decide_eq_false h4]; rfl
      have hn : nst (y, b) c = (rel y b ++ [c], false) := by unfold nst; rw [if_neg (by simp [q]), hcl]
      rw [if_neg (by simp), hn]
      have hr := rel_len y b
      have ih := squeezed_L0 s (i + 1) (rel y b ++ [c]) false hc.2 (by simp only [List.length_append, List.length_cons, List.length_nil]; omega)
      rw [Bool.false_and] at ih
      unfold rel at ih ⊢
      cases q2 : (b && decide ((y.length : Int) > 0)) with
      | true =>
        rw [q2, if_pos rfl] at ih
        rw [if_pos rfl, if_pos rfl, chk_bind (by simp only [lim, List.length_cons, List.length_nil]; omega), chk_bind (by simp only [lim, List.length_append, List.length_cons, List.length_nil]; omega)]
        exact ih
      | false =>
        rw [q2, if_neg (by simp)] at ih
        rw [if_neg (by simp), if_neg (by simp), chk_bind (by simp only [lim, List.length_cons, List.length_nil]; omega)]
        exact ih
theorem squeezed_eq {s : Str} (h : GoodV s) : quaysidetop_squeezed s = some (norm s) := by
  unfold quaysidetop_squeezed
  have := squeezed_L0 s 0 [] false h.2.2 (by have := h.1; simp only [List.length_nil]; omega)
  rw [Bool.false_and] at this
  rw [chk_bind (by have := h.1; simp only [szMax]; omega), this]; rfl
theorem alike_L0 {b : List Str} : ∀ (r q : List Str) (i : Nat), b.drop i = q → q.length = r.length → (∀ s ∈ r, GoodV s) → (∀ s ∈ q, GoodV s) → quaysidetop_alike_L0 b r i = some (if r.map norm = q.map norm then Fl.go () else Fl.ret false)
  | [], q, i, _, hl, _, _ => by
    have : q = [] := List.eq_nil_of_length_eq_zero hl
    subst this; rfl
  | x :: r, q, i, hd, hl, h1, h2 => by
    cases q with
    | nil => cases hl
    | cons y q =>
      obtain ⟨e1, e2⟩ := ix_dropped hd
      rw [quaysidetop_alike_L0, squeezed_eq (h1 x (List.mem_cons_self ..)), Option.bind_some, e1, Option.bind_some, squeezed_eq (h2 y (List.mem_cons_self ..)), Option.bind_some, List.map_cons, List.map_cons]
      by_cases k : norm x = norm y
      · rw [if_neg (by simpa using k), alike_L0 r q (i + 1) e2 (by simpa using hl) (fun s hs => h1 s (List.mem_cons_of_mem _ hs)) (fun s hs => h2 s (List.mem_cons_of_mem _ hs))]
        simp [k]
      · rw [if_pos (by simpa using k), if_neg (by intro h; exact k (List.cons.inj h).1)]
theorem vals_good {f : List RF} (h : GoodF f) (n : Str) : ∀ s ∈ vals f n, GoodV s := fun s hs => by
  unfold vals at hs
  obtain ⟨x, hx, rfl⟩ := List.mem_map.1 hs
  exact (h.2 x (List.mem_filter.1 hx).1).2
def nvals (f : List RF) (n : Str) : List Str := (vals f n).map norm
theorem alike_eq {f g : List RF} {n : Str} (hf : GoodF f) (hg : GoodF g) (hn : n.length ≤ 1000000) : quaysidetop_alike f g n = some (decide (nvals f n = nvals g n)) := by
  have a1 : field_All f n = some (vals f n) := by have := fall (f := f) (n := n) (by have := tot_good hf; omega) hn; rwa [ffs_id] at this
  have a2 : field_All g n = some (vals g n) := by have := fall (f := g) (n := n) (by have := tot_good hg; omega) hn; rwa [ffs_id] at this
  unfold quaysidetop_alike
  rw [a1, a2, Option.bind_some, Option.bind_some]
  by_cases k : (vals f n).length = (vals g n).length
  · have hl : (vals f n).length ≤ tot f := Nat.le_trans (sumL_len _) (sumL_vals n f)
    have := tot_good hf
    rw [if_neg (by simp [k]), chk_bind (by simp only [szMax]; omega), alike_L0 (b := vals g n) (vals f n) (vals g n) 0 rfl k.symm (vals_good hf n) (vals_good hg n), Option.bind_some]
    unfold nvals
    by_cases q : (vals f n).map norm = (vals g n).map norm
    · rw [if_pos q, decide_eq_true q]; rfl
    · rw [if_neg q, decide_eq_false q]; rfl
  · rw [if_pos (by simpa using fun h => k (by omega)), decide_eq_false]
    intro q
    have := congrArg List.length q
    unfold nvals at this
    rw [List.length_map, List.length_map] at this
    exact k this
theorem cl_nc {c : UInt8} (h : c.toNat ≠ 44) : (cl c).toNat ≠ 44 := by
  unfold cl; split
  · decide
  · exact h
theorem norm_nc : ∀ (s : Str) (y : Str) (b : Bool), comma s = false → (∀ c ∈ y, c.toNat ≠ 44) → ∀ c ∈ (s.foldl nst (y, b)).1, c.toNat ≠ 44
  | [], y, b, _, h => h
  | c :: s, y, b, hc, h => by
    have e : comma (c :: s) = (decide ((c.toNat : Int) = 44) || comma s) := rfl
    rw [e, Bool.or_eq_false_iff] at hc
    rw [List.foldl_cons]
    unfold nst
    split
    · exact norm_nc s y true hc.2 h
    · refine norm_nc s _ false hc.2 fun d hd => ?_
      simp only at hd
      rcases List.mem_append.1 hd with hd | hd
      · unfold rel at hd
        split at hd
        · rcases List.mem_append.1 hd with hd | hd
          · exact h d hd
          · rw [List.mem_singleton] at hd; subst hd; decide
        · exact h d hd
      · rw [List.mem_singleton] at hd; subst hd
        exact cl_nc (by have := of_decide_eq_false hc.1; omega)
theorem jt_cut {x y r t : Str} (hx : ∀ c ∈ x, c.toNat ≠ 44) (hy : ∀ c ∈ y, c.toNat ≠ 44) (hr : r = [] ∨ ∃ r', r = 44 :: r') (ht : t = [] ∨ ∃ t', t = 44 :: t') (h : x ++ r = y ++ t) : x = y ∧ r = t := by
  induction x generalizing y with
  | nil =>
    cases y with
    | nil => exact ⟨rfl, h⟩
    | cons d y =>
      exfalso
      rw [List.nil_append, List.cons_append] at h
      rcases hr with rfl | ⟨r', rfl⟩
      · cases h
      · have := (List.cons.inj h).1
        exact hy d (List.mem_cons_self ..) (by rw [← this]; rfl)
  | cons c x ih =>
    cases y with
    | nil =>
      exfalso
      rw [List.nil_append, List.cons_append] at h
      rcases ht with rfl | ⟨t', rfl⟩
      · cases h
      · have := (List.cons.inj h).1
        exact hx c (List.mem_cons_self ..) (by rw [this]; rfl)
    | cons d y =>
      rw [List.cons_append, List.cons_append] at h
      obtain ⟨h1, h2⟩ := List.cons.inj h
      obtain ⟨h3, h4⟩ := ih (fun c hc => hx c (List.mem_cons_of_mem _ hc)) (fun c hc => hy c (List.mem_cons_of_mem _ hc)) h2
      exact ⟨by rw [h1, h3], h4⟩
theorem jt_tl (l : List Str) : jt [44] l = [] ∨ ∃ r', jt [44] l = 44 :: r' := by
  cases l with
  | nil => exact .inl rfl
  | cons x l => exact .inr ⟨x ++ jt [44] l, by rw [jt_cons]; simp⟩
theorem jt_inj : ∀ (l k : List Str), (∀ x ∈ l, ∀ c ∈ x, c.toNat ≠ 44) → (∀ x ∈ k, ∀ c ∈ x, c.toNat ≠ 44) → jt [44] l = jt [44] k → l = k
  | [], [], _, _, _ => rfl
  | [], y :: k, _, _, h => by rw [jt_nil, jt_cons] at h; simp at h
  | x :: l, [], _, _, h => by rw [jt_nil, jt_cons] at h; simp at h
  | x :: l, y :: k, hl, hk, h => by
    rw [jt_cons, jt_cons, List.append_assoc, List.append_assoc] at h
    have h := List.append_cancel_left h
    obtain ⟨h1, h2⟩ := jt_cut (hl x (List.mem_cons_self ..)) (hk y (List.mem_cons_self ..)) (jt_tl l) (jt_tl k) h
    rw [h1, jt_inj l k (fun z hz => hl z (List.mem_cons_of_mem _ hz)) (fun z hz => hk z (List.mem_cons_of_mem _ hz)) h2]
theorem jn_inj {l k : List Str} (hl : ∀ x ∈ l, ∀ c ∈ x, c.toNat ≠ 44) (hk : ∀ x ∈ k, ∀ c ∈ x, c.toNat ≠ 44) (hn : l = [] ↔ k = []) (h : jn l [44] = jn k [44]) : l = k := by
  cases l with
  | nil => rw [hn.1 rfl]
  | cons x l =>
    cases k with
    | nil => exact absurd (hn.2 rfl) (by simp)
    | cons y k =>
      rw [jn_cons, jn_cons] at h
      obtain ⟨h1, h2⟩ := jt_cut (hl x (List.mem_cons_self ..)) (hk y (List.mem_cons_self ..)) (jt_tl l) (jt_tl k) h
      rw [h1, jt_inj l k (fun z hz => hl z (List.mem_cons_of_mem _ hz)) (fun z hz => hk z (List.mem_cons_of_mem _ hz)) h2]
theorem same_nvals {f g : List RF} {n : Str} (hf : GoodF f) (hg : GoodF g) : Same f g n ↔ nvals f n = nvals g n := by
  have nc : ∀ {f : List RF}, GoodF f → ∀ x ∈ nvals f n, ∀ c ∈ x, c.toNat ≠ 44 := fun {f} hf x hx => by
    unfold nvals at hx
    obtain ⟨s, hs, rfl⟩ := List.mem_map.1 hx
    exact norm_nc s [] false (vals_good hf n s hs).2.1 (by simp)
  have en : ∀ {f : List RF}, nvals f n = [] ↔ vals f n = [] := fun {f} => by unfold nvals; exact List.map_eq_nil_iff
  constructor
  · rintro ⟨h1, h2⟩
    exact jn_inj (nc hf) (nc hg) (by rw [en, en]; exact h1) h2
  · intro h
    refine ⟨by rw [← en, ← en, h], ?_⟩
    unfold jv
    exact congrArg (fun l => jn l [44]) h
/-- The key of the names is the same exactly if all of them agree. -/
theorem key_agree {f g : List RF} (hf : GoodF f) (hg : GoodF g) (l : List Str) : decide (key l f = key l g) = l.all fun n => decide (nvals f n = nvals g n) := by
  rw [Bool.eq_iff_iff, List.all_eq_true, decide_eq_true_iff, key_same]
  exact ⟨fun h n hn => decide_eq_true ((same_nvals hf hg).1 (h n hn)), fun h n hn => (same_nvals hf hg).2 (of_decide_eq_true (h n hn))⟩
end Vary
