/- Vary: the names of all fields, both ways. -/
import Derived.Test.YtlpjmfojahofnaaDoorVaryP
set_option linter.unusedVariables false
set_option linter.unusedSimpArgs false
open Go Go.SL Go.Proofs Pl
namespace Vary
theorem compactM_t {l : List Str} (h : l.length ≤ lim) : compactM l = some (Go.Lib.compact l) := by unfold compactM; rw [if_pos h]
theorem mem_upTo (d : Array Str) : ∀ (m j : Nat), j < m → d[j]! ∈ Go.Lib.compactUpTo d m
  | 0, j, h => by omega
  | m + 1, j, h => by
    rw [Go.Lib.compactUpTo_succ]
    rcases Nat.lt_or_ge j m with q | q
    · exact List.mem_append_left _ (mem_upTo d m j q)
    · have : j = m := by omega
      subst this
      cases hk : Go.Lib.keeps d j with
      | true => simp
      | false =>
        have h2 : ¬ (j = 0 ∨ d[j]! ≠ d[j - 1]!) := by simpa [Go.Lib.keeps] using hk
        have h3 : j ≠ 0 := fun e => h2 (.inl e)
        have h4 : d[j]! = d[j - 1]! := Classical.byContradiction fun e => h2 (.inr e)
        rw [h4]
        exact List.mem_append_left _ (mem_upTo d j (j - 1) (by omega))
theorem mem_comp {l : List Str} {x : Str} : x ∈ Go.Lib.compact l ↔ x ∈ l := by
  constructor
  · intro h
    unfold Go.Lib.compact Go.Lib.compactUpTo at h
    obtain ⟨j, hj, rfl⟩ := List.mem_map.1 h
    have hj := List.mem_range.1 (List.mem_filter.1 hj).1
    have : l.toArray[j]! = l[j] := by simp [hj]
    rw [this]; exact List.getElem_mem hj
  · intro h
    obtain ⟨j, hj, rfl⟩ := List.getElem_of_mem h
    have := mem_upTo l.toArray l.length j hj
    have e : l.toArray[j]! = l[j] := by simp [hj]
    rw [e] at this; exact this
theorem texts_L0 (b : List Str) : ∀ (l pre : List Str), b = pre ++ l → base_Texts_L0 b l pre.length = some (.go ())
  | [], pre, h => by rw [base_Texts_L0]
  | x :: l, pre, h => by
    have ih := texts_L0 b l (pre ++ [x]) (by simp [h])
    rw [base_Texts_L0]
    have : ix b (pre.length : Int) = some x := by unfold ix; rw [if_pos (by omega), h]; simp
    rw [this]
    simpa using ih
theorem texts_eq {l : List Str} (h : l.length ≤ 100000000) : base_Texts l l = some true := by
  unfold base_Texts
  rw [if_neg (by simp), chk_bind (by simp only [szMax]; omega)]
  have := texts_L0 l l [] rfl
  simp only [List.length_nil] at this
  rw [this]; rfl

theorem asc_upTo {l : List Str} (hs : l.Pairwise (· ≤ ·)) : ∀ m : Nat, m ≤ l.length → (Go.Lib.compactUpTo l.toArray m).Pairwise (· < ·) ∧ ∀ a ∈ Go.Lib.compactUpTo l.toArray m, 0 < m ∧ a ≤ l.toArray[m - 1]!
  | 0, h => by
    have : Go.Lib.compactUpTo l.toArray 0 = [] := rfl
    rw [this]; exact ⟨List.Pairwise.nil, fun a ha => by cases ha⟩
  | m + 1, h => by
    obtain ⟨h1, h2⟩ := asc_upTo hs m (by omega)
    rw [Go.Lib.compactUpTo_succ]
    have hm : l.toArray[m]! = l[m] := by simp [show m < l.length by omega]
    have hle : 0 < m → l.toArray[m - 1]! ≤ l.toArray[m]! := fun h0 => by
      have e1 : l.toArray[m - 1]! = l[m - 1] := by simp [show m - 1 < l.length by omega]
      rw [hm, e1]
      exact List.pairwise_iff_getElem.1 hs (m - 1) m (by omega) (by omega) (by omega)
    simp only [Nat.add_sub_cancel]
    cases hk : Go.Lib.keeps l.toArray m with
    | true =>
      have hk2 : m = 0 ∨ l.toArray[m]! ≠ l.toArray[m - 1]! := by simpa [Go.Lib.keeps] using hk
      simp only [if_true]
      refine ⟨List.pairwise_append.2 ⟨h1, List.pairwise_singleton _ _, fun a ha b hb => ?_⟩, fun a ha => ?_⟩
      · simp only [List.mem_singleton] at hb; subst hb
        obtain ⟨h0, h3⟩ := h2 a ha
        rcases hk2 with q | q
        · omega
        · exact List.lt_of_le_of_lt h3 (lt_of (hle h0) fun e => q e.symm)
      · rcases List.mem_append.1 ha with ha | ha
        · obtain ⟨h0, h3⟩ := h2 a ha
          exact ⟨by omega, List.le_trans h3 (hle h0)⟩
        · simp only [List.mem_singleton] at ha; subst ha
          exact ⟨by omega, le_rfl'⟩
    | false =>
      simp only [Bool.false_eq_true, if_false, List.append_nil]
      exact ⟨h1, fun a ha => ⟨by omega, List.le_trans (h2 a ha).2 (hle (h2 a ha).1)⟩⟩
theorem comp_lt (l : List Str) : (Go.Lib.compact (sortS l)).Pairwise (· < ·) := (asc_upTo (sortS_le l) _ (Nat.le_refl _)).1
theorem names_L4 {z : List Str} {x : Str} {e : Int} (hz : z.length ≤ 1000000000) : ∀ (B A : List Str) (n : Nat), B.length < n → z = A ++ B → (∀ a ∈ A, a < x) →
    ∃ A' B', z = A' ++ B' ∧ ref16_Names_L4 z (x, e) n (A.length : Int) = some (A'.length : Int) ∧ (∀ a ∈ A', a < x) ∧ ∀ b r, B' = b :: r → x ≤ b
  | [], A, n + 1, hn, h, hA => by
    subst h
    refine ⟨A, [], rfl, ?_, hA, fun b r hb => by cases hb⟩
    rw [ref16_Names_L4, if_neg (by simp)]; rfl
  | b :: B, A, n + 1, hn, h, hA => by
    have hl : z.length = A.length + (B.length + 1) := by rw [h]; simp
    have hix : ix z (A.length : Int) = some b := by rw [h]; exact ix_mid A B b
    rw [ref16_Names_L4, if_pos (by simp only [decide_eq_true_eq]; omega), hix, Option.bind_some, Option.bind_some]
    simp only
    by_cases q : b < x
    · rw [bl_t.2 q, if_pos rfl, chk_bind (by constructor <;> omega)]
      have hA2 : ∀ a ∈ A ++ [b], a < x := fun a ha => by
        rcases List.mem_append.1 ha with ha | ha
        · exact hA a ha
        · rw [List.mem_singleton] at ha; subst ha; exact q
      have ih := names_L4 (e := e) hz B (A ++ [b]) n (by simp only [List.length_cons] at hn; omega) (by rw [h]; simp) hA2
      have e1 : ((A ++ [b]).length : Int) = (A.length : Int) + 1 := by simp
      rw [e1] at ih; exact ih
    · rw [bl_f.2 (List.not_lt.1 q), if_neg (by simp)]
      exact ⟨A, b :: B, h, rfl, hA, fun b' r hb => by cases hb; exact List.not_lt.1 q⟩
theorem names_L2 {n : Nat} (hn : 200000000 ≤ n) : ∀ (l : List Str) (i j : Nat) (y z : List Str), (∀ x ∈ l, x.length ≤ 100000) → y.length + l.length ≤ 100000000 → z.length ≤ y.length → z.Pairwise (· < ·) → (∀ x, x ∈ z ↔ x ∈ y) →
    (vary_Names_L2 l i y = some (Fl.ret ([], true)) ∧ ref16_Names_L2 n l j z = some (Fl.ret ([], true))) ∨
    ∃ y' z', vary_Names_L2 l i y = some (Fl.go y') ∧ ref16_Names_L2 n l j z = some (Fl.go z') ∧ y'.length ≤ y.length + l.length ∧ z'.length ≤ y'.length ∧ z'.Pairwise (· < ·) ∧ ∀ x, x ∈ z' ↔ x ∈ y'
  | [], i, j, y, z, hx, hl, hz, hp, hm => .inr ⟨y, z, rfl, rfl, by simp, hz, hp, hm⟩
  | x :: l, i, j, y, z, hx, hl, hz, hp, hm => by
    simp only [List.length_cons] at hl ⊢
    obtain ⟨o, e1, e2, he, h1, h2⟩ := name_eq (s := x) (Nat.le_trans (hx x (List.mem_cons_self ..)) (by omega))
    rw [vary_Names_L2, ref16_Names_L2, h1, h2, Option.bind_some, Option.bind_some]
    cases o with
    | none =>
      simp only
      rw [if_pos (by simp), if_pos (by simp [he])]
      exact .inl ⟨rfl, rfl⟩
    | some m =>
      simp only
      by_cases q : x = [42]
      · rw [if_pos (by simp [q]), if_pos (by simp [q])]; exact .inl ⟨rfl, rfl⟩
      · rw [if_neg (by simp [q]), if_neg (by simp [q]), chk_bind (by simp only [lim, List.length_cons, List.length_nil]; omega)]
        obtain ⟨A, B, hab, hr, hA, hB⟩ := names_L4 (z := z) (x := m) (e := 0) (by omega) z [] n (by omega) rfl (by simp)
        simp only [List.length_nil, Int.natCast_zero] at hr
        rw [hr, Option.bind_some]
        subst hab
        have hp2 := List.pairwise_append.1 hp
        have hlen : A.length + B.length ≤ y.length := by simpa using hz
        have hs1 : subL (A ++ B) (0 : Int) (A.length : Int) = A := by unfold subL; simp
        have hs2 : subL (A ++ B) (A.length : Int) ((A ++ B).length : Int) = B := by
          unfold subL
          simp only [Int.toNat_natCast, List.drop_left, List.length_append]
          exact List.take_of_length_le (by omega)
        have eY : (y ++ [m]).length = y.length + 1 := by simp
        have ins : (∀ b r, B = b :: r → b ≠ m) → (vary_Names_L2 l (i + 1) (y ++ [m]) = some (Fl.ret ([], true)) ∧ ((chk (0 ≤ (0 : Int) ∧ (0 : Int) ≤ (A.length : Int) ∧ (A.length : Int) ≤ ((A ++ B).length : Int))).bind fun _ =>
    (chk (0 ≤ (A.length : Int) ∧ (A.length : Int) ≤ ((A ++ B).length : Int) ∧ ((A ++ B).length : Int) ≤ ((A ++ B).length : Int))).bind fun _ =>
    (chk ([m].length + (subL (A ++ B) (A.length : Int) ((A ++ B).length : Int)).length ≤ lim)).bind fun _ =>
    (chk ((subL (A ++ B) (0 : Int) (A.length : Int)).length + ([m] ++ (subL (A ++ B) (A.length : Int) ((A ++ B).length : Int))).length ≤ lim)).bind fun _ =>
    ref16_Names_L2 n l (j + 1) ((subL (A ++ B) (0 : Int) (A.length : Int)) ++ ([m] ++ (subL (A ++ B) (A.length : Int) ((A ++ B).length : Int))))) = some (Fl.ret ([], true))) ∨
    ∃ y' z', vary_Names_L2 l (i + 1) (y ++ [m]) = some (Fl.go y') ∧ ((chk (0 ≤ (0 : Int) ∧ (0 : Int) ≤ (A.length : Int) ∧ (A.length : Int) ≤ ((A ++ B).length : Int))).bind fun _ =>
    (chk (0 ≤ (A.length : Int) ∧ (A.length : Int) ≤ ((A ++ B).length : Int) ∧ ((A ++ B).length : Int) ≤ ((A ++ B).length : Int))).bind fun _ =>
    (chk ([m].length + (subL (A ++ B) (A.length : Int) ((A ++ B).length : Int)).length ≤ lim)).bind fun _ =>
    (chk ((subL (A ++ B) (0 : Int) (A.length : Int)).length + ([m] ++ (subL (A ++ B) (A.length : Int) ((A ++ B).length : Int))).length ≤ lim)).bind fun _ =>
    ref16_Names_L2 n l (j + 1) ((subL (A ++ B) (0 : Int) (A.length : Int)) ++ ([m] ++ (subL (A ++ B) (A.length : Int) ((A ++ B).length : Int))))) = some (Fl.go z') ∧ y'.length ≤ y.length + (l.length + 1) ∧ z'.length ≤ y'.length ∧ z'.Pairwise (· < ·) ∧ ∀ x, x ∈ z' ↔ x ∈ y' := fun hne => by
          rw [hs1, hs2, chk_bind (by simp only [List.length_append]; omega), chk_bind (by simp only [List.length_append]; omega), chk_bind (by simp only [List.length_cons, List.length_nil, lim]; omega), chk_bind (by simp only [List.length_append, List.length_cons, List.length_nil, lim]; omega)]
          have hp' : (A ++ ([m] ++ B)).Pairwise (· < ·) := by
            refine List.pairwise_append.2 ⟨hp2.1, List.pairwise_append.2 ⟨List.pairwise_singleton _ _, hp2.2.1, fun a ha b hb => ?_⟩, fun a ha b hb => ?_⟩
            · rw [List.mem_singleton] at ha; subst ha
              cases hB' : B with
              | nil => rw [hB'] at hb; cases hb
              | cons c r =>
                have hc : a < c := lt_of (hB c r hB') fun e => hne c r hB' e.symm
                rw [hB'] at hb
                rcases List.mem_cons.1 hb with rfl | hb
                · exact hc
                · have := hp2.2.1; rw [hB'] at this
                  exact List.lt_trans hc ((List.pairwise_cons.1 this).1 b hb)
            · rcases List.mem_append.1 hb with hb | hb
              · rw [List.mem_singleton] at hb; subst hb; exact hA a ha
              · exact hp2.2.2 a ha b hb
          have ih := names_L2 hn l (i + 1) (j + 1) (y ++ [m]) (A ++ ([m] ++ B)) (fun w hw => hx w (List.mem_cons_of_mem _ hw)) (by rw [eY]; omega) (by rw [eY]; simp only [List.length_append, List.length_cons, List.length_nil]; omega) hp' (fun w => by
            have := hm w
            simp only [List.mem_append, List.mem_cons, List.not_mem_nil, or_false] at this ⊢
            constructor
            · rintro (h | h | h)
              · exact .inl (this.1 (.inl h))
              · exact .inr h
              · exact .inl (this.1 (.inr h))
            · rintro (h | h)
              · rcases this.2 h with h | h
                · exact .inl h
                · exact .inr (.inr h)
              · exact .inr (.inl h))
          rcases ih with h | ⟨y', z', g1, g2, g3, g4⟩
          · exact .inl h
          · exact .inr ⟨y', z', g1, g2, by rw [eY] at g3; omega, g4⟩
        cases hB' : B with
        | nil =>
          subst hB'
          rw [if_pos (by simp), Option.bind_some, if_pos rfl]
          exact ins fun b r h => by cases h
        | cons c r =>
          subst hB'
          rw [if_neg (by simp; omega), ix_mid A r c, Option.bind_some, Option.bind_some]
          by_cases hc : c = m
          · rw [if_neg (by simp [hc])]
            have ih := names_L2 hn l (i + 1) (j + 1) (y ++ [m]) (A ++ c :: r) (fun w hw => hx w (List.mem_cons_of_mem _ hw)) (by rw [eY]; omega) (by rw [eY]; omega) hp (fun w => by
              rw [hm w, List.mem_append, List.mem_singleton]
              refine ⟨.inl, fun h => ?_⟩
              rcases h with h | h
              · exact h
              · subst h; subst hc; exact (hm c).1 (by simp))
            rcases ih with h | ⟨y', z', g1, g2, g3, g4⟩
            · exact .inl h
            · exact .inr ⟨y', z', g1, g2, by rw [eY] at g3; omega, g4⟩
          · rw [if_pos (by simpa using hc)]
            exact ins fun b r' h => by cases h; exact hc
theorem names_L0 {n : Nat} (hn : 200000000 ≤ n) : ∀ (l : List Str) (i j : Nat) (y z : List Str), (∀ x ∈ l, x.length ≤ 10000) → y.length + l.length * 20001 ≤ 100000000 → z.length ≤ y.length → z.Pairwise (· < ·) → (∀ x, x ∈ z ↔ x ∈ y) →
    (vary_Names_L0 n l i y = some (Fl.ret ([], true)) ∧ ref16_Names_L0 n l j z = some (Fl.ret ([], true))) ∨
    ∃ y' z', vary_Names_L0 n l i y = some (Fl.go y') ∧ ref16_Names_L0 n l j z = some (Fl.go z') ∧ y'.length ≤ y.length + l.length * 20001 ∧ z'.length ≤ y'.length ∧ z'.Pairwise (· < ·) ∧ ∀ x, x ∈ z' ↔ x ∈ y'
  | [], i, j, y, z, hx, hl, hz, hp, hm => .inr ⟨y, z, rfl, rfl, by simp, hz, hp, hm⟩
  | s :: l, i, j, y, z, hx, hl, hz, hp, hm => by
    rw [List.length_cons, Nat.add_mul, Nat.one_mul] at hl ⊢
    obtain ⟨o, h1, h2, h3⟩ := list_eq (s := s) (n := n) (hx s (List.mem_cons_self ..)) (Nat.le_trans (by decide) hn)
    rw [vary_Names_L0, ref16_Names_L0, h1, h2, Option.bind_some, Option.bind_some]
    cases o with
    | none =>
      exact .inl ⟨rfl, rfl⟩
    | some k =>
      obtain ⟨g1, g2⟩ := h3 k rfl
      have hs := hx s (List.mem_cons_self ..)
      simp only [Option.isSome_none, Bool.not_true, Bool.false_eq_true, if_false]
      rw [chk_bind (by simp only [szMax]; omega), chk_bind (by simp only [szMax]; omega)]
      rcases names_L2 hn k 0 0 y z (fun x h => by have := g2 x h; omega) (by omega) hz hp hm with ⟨a1, a2⟩ | ⟨y', z', a1, a2, a3, a4, a5, a6⟩
      · rw [a1, a2]; exact .inl ⟨rfl, rfl⟩
      · rw [a1, a2, Option.bind_some, Option.bind_some, el_go, el_go]
        rcases names_L0 hn l (i + 1) (j + 1) y' z' (fun x h => hx x (List.mem_cons_of_mem _ h)) (by omega) a4 a5 a6 with h | ⟨y2, z2, b1, b2, b3, b4⟩
        · exact .inl h
        · exact .inr ⟨y2, z2, b1, b2, by omega, b4⟩
theorem names_eq {f : List RF} {n : Nat} (hn : 200000000 ≤ n) (h : tot f ≤ 3000) : ∃ r : List Str × Bool, vary_Names n (ffs f) = some r ∧ ref16_Names n f = some r ∧ r.1.length ≤ 100000000 := by
  have hv : ∀ x ∈ vals f ([118, 97, 114, 121] : Str), x.length ≤ 10000 := fun x hx => by
    have a := sumL_mem hx; have b := sumL_vals ([118, 97, 114, 121] : Str) f; omega
  have hl : (vals f ([118, 97, 114, 121] : Str)).length ≤ 3000 := by
    have a := sumL_len (vals f ([118, 97, 114, 121] : Str)); have b := sumL_vals ([118, 97, 114, 121] : Str) f; omega
  unfold vary_Names ref16_Names
  rw [fall (by omega) (by decide), rall (by omega) (by decide), Option.bind_some, Option.bind_some, chk_bind (by simp only [szMax]; omega), chk_bind (by simp only [szMax]; omega)]
  rcases names_L0 hn (vals f ([118, 97, 114, 121] : Str)) 0 0 [] [] hv (by simp only [List.length_nil]; omega) (by simp) List.Pairwise.nil (by simp) with ⟨a1, a2⟩ | ⟨y, z, a1, a2, a3, a4, a5, a6⟩
  · rw [a1, a2]; exact ⟨([], true), rfl, rfl, by simp⟩
  · simp only [List.length_nil] at a3
    rw [a1, a2, Option.bind_some, Option.bind_some, el_go, el_go, sortSM_t (by simp only [lim]; omega), Option.bind_some, compactM_t (by rw [sortS_len]; simp only [lim]; omega), Option.bind_some]
    have e : Go.Lib.compact (sortS y) = z := eq_lt (comp_lt y) a5 fun x => by rw [mem_comp, mem_sortS, a6]
    rw [e]
    exact ⟨(z, false), rfl, rfl, by simp only; omega⟩
end Vary
