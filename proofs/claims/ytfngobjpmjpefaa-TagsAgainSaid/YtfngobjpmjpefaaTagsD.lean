/- Clean: both scans keep the same words. -/
import Derived.Test.YtfngobjpmjpefaaTagsC
set_option linter.unusedVariables false
set_option linter.unusedSimpArgs false
open Go Go.SL Go.Proofs Pl
namespace Tags
theorem sorted_L0 {l : List Str} {n : Nat} (hl : l.length ≤ 3000) (hn : l.length + 2 ≤ n) : ∀ (r : List Str) (i m : Nat) (out : List Str), l.drop i = r → i + r.length = l.length → r.length < m → out.Pairwise (· < ·) → out.length ≤ i →
    ∃ out' y, ref35_Sorted_L0 l n m out (i : Int) = some (out', y) ∧ out'.Pairwise (· < ·) ∧ ∀ x, x ∈ out' ↔ x ∈ out ∨ x ∈ r
  | [], i, m + 1, out, hd, hi, hm, hp, ho => by
    simp only [List.length_nil, Nat.add_zero] at hi
    rw [ref35_Sorted_L0, if_neg (by simp; omega)]
    exact ⟨out, _, rfl, hp, by simp⟩
  | x :: r, i, m + 1, out, hd, hi, hm, hp, ho => by
    obtain ⟨hix, hdr, hil⟩ := ix_drop hd
    simp only [List.length_cons] at hi hm
    have e1 : ((i : Int) + 1) = ((i + 1 : Nat) : Int) := by omega
    rw [ref35_Sorted_L0, if_pos (by simp; omega), hix, Option.bind_some, has_eq x (by omega) (by omega), Option.bind_some]
    by_cases hx : x ∈ out
    · obtain ⟨out', y, e, h1, h2⟩ := sorted_L0 hl hn r (i + 1) m out hdr (by omega) (by omega) hp (by omega)
      rw [if_pos (by simpa using hx), chk_bind (by constructor <;> omega), e1, e]
      refine ⟨out', y, rfl, h1, fun z => ?_⟩
      rw [h2, List.mem_cons]
      constructor
      · rintro (h | h)
        · exact .inl h
        · exact .inr (.inr h)
      · rintro (h | h | h)
        · exact .inl h
        · subst h; exact .inl hx
        · exact .inr h
    · obtain ⟨A, B, hab, hr, hA, hB⟩ := sorted_L2 hix out [] n (by omega) (by simp; omega) (by simp) (by simpa using hp)
      simp only [List.append_nil] at hab hr
      subst hab
      have hp2 := List.pairwise_append.1 hp
      have hA' : ∀ a ∈ A, a < x := fun a ha => lt_of (hA a ha) fun e => hx (by subst e; simp [ha])
      have hlen : A.length + B.length ≤ 3000 := by simp at ho; omega
      have hs1 : subL (A ++ B) (0 : Int) (A.length : Int) = A := by unfold subL; simp
      have hs2 : subL (A ++ B) (A.length : Int) ((A ++ B).length : Int) = B := by
        unfold subL
        simp only [Int.toNat_natCast, List.drop_left, List.length_append]
        exact List.take_of_length_le (by omega)
      have hp' : (A ++ [x] ++ B).Pairwise (· < ·) := by
        refine List.pairwise_append.2 ⟨List.pairwise_append.2 ⟨hp2.1, List.pairwise_singleton _ _, fun a ha b hb => by simp at hb; subst hb; exact hA' a ha⟩, hp2.2.1, fun a ha b hb => ?_⟩
        rcases List.mem_append.1 ha with ha | ha
        · exact hp2.2.2 a ha b hb
        · simp at ha; subst ha; exact hB b hb
      obtain ⟨out', y, e, h1, h2⟩ := sorted_L0 hl hn r (i + 1) m (A ++ [x] ++ B) hdr (by omega) (by omega) hp' (by simp at ho ⊢; omega)
      rw [if_neg (by simpa using hx), hr, Option.bind_some]
      rw [chk_bind (by simp only [List.length_append]; omega), hs1, hs2, chk_bind (by simp only [lim]; omega), Option.bind_some, chk_bind (by simp only [List.length_cons, List.length_nil, lim]; omega), chk_bind (by simp only [List.length_append]; omega), chk_bind (by simp only [List.length_append, List.length_cons, List.length_nil, lim]; omega), chk_bind (by constructor <;> omega), e1, e]
      refine ⟨out', y, rfl, h1, fun z => ?_⟩
      rw [h2]
      simp only [List.mem_append, List.mem_cons, List.not_mem_nil, or_false]
      constructor
      · rintro (((h | h) | h) | h) <;> simp [h]
      · rintro ((h | h) | h | h) <;> simp [h]
theorem sorted_eq {l : List Str} {n : Nat} (hl : l.length ≤ 3000) (hn : l.length + 2 ≤ n) : ∃ out, ref35_Sorted n l = some out ∧ out.Pairwise (· < ·) ∧ ∀ x, x ∈ out ↔ x ∈ l := by
  obtain ⟨out, y, e, h1, h2⟩ := sorted_L0 hl hn l 0 n [] rfl (by simp) (by omega) List.Pairwise.nil (by simp)
  simp only [Int.natCast_zero] at e
  refine ⟨out, ?_, h1, fun x => by rw [h2]; simp⟩
  unfold ref35_Sorted; rw [e]; rfl
/-! ### what is kept of the words -/
def run : List Str → List Str → Option (List Str)
  | o, [] => some o
  | o, w :: ws => if good w then run (if decide (o.length < 16) && !decide (w ∈ o) then o ++ [w] else o) ws else none
theorem run_in : ∀ (ws o : List Str) {r : List Str}, run o ws = some r → o.Nodup → o.length ≤ 16 → r.Nodup ∧ r.length ≤ 16
  | [], o, r, h, hn, hl => by simp [run] at h; subst h; exact ⟨hn, hl⟩
  | w :: ws, o, r, h, hn, hl => by
    unfold run at h
    split at h
    · refine run_in ws _ h ?_ ?_
      · split
        · rename_i q
          simp only [Bool.and_eq_true, decide_eq_true_eq, Bool.not_eq_true', decide_eq_false_iff_not] at q
          exact List.nodup_append.2 ⟨hn, by simp, fun a ha b hb => by simp at hb; subst hb; exact fun e => q.2 (e ▸ ha)⟩
        · exact hn
      · split
        · rename_i q; simp at q; simp; omega
        · exact hl
    · cases h
theorem wd_run : ∀ (r w : Str), w ≠ [] → wd w r = (w ++ r.takeWhile fun c => !sp c) :: wd [] (r.dropWhile fun c => !sp c)
  | [], w, h => by simp [wd, h]
  | c :: r, w, h => by
    cases hc : sp c
    · rw [wd, if_neg (by simp [hc]), wd_run r (w ++ [c]) (by simp)]
      simp [hc]
    · simp [wd, hc, h]
theorem wd_cons {c : UInt8} {r : Str} (hc : sp c = false) : wd [] (c :: r) = ((c :: r).takeWhile fun c => !sp c) :: wd [] ((c :: r).dropWhile fun c => !sp c) := by
  rw [wd, if_neg (by simp [hc]), wd_run r _ (by simp)]
  simp [hc]
theorem cond_sp (c : UInt8) : (if decide ((c.toNat : Int) = 32) = true then some true else some (decide ((c.toNat : Int) = 9))) = some (sp c) := by
  unfold sp; by_cases h : (c.toNat : Int) = 32 <;> simp [h]
theorem cond_nsp (c : UInt8) : (if decide ((c.toNat : Int) ≠ 32) = true then some (decide ((c.toNat : Int) ≠ 9)) else some false) = some (!sp c) := by
  unfold sp; by_cases h : (c.toNat : Int) = 32 <;> simp [h]
theorem clean_L2 (s : Str) (hs : s.length ≤ 20000) : ∀ (r : Str) (i n : Nat), s.drop i = r → i + r.length = s.length → r.length < n → tags_Clean_L2 s n (i : Int) = some ((i + (r.takeWhile fun c => !sp c).length : Nat) : Int)
  | [], i, n + 1, hd, hi, hn => by
    simp only [List.length_nil, Nat.add_zero] at hi
    have h1 : ¬ ((i : Int) < (s.length : Int)) := by omega
    rw [tags_Clean_L2]
    simp only [h1, decide_false, Bool.false_eq_true, if_false, Option.bind_some]
    simp
  | c :: r, i, n + 1, hd, hi, hn => by
    obtain ⟨hix, hdr, hil⟩ := ix_drop hd
    simp only [List.length_cons] at hi hn
    have h1 : (i : Int) < (s.length : Int) := by omega
    rw [tags_Clean_L2]
    simp only [h1, decide_true, if_true, hix, Option.bind_some]
    rw [cond_nsp, Option.bind_some]
    cases hc : sp c
    · simp only [Bool.not_false, if_true]
      rw [chk_bind (by constructor <;> omega), show ((i : Int) + 1) = ((i + 1 : Nat) : Int) from by omega, clean_L2 s hs r (i + 1) n hdr (by omega) (by omega)]
      simp only [List.takeWhile_cons, hc, Bool.not_false, if_true, List.length_cons]
      congr 1; omega
    · simp [hc]
theorem clean_L0 {s : Str} {n : Nat} (hs : s.length ≤ 20000) (hn : s.length + 2 ≤ n) : ∀ (k : Nat) (r : Str) (i m : Nat) (o : List Str), r.length ≤ k → s.drop i = r → i + r.length = s.length → r.length < m → o.length ≤ 16 →
    ∃ y, tags_Clean_L0 s n m o (i : Int) = some (match run o (wd [] r) with | some o' => .go (o', y) | none => .ret ([], some 2)) := by
  intro k
  induction k with
  | zero =>
    intro r i m o hk hd hi hm ho
    have : r = [] := List.eq_nil_of_length_eq_zero (by omega)
    subst this
    obtain ⟨m, rfl⟩ : ∃ q, m = q + 1 := ⟨m - 1, by omega⟩
    simp only [List.length_nil, Nat.add_zero] at hi
    rw [tags_Clean_L0, if_neg (by simp; omega)]
    exact ⟨_, rfl⟩
  | succ k ih =>
    intro r i m o hk hd hi hm ho
    obtain ⟨m, rfl⟩ : ∃ q, m = q + 1 := ⟨m - 1, by omega⟩
    cases r with
    | nil =>
      simp only [List.length_nil, Nat.add_zero] at hi
      rw [tags_Clean_L0, if_neg (by simp; omega)]
      exact ⟨_, rfl⟩
    | cons c r =>
      obtain ⟨hix, hdr, hil⟩ := ix_drop hd
      have hlen := hi
      simp only [List.length_cons] at hk hi hm
      rw [tags_Clean_L0, if_pos (by simp; omega)]
      simp only [hix, Option.bind_some]
      rw [cond_sp, Option.bind_some]
      cases hc : sp c
      · simp only [Bool.false_eq_true, if_false]
        rw [clean_L2 s hs (c :: r) i n hd hlen (by simp; omega), Option.bind_some]
        generalize hT : (c :: r).takeWhile (fun c => !sp c) = T
        generalize hD : (c :: r).dropWhile (fun c => !sp c) = D
        have htd : c :: r = T ++ D := by rw [← hT, ← hD]; exact List.takeWhile_append_dropWhile.symm
        have hTne : 1 ≤ T.length := by rw [← hT]; simp [hc]
        have hl : T.length + D.length = r.length + 1 := by have := congrArg List.length htd; simp at this; omega
        have hsub : subL s (i : Int) ((i + T.length : Nat) : Int) = T := by
          unfold subL
          rw [Int.toNat_natCast, hd, htd, show (((i + T.length : Nat) : Int) - (i : Int)).toNat = T.length from by omega]; simp
        have hdD : s.drop (i + T.length) = D := by rw [← List.drop_drop, hd, htd]; simp
        rw [chk_bind (by omega), hsub, good_eq (by omega), Option.bind_some, wd_cons hc, hT, hD, run]
        cases hg : good T
        · simp only [Bool.not_false, if_true, Bool.false_eq_true, if_false]
          exact ⟨0, trivial⟩
        · simp only [Bool.not_true, Bool.false_eq_true, if_false, if_true]
          have hcond : ((if decide ((o.length : Int) < 16) = true then (slices_Contains_string o T).bind fun x57 => some (!x57) else some false)) = some (decide (o.length < 16) && !decide (T ∈ o)) := by
            rw [contains_eq T (by omega)]
            by_cases q : o.length < 16
            · have q' : (o.length : Int) < 16 := by omega
              simp [q, q']
            · have q' : ¬ (o.length : Int) < 16 := by omega
              simp [q, q']
          rw [hcond, Option.bind_some]
          cases hb : (decide (o.length < 16) && !decide (T ∈ o))
          · simp only [Bool.false_eq_true, if_false]
            exact ih D (i + T.length) m o (by omega) hdD (by omega) (by omega) ho
          · simp only [if_true]
            simp only [Bool.and_eq_true, decide_eq_true_eq] at hb
            rw [chk_bind (by simp only [List.length_cons, List.length_nil, lim]; omega)]
            exact ih D (i + T.length) m (o ++ [T]) (by omega) hdD (by omega) (by omega) (by simp; omega)
      · simp only [if_true]
        obtain ⟨y, e⟩ := ih r (i + 1) m o (by omega) hdr (by omega) (by omega) ho
        refine ⟨y, ?_⟩
        rw [chk_bind (by constructor <;> omega), show ((i : Int) + 1) = ((i + 1 : Nat) : Int) from by omega, e]
        have : wd [] (c :: r) = wd [] r := by simp [wd, hc]
        rw [this]
theorem clean_eq {s : Str} {n : Nat} (hs : s.length ≤ 20000) (hn : s.length + 2 ≤ n) : tags_Clean n s = some (match run [] (wd [] s) with | some o => (sortS o, none) | none => ([], some 2)) := by
  unfold tags_Clean
  obtain ⟨y, e⟩ := clean_L0 hs hn s.length s 0 n [] (Nat.le_refl _) rfl (by simp) (by omega) (by simp)
  simp only [Int.natCast_zero] at e
  rw [e, Option.bind_some]
  cases hr : run [] (wd [] s) with
  | none => rfl
  | some o =>
    obtain ⟨h1, h2⟩ := run_in _ _ hr List.nodup_nil (by simp)
    simp only [Fl.el]
    rw [sortSM_t (by simp only [lim]; omega)]; rfl
theorem rclean_L0 {ws : List Str} {n : Nat} (hw : ws.length ≤ 3000) (hl : ∀ w ∈ ws, w.length ≤ 3000) (hn : 3002 ≤ n) : ∀ (r : List Str) (i m : Nat) (o : List Str), ws.drop i = r → i + r.length = ws.length → r.length < m → o.length ≤ 16 →
    ∃ y, ref35_Clean_L0 ws n m o (i : Int) = some (match run o r with | some o' => .go (o', y) | none => .ret ([], false))
  | [], i, m + 1, o, hd, hi, hm, ho => by
    simp only [List.length_nil, Nat.add_zero] at hi
    rw [ref35_Clean_L0, if_neg (by simp; omega)]
    exact ⟨_, rfl⟩
  | w :: r, i, m + 1, o, hd, hi, hm, ho => by
    obtain ⟨hix, hdr, hil⟩ := ix_drop hd
    simp only [List.length_cons] at hi hm
    have hwl : w.length ≤ 3000 := hl w (by
      have : w ∈ ws.drop i := by rw [hd]; simp
      exact List.mem_of_mem_drop this)
    have e1 : ((i : Int) + 1) = ((i + 1 : Nat) : Int) := by omega
    rw [ref35_Clean_L0, if_pos (by simp; omega)]
    simp only [hix, Option.bind_some]
    rw [tag_eq hwl (by omega), Option.bind_some, run]
    cases hg : good w
    · simp only [Bool.not_false, if_true, Bool.false_eq_true, if_false]
      exact ⟨0, trivial⟩
    · simp only [Bool.not_true, Bool.false_eq_true, if_false, if_true]
      rw [has_eq w (by omega) (by omega), Option.bind_some]
      have hcond : (!decide (w ∈ o) && decide ((o.length : Int) < 16)) = (decide (o.length < 16) && !decide (w ∈ o)) := by
        rw [Bool.and_comm]; congr 1; congr 1; simp only [eq_iff_iff]; omega
      rw [hcond]
      cases hb : (decide (o.length < 16) && !decide (w ∈ o))
      · simp only [Bool.false_eq_true, if_false]
        rw [chk_bind (by constructor <;> omega), e1]
        exact rclean_L0 hw hl hn r (i + 1) m o hdr (by omega) (by omega) ho
      · simp only [if_true]
        simp only [Bool.and_eq_true, decide_eq_true_eq] at hb
        rw [chk_bind (by simp only [List.length_cons, List.length_nil, lim]; omega), chk_bind (by constructor <;> omega), e1]
        exact rclean_L0 hw hl hn r (i + 1) m (o ++ [w]) hdr (by omega) (by omega) (by simp; omega)
theorem wd_len : ∀ (r w : Str), (wd w r).length ≤ r.length + 1 ∧ ∀ x ∈ wd w r, x.length ≤ w.length + r.length
  | [], w => by unfold wd; split <;> simp
  | c :: r, w => by
    unfold wd
    split
    · have h1 := wd_len r []
      split
      · exact ⟨by have := h1.1; simp; omega, fun x hx => by have := h1.2 x hx; simp at this ⊢; omega⟩
      · refine ⟨by have := h1.1; simp; omega, fun x hx => ?_⟩
        rcases List.mem_cons.1 hx with rfl | hx
        · simp
        · have := h1.2 x hx; simp at this ⊢; omega
    · have h1 := wd_len r (w ++ [c])
      exact ⟨by have := h1.1; simp; omega, fun x hx => by have := h1.2 x hx; simp at this ⊢; omega⟩
theorem rclean_eq {s : Str} {n : Nat} (hs : s.length ≤ 2900) (hn : 3002 ≤ n) : ∃ out b, ref35_Clean n s = some (out, b) ∧ (match run [] (wd [] s) with | some o => out = sortS o ∧ b = true | none => out = [] ∧ b = false) := by
  have hw := wd_len s []
  unfold ref35_Clean
  rw [words_eq (by omega) (by omega), Option.bind_some]
  obtain ⟨y, e⟩ := rclean_L0 (ws := wd [] s) (n := n) (by have := hw.1; omega) (fun w hx => by have := hw.2 w hx; simp at this; omega) hn (wd [] s) 0 n [] rfl (by simp) (by have := hw.1; omega) (by simp)
  simp only [Int.natCast_zero] at e
  rw [e, Option.bind_some]
  cases hr : run [] (wd [] s) with
  | none => exact ⟨[], false, rfl, rfl, rfl⟩
  | some o =>
    obtain ⟨h1, h2⟩ := run_in _ _ hr List.nodup_nil (by simp)
    obtain ⟨out, e2, h3, h4⟩ := sorted_eq (l := o) (n := n) (by omega) (by omega)
    refine ⟨out, true, ?_, eq_lt h3 (sortS_lt h1) (fun x => by rw [h4, mem_sortS]), rfl⟩
    simp only [Fl.el]
    rw [e2]; rfl
theorem texts_L0 (b : List Str) : ∀ (l pre : List Str), b = pre ++ l → base_Texts_L0 b l pre.length = some (.go ())
  | [], pre, h => by rw [base_Texts_L0]
  | x :: l, pre, h => by
    have ih := texts_L0 b l (pre ++ [x]) (by simp [h])
    rw [base_Texts_L0]
    have : ix b (pre.length : Int) = some x := by unfold ix; rw [if_pos (by omega), h]; simp
    rw [this]
    simpa using ih
theorem texts_eq {l : List Str} (h : l.length ≤ 100000) : base_Texts l l = some true := by
  unfold base_Texts
  rw [if_neg (by simp), chk_bind (by simp only [szMax]; omega)]
  have := texts_L0 l l [] rfl
  simp only [List.length_nil] at this
  rw [this]; rfl
end Tags
