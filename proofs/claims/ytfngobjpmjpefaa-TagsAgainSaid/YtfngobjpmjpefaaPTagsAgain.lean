import Derived.Test.YtfngobjpmjpefaaTagsD
import Derived.Test.YtfngobjpmjpefaaR
set_option linter.unusedVariables false
set_option linter.unusedSimpArgs false
open Go Go.SL Go.Proofs Tags Pl
/-- A byte, with more blanks behind a blank. -/
def ext (c : UInt8) : Str := if sp c then [c, 32, 9] else [c]
theorem wd_ext (t : Str) : ∀ (s w : Str), wd w (s.flatMap ext ++ t) = wd w (s ++ t)
  | [], w => by simp
  | c :: s, w => by
    simp only [List.flatMap_cons, List.cons_append, List.append_assoc]
    cases hc : sp c
    · simp only [ext, hc, Bool.false_eq_true, if_false, List.cons_append, List.nil_append, wd]
      exact wd_ext t s (w ++ [c])
    · have s32 : sp 32 = true := by decide
      have s9 : sp 9 = true := by decide
      have ih := wd_ext t s []
      simp [ext, hc, wd, s32, s9, ih]
theorem wd_end : ∀ (s w : Str), wd w (s ++ [32]) = wd w s
  | [], w => by by_cases h : w = [] <;> simp [wd, sp, h]
  | c :: s, w => by simp only [List.cons_append, wd, wd_end s]
theorem wide_L0 (s : Str) (hs : s.length ≤ 2000) : ∀ (r : Str) (i m : Nat) (o : Str), s.drop i = r → i + r.length = s.length → r.length < m → o.length ≤ 3 * i + 2 → ∃ y, law35_TagsAgain_L0 s m o (i : Int) = some (o ++ r.flatMap ext, y)
  | [], i, m + 1, o, hd, hi, hm, ho => by
    simp only [List.length_nil, Nat.add_zero] at hi
    rw [law35_TagsAgain_L0, if_neg (by simp; omega)]
    exact ⟨(i : Int), by simp⟩
  | c :: r, i, m + 1, o, hd, hi, hm, ho => by
    obtain ⟨hix, hdr, hil⟩ := ix_drop hd
    simp only [List.length_cons] at hi hm
    have e1 : ((i : Int) + 1) = ((i + 1 : Nat) : Int) := by omega
    have hsub : subL s (i : Int) ((i : Int) + 1) = [c] := by
      unfold subL
      rw [Int.toNat_natCast, hd, show ((i : Int) + 1 - (i : Int)).toNat = 1 from by omega]; rfl
    rw [law35_TagsAgain_L0, if_pos (by simp; omega), chk_bind (by constructor <;> omega), chk_bind (by omega), hsub, chk_bind (by simp only [List.length_cons, List.length_nil, lim]; omega)]
    simp only [hix, Option.bind_some]
    rw [cond_sp, Option.bind_some]
    cases hc : sp c
    · obtain ⟨y, e⟩ := wide_L0 s hs r (i + 1) m (o ++ [c]) hdr (by omega) (by omega) (by simp; omega)
      simp only [Bool.false_eq_true, if_false]
      rw [chk_bind (by constructor <;> omega), e1, e]
      exact ⟨y, by simp [ext, hc]⟩
    · obtain ⟨y, e⟩ := wide_L0 s hs r (i + 1) m (o ++ [c] ++ [32, 9]) hdr (by omega) (by omega) (by simp; omega)
      simp only [if_true]
      rw [chk_bind (by simp only [List.length_append, List.length_cons, List.length_nil, lim]; omega), chk_bind (by constructor <;> omega), e1, e]
      exact ⟨y, by simp [ext, hc]⟩
theorem okc_sp {c : UInt8} (h : okc c = true) : sp c = false := by
  unfold okc at h
  simp only [Bool.not_eq_true', Bool.or_eq_false_iff, decide_eq_false_iff_not] at h
  unfold sp
  rw [Bool.or_eq_false_iff, decide_eq_false_iff_not, decide_eq_false_iff_not]; omega
theorem wd_word (t : Str) : ∀ (x w : Str), x.all okc = true → w ++ x ≠ [] → wd w (x ++ 32 :: t) = (w ++ x) :: wd [] t
  | [], w, _, hn => by
    have : w ≠ [] := by simpa using hn
    simp [wd, sp, this]
  | c :: x, w, h, hn => by
    simp only [List.all_cons, Bool.and_eq_true] at h
    have e := wd_word t x (w ++ [c]) h.2 (by simp)
    simp only [List.cons_append, wd, okc_sp h.1, Bool.false_eq_true, if_false]
    rw [e]; simp
theorem good_ok {w : Str} (h : good w = true) : w.all okc = true ∧ 1 ≤ w.length ∧ w.length ≤ 32 := by
  unfold good at h
  simp only [Bool.and_eq_true, decide_eq_true_eq] at h
  exact ⟨h.2, h.1.1, h.1.2⟩
theorem wd_join : ∀ (l : List Str), (∀ w ∈ l, good w = true) → wd [] (l.flatMap fun w => w ++ [32]) = l
  | [], _ => rfl
  | w :: l, h => by
    obtain ⟨h1, h2, h3⟩ := good_ok (h w (by simp))
    have hn : ([] : Str) ++ w ≠ [] := by intro e; simp at e; subst e; simp at h2
    have := wd_word (l.flatMap fun w => w ++ [32]) w [] h1 hn
    simp only [List.flatMap_cons, List.append_assoc, List.cons_append, List.nil_append] at this ⊢
    rw [this, wd_join l fun x hx => h x (by simp [hx])]
theorem run_self : ∀ (l o : List Str), (∀ w ∈ l, good w = true) → (o ++ l).Nodup → (o ++ l).length ≤ 16 → run o l = some (o ++ l)
  | [], o, _, _, _ => by simp [run]
  | w :: l, o, h, hn, hl => by
    have hw : w ∉ o := fun q => (List.nodup_append.1 hn).2.2 w q w (by simp) rfl
    have hlen : o.length < 16 := by simp at hl; omega
    rw [run, if_pos (h w (by simp)), if_pos (by simp [hw, hlen]), run_self l (o ++ [w]) (fun x hx => h x (by simp [hx])) (by simpa using hn) (by simpa using hl)]
    simp
theorem run_good : ∀ (ws o : List Str) {r : List Str}, run o ws = some r → (∀ w ∈ o, good w = true) → ∀ w ∈ r, good w = true
  | [], o, r, h, ho => by simp [run] at h; subst h; exact ho
  | w :: ws, o, r, h, ho => by
    unfold run at h
    split at h
    · rename_i hg
      refine run_good ws _ h fun x hx => ?_
      split at hx
      · rcases List.mem_append.1 hx with hx | hx
        · exact ho x hx
        · simp at hx; subst hx; exact hg
      · exact ho x hx
    · cases h
theorem again_L2 {g : List Str} {e : Err} (hg : ∀ w ∈ g, good w = true) (hp : g.Pairwise (· < ·)) (hl : g.length ≤ 16) : ∀ (r pre : List Str) (m : Nat) (o : Str), g = pre ++ r → r.length < m → o.length ≤ 40 * pre.length →
    ∃ y, law35_TagsAgain_L2 (g, e) m o (pre.length : Int) = some (.go (o ++ r.flatMap fun w => w ++ [32], y))
  | [], pre, m + 1, o, h, hm, ho => by
    have : g.length = pre.length := by rw [h]; simp
    rw [law35_TagsAgain_L2, if_neg (by simp; omega)]
    exact ⟨(pre.length : Int), by simp⟩
  | w :: r, pre, m + 1, o, h, hm, ho => by
    have hlen : pre.length < g.length := by rw [h]; simp
    have hix : ix g (pre.length : Int) = some w := by unfold ix; rw [if_pos (by omega), h]; simp
    obtain ⟨h1, h2, h3⟩ := good_ok (hg w (by rw [h]; simp))
    have hne : w ≠ [] := by intro q; subst q; simp at h2
    have hw32 : ¬ (w.length : Int) > 32 := by omega
    have hfirst : ((if decide ((pre.length : Int) > 0) = true then (chk (InI ((pre.length : Int) - 1))).bind fun _ => (ix g ((pre.length : Int) - 1)).bind fun x97 => (ix g (pre.length : Int)).bind fun x101 => some (!Op.bytesLess x97 x101) else some false)) = some false := by
      rcases List.eq_nil_or_concat pre with rfl | ⟨q, y, rfl⟩
      · rfl
      · simp only [List.concat_eq_append] at *
        have hy : ix g ((((q ++ [y]).length : Nat) : Int) - 1) = some y := by
          unfold ix
          have : (((((q ++ [y]).length : Nat) : Int) - 1)).toNat = q.length := by simp
          rw [if_pos (by simp), this, h]; simp
        have hlt : y < w := by
          rw [h] at hp
          exact (List.pairwise_append.1 hp).2.2 y (by simp) w (by simp)
        rw [if_pos (by simp), chk_bind (by constructor <;> omega), hy, hix]
        simp [bl_t.2 hlt]
    obtain ⟨y, e2⟩ := again_L2 (e := e) hg hp hl r (pre ++ [w]) m (o ++ (w ++ [32])) (by simp [h]) (by simpa using hm) (by simp; omega)
    refine ⟨y, ?_⟩
    rw [law35_TagsAgain_L2, if_pos (by simp; omega), hfirst]
    simp only [hix, Option.bind_some, Bool.false_eq_true, if_false, hw32, decide_false, hne]
    rw [chk_bind (by simp only [List.length_cons, List.length_nil, lim]; omega), chk_bind (by simp only [List.length_append, List.length_cons, List.length_nil, lim]; omega), chk_bind (by constructor <;> omega)]
    rw [show ((pre.length : Int) + 1) = (((pre ++ [w]).length : Nat) : Int) from by simp, e2]
    simp
theorem law35_TagsAgain_true (s : Str) (o0 : s.length ≤ szMax) : ∃ n, law35_TagsAgain n s = some true := by
  refine ⟨9000, ?_⟩
  unfold law35_TagsAgain
  rw [awake_eq, Option.bind_some]
  by_cases hl : (s.length : Int) > 2000
  · simp [hl]
  simp only [hl, Bool.not_true, decide_false, Bool.or_self, Bool.false_eq_true, if_false]
  have hs : s.length ≤ 2000 := by omega
  obtain ⟨y, e⟩ := wide_L0 s hs s 0 9000 [9, 32] rfl (by simp) (by omega) (by simp)
  simp only [Int.natCast_zero] at e
  have hxl : (s.flatMap ext).length ≤ 3 * s.length := by
    clear e o0 hl hs
    induction s with
    | nil => simp
    | cons c s ih => simp only [List.flatMap_cons, List.length_append, List.length_cons]; have : (ext c).length ≤ 3 := by unfold ext; split <;> simp
                     omega
  have hw : wd [] ([9, 32] ++ s.flatMap ext ++ [32]) = wd [] s := by
    have h1 : ([9, 32] : Str) ++ s.flatMap ext ++ [32] = 9 :: 32 :: (s.flatMap ext ++ [32]) := by simp
    rw [h1]
    have h2 : ∀ x : Str, wd [] (9 :: 32 :: x) = wd [] x := fun x => by simp [wd, sp]
    rw [h2, wd_ext, wd_end]
  have hlen : ([9, 32] ++ s.flatMap ext ++ [32] : Str).length ≤ 6010 := by simp only [List.length_append, List.length_cons, List.length_nil]; omega
  rw [clean_eq (s := s) (n := 9000) (by omega) (by omega), Option.bind_some, e, Option.bind_some, chk_bind (by simp only [List.length_append, List.length_cons, List.length_nil, lim] at hlen ⊢; omega), clean_eq (s := [9, 32] ++ s.flatMap ext ++ [32]) (n := 9000) (by omega) (by omega), Option.bind_some, hw]
  cases hr : run [] (wd [] s) with
  | none => rfl
  | some o =>
    obtain ⟨h1, h2⟩ := run_in _ _ hr List.nodup_nil (by simp)
    have hgo : ∀ w ∈ sortS o, good w = true := fun w hw => run_good _ _ hr (by simp) w (mem_sortS.1 hw)
    have hsl : (sortS o).length ≤ 16 := by rw [sortS_len]; exact h2
    have hasc := sortS_lt h1
    obtain ⟨y2, e2⟩ := again_L2 (e := none) hgo hasc hsl (sortS o) [] 9000 [] rfl (by omega) (by simp)
    simp only [List.length_nil, Int.natCast_zero, List.nil_append] at e2
    have hnum : base_Num none = some 0 := rfl
    simp only [hnum, Option.bind_some, ne_eq, not_true_eq_false, decide_false, Bool.false_eq_true, if_false, texts_eq (show (sortS o).length ≤ 100000 by omega), Bool.not_true, Option.isSome_none, Bool.or_self, e2, Fl.el]
    have hjl : ((sortS o).flatMap fun w => w ++ [32]).length ≤ 20000 - 10 := by
      have : ∀ (l : List Str), (∀ w ∈ l, good w = true) → (l.flatMap fun w => w ++ [32]).length ≤ 40 * l.length := by
        intro l
        induction l with
        | nil => simp
        | cons w l ih =>
          intro h
          have := ih fun x hx => h x (by simp [hx])
          obtain ⟨_, _, q⟩ := good_ok (h w (by simp))
          simp only [List.flatMap_cons, List.length_append, List.length_cons, List.length_nil]; omega
      have := this _ hgo
      omega
    have hjl2 : ((sortS o).flatMap fun w => w ++ [32]).length ≤ 640 := by
      have : ∀ (l : List Str), (∀ w ∈ l, good w = true) → (l.flatMap fun w => w ++ [32]).length ≤ 40 * l.length := by
        intro l
        induction l with
        | nil => simp
        | cons w l ih =>
          intro h
          have := ih fun x hx => h x (by simp [hx])
          obtain ⟨_, _, q⟩ := good_ok (h w (by simp))
          simp only [List.flatMap_cons, List.length_append, List.length_cons, List.length_nil]; omega
      have := this _ hgo
      omega
    rw [clean_eq (n := 9000) (by omega) (by omega), wd_join _ hgo, run_self (sortS o) [] hgo (by simpa using nodup_of_lt hasc) (by simpa using hsl)]
    have hss : sortS (sortS o) = sortS o := sortS_congr (sortS_perm o)
    have h16 : ((sortS o).length : Int) ≤ 16 := by omega
    simp only [List.nil_append, hss, Option.bind_some, Option.isNone_none, h16, decide_true, Bool.and_self, if_true, texts_eq (show (sortS o).length ≤ 100000 by omega)]
