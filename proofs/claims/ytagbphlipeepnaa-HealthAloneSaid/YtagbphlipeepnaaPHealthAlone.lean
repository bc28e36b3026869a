import Derived.Test.YtagbphlipeepnaaHealthU
import Derived.Test.YtagbphlipeepnaaR
set_option linter.unusedVariables false
open Go Go.SL Go.Proofs Health Pl
/-- Checks that know the same of a node. -/
structure Same (n : Str) (a b : Ck) : Prop where
  r : a.rise = b.rise
  f : a.fall = b.fall
  s : stat a n = stat b n
  d : dr a n = dr b n
theorem play_other {n : Str} {c : Ck} {s : S_law32_Step} (h : nm5 s.Node ≠ n) : stat (playC c s) n = stat c n ∧ dr (playC c s) n = dr c n := by
  unfold playC; split
  · exact ⟨by rw [stat_rep, if_neg h], rfl⟩
  · split
    · exact ⟨rfl, by rw [dr_drain, if_neg h]⟩
    · exact ⟨by rw [stat_forget, if_neg h], rfl⟩
theorem Same.play {n : Str} {a b : Ck} (h : Same n a b) {s : S_law32_Step} (hs : nm5 s.Node = n) : Same n (playC a s) (playC b s) := by
  refine ⟨((playC_lim a s).1.trans h.r).trans (playC_lim b s).1.symm, ((playC_lim a s).2.trans h.f).trans (playC_lim b s).2.symm, ?_, ?_⟩
  all_goals
    unfold playC; subst hs; split
    · first | rw [stat_rep, stat_rep, if_pos rfl, if_pos rfl, h.r, h.f, h.s] | exact h.d
    · split
      · first | exact h.s | rw [dr_drain, dr_drain, if_pos rfl, if_pos rfl]
      · first | rw [stat_forget, stat_forget, if_pos rfl, if_pos rfl] | exact h.d
theorem Same.other {n : Str} {a b : Ck} (h : Same n a b) {s : S_law32_Step} (hs : nm5 s.Node ≠ n) : Same n (playC a s) b :=
  ⟨(playC_lim a s).1.trans h.r, (playC_lim a s).2.trans h.f, (play_other hs).1.trans h.s, (play_other hs).2.trans h.d⟩
theorem alone_L0 (n : Str) : ∀ (l : List S_law32_Step) (i : Nat) {a b : Ck}, Inv a → Nod a → Inv b → Nod b → Same n a b →
    ∃ a' b', law32_HealthAlone_L0d n l i b a = some (.go (b', a')) ∧ Nod a' ∧ Nod b' ∧ Same n a' b'
  | [], i, a, b, ha, na, hb, nb, h => ⟨a, b, by rw [law32_HealthAlone_L0d], na, nb, h⟩
  | s :: l, i, a, b, ha, na, hb, nb, h => by
    by_cases hs : nm5 s.Node = n
    · have h2 := h.play hs
      obtain ⟨a', b', e, r⟩ := alone_L0 n l (i + 1) (ha.play s) (na.play s) (hb.play s) (nb.play s) h2
      refine ⟨a', b', ?_, r⟩
      rw [law32_HealthAlone_L0d, play_eq ha, Option.bind_some, name_eq, Option.bind_some, if_pos (by simpa using hs), play_eq hb]
      simp only [Option.bind_some, state_eq, drained_eq, h2.s, h2.d, ne_eq, not_true_eq_false, decide_false, Bool.false_eq_true, if_false, beq_self_eq_true, Bool.not_true]
      exact e
    · have h2 := h.other hs
      obtain ⟨a', b', e, r⟩ := alone_L0 n l (i + 1) (ha.play s) (na.play s) hb nb h2
      refine ⟨a', b', ?_, r⟩
      rw [law32_HealthAlone_L0d, play_eq ha, Option.bind_some, name_eq, Option.bind_some, if_neg (by simpa using hs)]
      simp only [Option.bind_some, state_eq, drained_eq, h2.s, h2.d, ne_eq, not_true_eq_false, decide_false, Bool.false_eq_true, if_false, beq_self_eq_true, Bool.not_true]
      exact e
theorem law32_HealthAlone_true (x : S_law32_Limits) (script : List S_law32_Step) (node : UInt8) (o0 : S_law32_Limits.ok x) (o1 : script.length ≤ szMax ∧ ∀ y0 ∈ script, S_law32_Step.ok y0) (o2 : True) :
    law32_HealthAlone x script node = some true := by
  unfold law32_HealthAlone
  by_cases hl : (script.length : Int) > 100
  · simp [hl]
  simp only [hl, decide_false, Bool.false_eq_true, if_false, awake_eq, Option.bind_some, Bool.not_true, made_eq, Option.elim, chk_t o1.1, name_eq, Bool.or_self]
  obtain ⟨a, b, e, na, nb, h⟩ := alone_L0 (nm5 node) script 0 (inv_made x) (nod_made _ _) (inv_made x) (nod_made _ _) ⟨rfl, rfl, rfl, rfl⟩
  rw [e]
  simp only [Option.bind_some, Fl.el, na.up, nb.up, na.has, nb.has]
  have hm : (nm5 node ∈ ups a) = (nm5 node ∈ ups b) := by rw [propext (na.mem _), propext (nb.mem _), h.s, h.d]
  simp [hm]
