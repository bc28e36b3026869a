import Derived.Test.YtagbphlipeepnaaHealth
import Derived.Test.YtagbphlipeepnaaR
set_option linter.unusedVariables false
open Go Go.SL Go.Proofs Health
theorem steady_L0 {c : Ck} (h : Inv c) : ∀ (l : List S_law32_Step) (i : Nat), ∃ c', law32_HealthSteady_L0b l i c = some c' ∧ Inv c' ∧ c'.rise = c.rise ∧ c'.fall = c.fall := by
  intro l
  induction l generalizing c with
  | nil => exact fun i => ⟨c, rfl, h, rfl, rfl⟩
  | cons s l ih =>
    intro i
    obtain ⟨c', h1, h2, h3, h4⟩ := ih (h.play s) (i + 1)
    refine ⟨c', ?_, h2, h3.trans (playC_lim c s).1, h4.trans (playC_lim c s).2⟩
    rw [law32_HealthSteady_L0b, play_eq h]
    exact h1
/-- Reports that agree. -/
theorem steady_L2 {n : Str} {q : Int} (hq : q = 1 ∨ q = 2) : ∀ (k i : Nat) {c : Ck}, Inv c → (stat c n).state = q → ∃ c', law32_HealthSteady_L2b n q k i c = some (.go c') ∧ Inv c' ∧ stat c' n = (if k = 0 then stat c n else ⟨q, 0⟩) ∧ c'.rise = c.rise ∧ c'.fall = c.fall := by
  intro k
  induction k with
  | zero => exact fun i c h hs => ⟨c, rfl, h, by simp, rfl, rfl⟩
  | succ k ih =>
    intro i c h hs
    have e : repS c.rise c.fall (stat c n) (decide (q = 1)) = ⟨q, 0⟩ := by
      unfold repS; rcases hq with rfl | rfl <;> simp [hs]
    have hst : stat (rep c n (decide (q = 1))) n = ⟨q, 0⟩ := by rw [stat_rep, if_pos rfl, e]
    obtain ⟨c', h1, h2, h3, h4, h5⟩ := ih (i + 1) (h.rep n (decide (q = 1))) (by rw [hst])
    refine ⟨c', ?_, h2, ?_, h4, h5⟩
    · rw [law32_HealthSteady_L2b, h.report, e]
      simpa using h1
    · rw [h3, hst]; simp
/-- Reports that contradict, fewer than it takes. -/
theorem steady_L4 {n : Str} {q : Int} (hq : q = 1 ∨ q = 2) : ∀ (k i : Nat) {c : Ck} (m : Nat), Inv c → stat c n = ⟨q, m⟩ → (m : Int) + k + 1 ≤ (if q = 1 then c.fall else c.rise) →
    ∃ c', law32_HealthSteady_L4b n q k i c = some (.go c') ∧ Inv c' ∧ (stat c' n).state = q := by
  intro k
  induction k with
  | zero => exact fun i c m h hs _ => ⟨c, rfl, h, by rw [hs]⟩
  | succ k ih =>
    intro i c m h hs hl
    have e : repS c.rise c.fall (stat c n) (!decide (q = 1)) = ⟨q, m + 1⟩ := by
      unfold repS; rcases hq with rfl | rfl <;> simp [hs] at hl ⊢ <;> omega
    have hst : stat (rep c n (!decide (q = 1))) n = ⟨q, ((m + 1 : Nat) : Int)⟩ := by rw [stat_rep, if_pos rfl, e]; rfl
    obtain ⟨c', h1, h2, h3⟩ := ih (i + 1) (m + 1) (h.rep n (!decide (q = 1))) hst (by show _ ≤ if q = 1 then c.fall else c.rise; push_cast at hl ⊢; omega)
    refine ⟨c', ?_, h2, h3⟩
    rw [law32_HealthSteady_L4b, h.report, e]
    simpa using h1
theorem law32_HealthSteady_true (x : S_law32_Limits) (script : List S_law32_Step) (s : S_law32_Step) (o0 : S_law32_Limits.ok x) (o1 : script.length ≤ maxLen ∧ ∀ y0 ∈ script, S_law32_Step.ok y0) (o2 : S_law32_Step.ok s) :
    law32_HealthSteady x script s = some true := by
  unfold law32_HealthSteady
  by_cases hl : (script.length : Int) > 100
  · simp [hl]
  have hlim : script.length ≤ lim := by unfold lim; omega
  simp only [hl, decide_false, Bool.false_eq_true, if_false, awake_eq, Option.bind_some, Bool.not_true, made_eq, Option.elim, chk_t hlim, name_eq]
  obtain ⟨c1, e1, i1, hr1, hf1⟩ := steady_L0 (inv_made x) script 0
  rw [e1]
  simp only [Option.bind_some, state_eq]
  by_cases h0 : (stat c1 (nm5 s.Node)).state = 0
  · simp [h0]
  have hq : (stat c1 (nm5 s.Node)).state = 1 ∨ (stat c1 (nm5 s.Node)).state = 2 := by
    rcases (i1.st (nm5 s.Node)).2 with h | h | h
    · exact absurd h h0
    · exact .inl h
    · exact .inr h
  have hw : InI (1 + Int.tmod (s.What.toNat : Int) 5) := by
    have := s.What.toNat_lt
    rw [Int.tmod_eq_emod_of_nonneg (by omega)]
    constructor <;> omega
  simp only [h0, decide_false, Bool.false_eq_true, if_false, chk_t hw, Option.bind_some]
  generalize hqq : (stat c1 (nm5 s.Node)).state = q at *
  obtain ⟨c2, e2, i2, hs2, hr2, hf2⟩ := steady_L2 (n := nm5 s.Node) hq (1 + Int.tmod (s.What.toNat : Int) 5).toNat 0 i1 hqq
  have hpos : (1 + Int.tmod (s.What.toNat : Int) 5).toNat ≠ 0 := by
    rw [Int.tmod_eq_emod_of_nonneg (by omega)]; omega
  rw [if_neg hpos] at hs2
  rw [e2]
  simp only [Option.bind_some, Fl.el, clip_eq]
  rw [show max 1 (min x.Rise 100) = clip x.Rise from rfl, show max 1 (min x.Fall 100) = clip x.Fall from rfl]
  have hcr := clip_in x.Rise; have hcf := clip_in x.Fall
  have tail : ∀ c3 : Ck, Inv c3 → (stat c3 (nm5 s.Node)).state = q → ((health_Checks_Report c3 (nm5 s.Node) (decide (q = 1))).bind fun x88 =>
      (if decide (x88.1 = q) = true then (some (stat x88.2 (nm5 s.Node)).state).bind fun x94 => some (decide (x94 = q)) else some false).bind fun x97 => some x97) = some true := by
    intro c3 i3 hs3
    have e : repS c3.rise c3.fall (stat c3 (nm5 s.Node)) (decide (q = 1)) = ⟨q, 0⟩ := by
      unfold repS; rcases hq with rfl | rfl <;> simp [hs3]
    have hst : stat (rep c3 (nm5 s.Node) (decide (q = 1))) (nm5 s.Node) = ⟨q, 0⟩ := by rw [stat_rep, if_pos rfl, e]
    rw [i3.report, e]
    simp only [Option.bind_some, decide_true, if_true]
    rw [hst]; simp
  by_cases h1 : q = 1
  · have hk : InI (clip x.Fall - 1) := by constructor <;> omega
    simp only [h1, decide_true, if_true, chk_t hk, Option.bind_some]
    rw [h1] at hs2 tail
    obtain ⟨c3, e3, i3, hs3⟩ := steady_L4 (n := nm5 s.Node) (q := 1) (.inl rfl) (clip x.Fall - 1).toNat 0 0 i2 hs2 (by rw [if_pos rfl, hf2, hf1]; show _ ≤ clip x.Fall; omega)
    rw [e3]
    exact tail c3 i3 hs3
  · have hk : InI (clip x.Rise - 1) := by constructor <;> omega
    have h2 : q = 2 := by omega
    simp only [h1, decide_false, Bool.false_eq_true, if_false, chk_t hk, Option.bind_some]
    obtain ⟨c3, e3, i3, hs3⟩ := steady_L4 (n := nm5 s.Node) hq (clip x.Rise - 1).toNat 0 0 i2 hs2 (by rw [if_neg h1, hr2, hr1]; show _ ≤ clip x.Rise; omega)
    simp only [h1, decide_false] at e3 tail
    rw [e3]
    exact tail c3 i3 hs3
