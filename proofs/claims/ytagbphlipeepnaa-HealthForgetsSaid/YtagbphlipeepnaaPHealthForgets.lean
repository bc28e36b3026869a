import Derived.Test.YtagbphlipeepnaaHealthU
import Derived.Test.YtagbphlipeepnaaR
set_option linter.unusedVariables false
open Go Go.SL Go.Proofs Health Pl
theorem forgets_L0 : ∀ (l : List S_law32_Step) (i : Nat) {c : Ck}, Inv c → Nod c → Kn c → ∃ c', law32_HealthForgets_L0b l i c = some c' ∧ Inv c' ∧ Nod c' ∧ Kn c'
  | [], i, c, h, k, q => ⟨c, by rw [law32_HealthForgets_L0b], h, k, q⟩
  | s :: l, i, c, h, k, q => by
    obtain ⟨c', e, h'⟩ := forgets_L0 l (i + 1) (h.play s) (k.play s) (q.play s)
    exact ⟨c', by rw [law32_HealthForgets_L0b, play_eq h]; exact e, h'⟩
theorem law32_HealthForgets_true (x : S_law32_Limits) (script : List S_law32_Step) (s : S_law32_Step) (o0 : S_law32_Limits.ok x) (o1 : script.length ≤ szMax ∧ ∀ y0 ∈ script, S_law32_Step.ok y0) (o2 : S_law32_Step.ok s) :
    law32_HealthForgets x script s = some true := by
  unfold law32_HealthForgets
  by_cases hl : (script.length : Int) > 100
  · simp [hl]
  simp only [hl, decide_false, Bool.false_eq_true, if_false, awake_eq, Option.bind_some, Bool.not_true, made_eq, Option.elim, chk_t o1.1, name_eq]
  obtain ⟨c, e1, i1, n1, k1⟩ := forgets_L0 script 0 (inv_made x) (nod_made _ _) (Kn.made _ _)
  rw [e1]
  simp only [Option.bind_some, state_eq, drained_eq]
  generalize hn : nm5 s.Node = n
  have hn5 : n ∈ names5 := by rw [← hn]; exact nm5_mem _
  have e2 : stat (forget c n) n = ⟨0, 0⟩ := by rw [stat_forget, if_pos rfl]
  have e3 : (mget (forget c n).nodes n).isSome = false := by unfold forget; simp [mget_mdel]
  have i2 := (i1.forget n).forget n
  have n2 := (n1.forget n).forget n
  have e4 : stat (forget (forget c n) n) n = ⟨0, 0⟩ := by rw [stat_forget, if_pos rfl]
  simp only [forget_eq, k1 n, Option.bind_some, e2, e3, beq_self_eq_true, Bool.not_true, Bool.false_eq_true, if_false, dr_forget, ne_eq, not_true_eq_false, decide_false]
  have fin : ∀ ok : Bool, (health_Checks_Report (forget (forget c n) n) n ok).bind (fun x84 =>
      (if decide (x84.1 = (if ok then 1 else 2)) = true then some (dr x84.2 n == dr c n) else some false).bind fun x93 =>
      (if x93 = true then (health_Checks_Up x84.2).bind fun x96 => (law32_has x96 n).bind fun x98 => some (x98 == (ok && !dr c n)) else some false).bind fun x105 => some x105) = some true := by
    intro ok
    have hst : (repS (forget (forget c n) n).rise (forget (forget c n) n).fall (stat (forget (forget c n) n) n) ok) = ⟨if ok then 1 else 2, 0⟩ := by
      rw [e4]; unfold repS; simp
    have n3 := n2.rep hn5 ok
    have hm := n3.mem n
    rw [stat_rep, if_pos rfl, hst, dr_rep, dr_forget, dr_forget] at hm
    rw [i2.report, hst]
    simp only [Option.bind_some, decide_true, if_true, dr_rep, dr_forget, beq_self_eq_true, n3.up, n3.has]
    cases ok <;> cases hd : dr c n <;> simp [hd] at hm <;> simp [hm]
  have hw : (s.What % 2).toNat = 0 ∨ (s.What % 2).toNat = 1 := by
    have := s.What.toNat_lt
    rw [UInt8.toNat_mod]; show s.What.toNat % 2 = 0 ∨ s.What.toNat % 2 = 1; omega
  rcases hw with hw | hw
  · rw [hw]; exact fin true
  · rw [hw]; exact fin false
