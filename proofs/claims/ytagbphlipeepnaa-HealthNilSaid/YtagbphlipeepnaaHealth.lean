/- Plain facts about the mirrors of package health. -/
import Derived.Test.YtagbphlipeepnaaG4
set_option linter.unusedVariables false
set_option linter.unusedSimpArgs false
open Go Go.SL Go.Proofs
namespace Health
abbrev Ck := S_health_Checks
def stat (c : Ck) (k : Str) : S_health_status := (mget c.nodes k).getD ⟨0, 0⟩
theorem state_eq (c : Ck) (k : Str) : health_Checks_State c k = some (stat c k).state := rfl
/-- A report. -/
def repS (r f : Int) (s : S_health_status) (ok : Bool) : S_health_status :=
  let to : Int := if ok then 1 else 2
  let lm : Int := if ok then r else f
  if s.state = 0 ∨ s.state = to then ⟨to, 0⟩ else if s.run + 1 ≥ lm then ⟨to, 0⟩ else ⟨s.state, s.run + 1⟩
theorem report_eq (c : Ck) (node : Str) (ok : Bool) (h : 0 ≤ (stat c node).run ∧ (stat c node).run ≤ 1000) :
    health_Checks_Report c node ok = some ((repS c.rise c.fall (stat c node) ok).state, ⟨c.rise, c.fall, mset c.nodes node (repS c.rise c.fall (stat c node) ok), c.drained⟩) := by
  have hi : InI ((stat c node).run + 1) := by constructor <;> omega
  unfold health_Checks_Report
  change InI (((mget c.nodes node).getD ⟨0, 0⟩).run + 1) at hi
  unfold repS
  rw [chk_t hi]
  cases ok
  all_goals
    simp only [Bool.false_eq_true, if_false, if_true, Bool.or_eq_true, decide_eq_true_eq, Option.bind_some, stat]
    split
    · rfl
    · split <;> rfl
/-- One of five names. -/
def nm5 (k : UInt8) : Str := match (k % 5).toNat with
  | 0 => [98] | 1 => [97] | 2 => [99] | 3 => [] | _ => [115, 104, 105, 101, 108, 100, 32, 57]
theorem name_eq (k : UInt8) : law32_name k = some (nm5 k) := by
  have h : (k % 5).toNat < 5 := by
    rw [UInt8.toNat_mod]; exact Nat.mod_lt _ (by decide)
  unfold law32_name nm5 ix
  generalize (k % 5).toNat = n at *
  rcases n with _ | _ | _ | _ | _ | n <;> first | rfl | omega
theorem new_eq (r f : Int) (h : 1 ≤ r ∧ r ≤ 100 ∧ 1 ≤ f ∧ f ≤ 100) : health_New r f = some (some ⟨r, f, [], []⟩, none) := by
  unfold health_New
  rw [if_neg (by simp; omega)]
theorem clip_eq (n l h : Int) : base_Clip n l h = some (max l (min n h)) := rfl
def clip (x : Int) : Int := max 1 (min x 100)
theorem clip_in (x : Int) : 1 ≤ clip x ∧ clip x ≤ 100 := by unfold clip; omega
theorem made_eq (x : S_law32_Limits) : law32_made x = some (some ⟨clip x.Rise, clip x.Fall, [], []⟩, true) := by
  have h1 := clip_in x.Rise; have h2 := clip_in x.Fall
  unfold law32_made
  simp only [clip_eq, Option.bind_some]
  rw [show max 1 (min x.Rise 100) = clip x.Rise from rfl, show max 1 (min x.Fall 100) = clip x.Fall from rfl, new_eq _ _ ⟨h1.1, h1.2, h2.1, h2.2⟩]
  rfl
theorem awake_eq : law32_awake = some true := by decide +kernel
/-- What a node's runs are. -/
structure Inv (c : Ck) : Prop where
  r1 : 1 ≤ c.rise
  r2 : c.rise ≤ 100
  f1 : 1 ≤ c.fall
  f2 : c.fall ≤ 100
  st : ∀ k, (0 ≤ (stat c k).run ∧ (stat c k).run ≤ 100) ∧ ((stat c k).state = 0 ∨ (stat c k).state = 1 ∨ (stat c k).state = 2)
theorem repS_in {r f : Int} {s : S_health_status} {ok : Bool} (hr : r ≤ 100) (hf : f ≤ 100) (h : (0 ≤ s.run ∧ s.run ≤ 100) ∧ (s.state = 0 ∨ s.state = 1 ∨ s.state = 2)) :
    (0 ≤ (repS r f s ok).run ∧ (repS r f s ok).run ≤ 100) ∧ ((repS r f s ok).state = 0 ∨ (repS r f s ok).state = 1 ∨ (repS r f s ok).state = 2) := by
  obtain ⟨s1, s2⟩ := s
  simp only at h
  unfold repS
  cases ok <;> simp only [Bool.false_eq_true, if_true, if_false] <;> (split; (simp); split; (simp); (simp only; omega))
theorem stat_mset (r f : Int) (n : List (Str × S_health_status)) (d : List (Str × Bool)) (k j : Str) (s : S_health_status) : stat ⟨r, f, mset n k s, d⟩ j = if k = j then s else stat ⟨r, f, n, d⟩ j := by
  unfold stat; simp only [mget_mset]; split <;> rfl
theorem stat_mdel (r f : Int) (n : List (Str × S_health_status)) (d : List (Str × Bool)) (k j : Str) : stat ⟨r, f, mdel n k, d⟩ j = if k = j then ⟨0, 0⟩ else stat ⟨r, f, n, d⟩ j := by
  unfold stat; simp only [mget_mdel]; split <;> rfl
/-- The checks after a report. -/
def rep (c : Ck) (k : Str) (ok : Bool) : Ck := ⟨c.rise, c.fall, mset c.nodes k (repS c.rise c.fall (stat c k) ok), c.drained⟩
def drain (c : Ck) (k : Str) (on : Bool) : Ck := ⟨c.rise, c.fall, c.nodes, if on then mset (mdel c.drained k) k true else mdel c.drained k⟩
def forget (c : Ck) (k : Str) : Ck := ⟨c.rise, c.fall, mdel c.nodes k, c.drained⟩
theorem stat_rep (c : Ck) (k j : Str) (ok : Bool) : stat (rep c k ok) j = if k = j then repS c.rise c.fall (stat c k) ok else stat c j := stat_mset ..
theorem stat_forget (c : Ck) (k j : Str) : stat (forget c k) j = if k = j then ⟨0, 0⟩ else stat c j := stat_mdel ..
theorem Inv.rep {c : Ck} (h : Inv c) (k : Str) (ok : Bool) : Inv (rep c k ok) := ⟨h.r1, h.r2, h.f1, h.f2, fun j => by
  rw [stat_rep]; split
  · exact repS_in h.r2 h.f2 (h.st k)
  · exact h.st j⟩
theorem Inv.forget {c : Ck} (h : Inv c) (k : Str) : Inv (forget c k) := ⟨h.r1, h.r2, h.f1, h.f2, fun j => by
  rw [stat_forget]; split
  · simp
  · exact h.st j⟩
theorem Inv.drain {c : Ck} (h : Inv c) (k : Str) (on : Bool) : Inv (drain c k on) := ⟨h.r1, h.r2, h.f1, h.f2, h.st⟩
theorem Inv.report {c : Ck} (h : Inv c) (k : Str) (ok : Bool) : health_Checks_Report c k ok = some ((repS c.rise c.fall (stat c k) ok).state, Health.rep c k ok) :=
  report_eq c k ok ⟨(h.st k).1.1, by have := (h.st k).1.2; omega⟩
theorem drain_eq (c : Ck) (k : Str) (on : Bool) : health_Checks_Drain c k on = some (drain c k on) := by cases on <;> rfl
def playC (c : Ck) (s : S_law32_Step) : Ck :=
  if (s.What % 9).toNat < 6 then rep c (nm5 s.Node) (decide ((s.What % 9).toNat < 3)) else if (s.What % 9).toNat < 8 then drain c (nm5 s.Node) (decide ((s.What % 9).toNat = 6)) else forget c (nm5 s.Node)
theorem play_eq {c : Ck} (h : Inv c) (s : S_law32_Step) : law32_play c s = some (playC c s) := by
  unfold law32_play playC
  generalize (s.What % 9).toNat = w
  simp only [decide_eq_true_eq, name_eq, Option.bind_some]
  have e1 : ((w : Int) < 6) = (w < 6) := by simp; omega
  have e2 : ((w : Int) < 8) = (w < 8) := by simp; omega
  have e3 : decide ((w : Int) < 3) = decide (w < 3) := by congr 1; simp; omega
  have e4 : decide ((w : Int) = 6) = decide (w = 6) := by congr 1; simp; omega
  simp only [e1, e2, e3, e4]
  split
  · rw [h.report]; rfl
  · split
    · rw [drain_eq]; rfl
    · rfl
theorem Inv.play {c : Ck} (h : Inv c) (s : S_law32_Step) : Inv (playC c s) := by
  unfold playC; split
  · exact h.rep _ _
  · split
    · exact h.drain _ _
    · exact h.forget _
theorem playC_lim (c : Ck) (s : S_law32_Step) : (playC c s).rise = c.rise ∧ (playC c s).fall = c.fall := by
  unfold playC; split
  · exact ⟨rfl, rfl⟩
  · split <;> exact ⟨rfl, rfl⟩
theorem inv_made (x : S_law32_Limits) : Inv ⟨clip x.Rise, clip x.Fall, [], []⟩ := ⟨(clip_in _).1, (clip_in _).2, (clip_in _).1, (clip_in _).2, fun k => by simp [stat]⟩
end Health
