/- Maps whose values are slices that are only read. -/
import Derived.Test.YtpmdpondlmkojaaSL22
set_option linter.unusedVariables false
set_option linter.unusedSimpArgs false
namespace Go.SL
open Go
abbrev SlD (α : Type) := Option Addr × Nat × List α
section
variable {P : Program} {κ α : Type}
def vSl (x : SlD α) : Value := .slice x.1 x.2.2.length x.2.1
abbrev pSl (p : κ × SlD α) : κ × List α := (p.1, p.2.2.2)
structure MS (enc : α → List Value) (sz : Nat) (K : Hp) (me : List (κ × SlD α)) (m : List (κ × List α)) : Prop where
  eq : me.map pSl = m
  rd : ∀ p ∈ me, RdC enc K p.2.1 p.2.2.1 sz p.2.2.2
theorem MS.nil {enc : α → List Value} {sz : Nat} {K : Hp} : MS (κ := κ) enc sz K [] [] := ⟨rfl, fun p h => by cases h⟩
theorem MS.mono {enc : α → List Value} {sz : Nat} {K K' : Hp} {me : List (κ × SlD α)} {m : List (κ × List α)} (h : MS enc sz K me m) (hk : K.Le K') : MS enc sz K' me m := ⟨h.eq, fun p hp => (h.rd p hp).mono hk⟩
theorem MS.len {enc : α → List Value} {sz : Nat} {K : Hp} {me : List (κ × SlD α)} {m : List (κ × List α)} (h : MS enc sz K me m) : me.length = m.length := by rw [← h.eq, List.length_map]
variable [DecidableEq κ]
theorem mget_pSl (me : List (κ × SlD α)) (k : κ) : mget (me.map pSl) k = (mget me k).map (·.2.2) := by
  induction me with
  | nil => rfl
  | cons p me ih =>
    rw [List.map_cons, mget_cons, mget_cons, ih]
    by_cases h : p.1 = k
    · rw [if_pos h, if_pos (show (pSl p).1 = k from h)]; rfl
    · rw [if_neg h, if_neg (show ¬ (pSl p).1 = k from h)]
theorem MS.get {enc : α → List Value} {sz : Nat} {K : Hp} {me : List (κ × SlD α)} {m : List (κ × List α)} (h : MS enc sz K me m) (k : κ) : mget m k = (mget me k).map (·.2.2) := by rw [← h.eq, mget_pSl]
theorem MS.set {enc : α → List Value} {sz : Nat} {K : Hp} {me : List (κ × SlD α)} {m : List (κ × List α)} (h : MS enc sz K me m) (k : κ) {a : Option Addr} {cap : Nat} {l : List α} (hr : RdC enc K a cap sz l) : MS enc sz K (mset me k (a, cap, l)) (mset m k l) := by
  constructor
  · unfold mset
    rw [h.get]
    cases mget me k with
    | none => simp [← h.eq, pSl]
    | some x =>
      simp only [Option.map_some, ← h.eq, List.map_map]
      apply List.map_congr_left
      intro p _
      by_cases h : p.1 = k
      · simp [pSl, h]
      · simp [pSl, h]
  · intro p hp
    unfold mset at hp
    cases hg : mget me k with
    | none =>
      rw [hg] at hp
      rcases List.mem_append.1 hp with hp | hp
      · exact h.rd p hp
      · simp at hp; subst hp; exact hr
    | some x =>
      rw [hg] at hp
      obtain ⟨q, hq, rfl⟩ := List.mem_map.1 hp
      split
      · exact hr
      · exact h.rd q hq
theorem MS.del {enc : α → List Value} {sz : Nat} {K : Hp} {me : List (κ × SlD α)} {m : List (κ × List α)} (h : MS enc sz K me m) (k : κ) : MS enc sz K (mdel me k) (mdel m k) := by
  constructor
  · unfold mdel; rw [← h.eq, List.filter_map]; rfl
  · intro p hp; exact h.rd p (List.mem_filter.1 hp).1
theorem lookupS {t kt et b sz : Nat} {enc : α → List Value} {kenc : κ → Value} {me : List (κ × SlD α)} {m : List (κ × List α)} {k : κ} {K : Hp} {H H' : List HProp} {c : Value → Prop} (hr : Rem (MapE kenc vSl b me) H H')
    (ht : P.underlying t = some (.map kt et)) (hz : tyZeroV P et = some (.slice none 0 0)) (hk : KeyOK P kt kenc) (hm : MS enc sz K me m) (h : ∀ a cap, RdC enc K a cap sz ((mget m k).getD []) → c (.slice a ((mget m k).getD []).length cap)) :
    RStepS P (.lookup t (.map (some b)) (kenc k) false) K H c := by
  refine lookup_rule (venc := vSl) (z := (none, 0, [])) hr ht hz hk ?_
  rw [hm.get] at h
  cases hg : mget me k with
  | none => rw [hg] at h; exact h none 0 RdC.nil
  | some x => rw [hg] at h; exact h x.1 x.2.1 (hm.rd _ (mget_mem hg))
theorem lookupS_ok {t kt et b sz : Nat} {enc : α → List Value} {kenc : κ → Value} {me : List (κ × SlD α)} {m : List (κ × List α)} {k : κ} {K : Hp} {H H' : List HProp} {c : Value → Prop} (hr : Rem (MapE kenc vSl b me) H H')
    (ht : P.underlying t = some (.map kt et)) (hz : tyZeroV P et = some (.slice none 0 0)) (hk : KeyOK P kt kenc) (hm : MS enc sz K me m) (h : ∀ a cap, RdC enc K a cap sz ((mget m k).getD []) → c (.tuple #[.slice a ((mget m k).getD []).length cap, .bool (mget m k).isSome])) :
    RStepS P (.lookup t (.map (some b)) (kenc k) true) K H c := by
  refine lookup_ok (venc := vSl) (z := (none, 0, [])) hr ht hz hk ?_
  rw [hm.get] at h
  cases hg : mget me k with
  | none => rw [hg] at h; exact h none 0 RdC.nil
  | some x => rw [hg] at h; exact h x.1 x.2.1 (hm.rd _ (mget_mem hg))
theorem len_mapS {t kt et ty b sz : Nat} {cs : Array Bool} {enc : α → List Value} {kenc : κ → Value} {me : List (κ × SlD α)} {m : List (κ × List α)} {K : Hp} {H H' : List HProp} {c : Value → Prop} (hr : Rem (MapE kenc vSl b me) H H')
    (ht : P.underlying t = some (.map kt et)) (hm : MS enc sz K me m) (h : c (.int .i64 m.length)) : RStepS P (.builtin .len #[t] ty cs [.map (some b)]) K H c := len_map hr ht (by rw [hm.len]; exact h)
omit [DecidableEq κ] in
/-- A loop over such a map: what has been visited, as data. -/
theorem MS.perm {enc : α → List Value} {sz : Nat} {K : Hp} {me vis rest : List (κ × SlD α)} {p : κ × SlD α} {m : List (κ × List α)} (h : MS enc sz K me m) (hp : (vis ++ p :: rest).Perm me) : (vis.map pSl ++ pSl p :: rest.map pSl).Perm m := by
  have := hp.map pSl
  rw [h.eq] at this; simpa using this
omit [DecidableEq κ] in
theorem MS.perm0 {enc : α → List Value} {sz : Nat} {K : Hp} {me vis : List (κ × SlD α)} {m : List (κ × List α)} (h : MS enc sz K me m) (hp : vis.Perm me) : (vis.map pSl).Perm m := by
  have := hp.map pSl
  rw [h.eq] at this; exact this
omit [DecidableEq κ] in
theorem pSl_snoc {vis : List (κ × SlD α)} {p : κ × SlD α} : (vis ++ [p]).map pSl = vis.map pSl ++ [pSl p] := by simp
theorem DStep.ownLe {ops : Array Oper} {env : List Value} {K : Hp} {Q : KP} {enc : α → List Value} {a : Option Addr} {e sz cap : Nat} {l : List α} {H H' : List HProp} (hr : Rem (OwnL enc a e sz cap l) H H') (h : l.length ≤ cap → DStep P ops env K H Q) : DStep P ops env K H Q :=
  ⟨fun Γ w s => (h (by simpa using (s.rem hr).ownLen)).out Γ w s⟩
end
end Go.SL
