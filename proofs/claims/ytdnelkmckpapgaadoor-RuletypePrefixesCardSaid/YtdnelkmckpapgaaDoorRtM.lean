/- Ruletype: numbers of nodes; copies are functions. -/
import Derived.Test.YtdnelkmckpapgaaDoorRtN
import Derived.Test.YtdnelkmckpapgaaDoorRtW
set_option linter.unusedVariables false
set_option linter.unusedSimpArgs false
open Go Go.SL Go.Proofs Pl
namespace Rt
def cntN : Nat → N → Nat
  | 0, _ => 0
  | d + 1, x => 1 + (x.Kids.map (cntN d)).sum
def cntNL (d : Nat) (l : List N) : Nat := (l.map (cntN d)).sum
theorem cntNL_cons (d : Nat) (x : N) (l : List N) : cntNL d (x :: l) = cntN d x + cntNL d l := by simp [cntNL]
theorem cntN_eq (d : Nat) (x : N) : cntN (d + 1) x = 1 + cntNL d x.Kids := rfl
theorem weigh_L0_cnt {f : N → Int → Option Int} {e : Int} {d : Nat} : ∀ (l : List N) (i : Nat) (y : Int) (r : Fl Int Int), 1 ≤ y → (∀ k ∈ l, ∀ v, f k (e - 1) = some v → v ≤ 700 → (cntN d k : Int) ≤ v) → law44_weigh_L0 e f l i y = some r →
    (∀ z, r = Fl.go z → y + (cntNL d l : Int) ≤ z) ∧ ∀ z, r = Fl.ret z → 700 < z
  | [], i, y, r, _, _, h => by cases h; exact ⟨fun z e => by cases e; simp [cntNL], fun z e => by cases e⟩
  | k :: l, i, y, r, hy, hf, h => by
    rw [law44_weigh_L0] at h
    obtain ⟨_, h1⟩ := chkb h
    obtain ⟨v, hv, h2⟩ := bnd h1
    obtain ⟨_, h3⟩ := chkb h2
    by_cases q : y + v > 700
    · rw [if_pos (by simpa using q)] at h3
      cases h3
      exact ⟨fun z e => (by cases e), fun z e => by cases e; exact q⟩
    · rw [if_neg (by simpa using q)] at h3
      have hc := hf k (by simp) v hv (by omega)
      obtain ⟨g1, g2⟩ := weigh_L0_cnt l (i + 1) (y + v) r (by omega) (fun k hk => hf k (by simp [hk])) h3
      refine ⟨fun z e => ?_, g2⟩
      have := g1 z e
      rw [cntNL_cons]; omega
theorem weigh_cnt : ∀ (e n : Nat) (x : N) (v : Int), law44_weigh n x (e : Int) = some v → v ≤ 700 → (cntN e x : Int) ≤ v
  | _, 0, x, v, h, _ => by rw [law44_weigh] at h; cases h
  | 0, n + 1, x, v, h, hv => by
    rw [law44_weigh, if_pos (by simp)] at h
    cases h; omega
  | e + 1, n + 1, x, v, h, hv => by
    rw [law44_weigh] at h
    split at h
    · cases h; omega
    · obtain ⟨_, h1⟩ := chkb h
      obtain ⟨r, hr, h2⟩ := bnd h1
      obtain ⟨g1, g2⟩ := weigh_L0_cnt (d := e) x.Kids 0 1 r (by omega) (fun k hk v hv hv2 => by
        rw [show (((e + 1 : Nat) : Int) - 1) = (e : Int) from by omega] at hv
        exact weigh_cnt e n k v hv hv2) hr
      cases r with
      | ret z => rw [el_ret] at h2; cases h2; have := g2 _ rfl; omega
      | go z => rw [el_go] at h2; cases h2; have := g1 _ rfl; rw [cntN_eq]; omega
theorem Large_cnt {n : Nat} {x : N} (h : law44_Large n x = some false) : cntN 40 x ≤ 700 := by
  unfold law44_Large at h
  obtain ⟨v, hv, h1⟩ := bnd h
  simp only [Option.some.injEq, decide_eq_false_iff_not] at h1
  have := weigh_cnt 40 n x v hv (by omega)
  omega
theorem Cvd.cnt : ∀ {d : Nat} {x : N} {y : M}, Cvd d x y → Rt.cnt d y = cntN d x
  | d + 1, x, y, ⟨_, _, _, h⟩ => by
    rw [cnt_eq, cntN_eq]
    have : ∀ {l : List N} {k : List M}, A2 (Cvd d) l k → cntL d k = cntNL d l := by
      intro l k h
      induction h with
      | nil => rfl
      | cons hp _ ih => rw [cntL_cons, cntNL_cons, ih, hp.cnt]
    rw [this h]
theorem cvdL_cnt {d : Nat} {l : List N} {k : List M} (h : A2 (Cvd d) l k) : cntL d k = cntNL d l := by
  induction h with
  | nil => rfl
  | cons hp _ ih => rw [cntL_cons, cntNL_cons, ih, hp.cnt]
theorem Cvd.func : ∀ {d : Nat} {x : N} {y z : M}, Cvd d x y → Cvd d x z → y = z
  | d + 1, x, y, z, ⟨a1, a2, a3, a4⟩, ⟨b1, b2, b3, b4⟩ => by
    have : ∀ {l : List N} {k k' : List M}, A2 (Cvd d) l k → A2 (Cvd d) l k' → k = k' := by
      intro l k k' h
      induction h generalizing k' with
      | nil => intro h'; cases h'; rfl
      | cons hp _ ih =>
        intro h'
        cases h' with
        | cons hq ht => rw [hp.func hq, ih ht]
    have e := this a4 b4
    cases y; cases z
    simp only at a1 a2 a3 b1 b2 b3 e
    rw [a1, a2, a3, b1, b2, b3, e]
theorem cvdL_func {d : Nat} {l : List N} {k k' : List M} (h : A2 (Cvd d) l k) (h' : A2 (Cvd d) l k') : k = k' := by
  induction h generalizing k' with
  | nil => cases h'; rfl
  | cons hp _ ih =>
    cases h' with
    | cons hq ht => rw [hp.func hq, ih ht]
theorem A2.append {α β : Type} {P : α → β → Prop} {l l' : List α} {k k' : List β} (h : A2 P l k) (h' : A2 P l' k') : A2 P (l ++ l') (k ++ k') := by
  induction h with
  | nil => exact h'
  | cons hp _ ih => exact .cons hp ih
theorem Of_top {n : Nat} {l : List N} (hl : l.length ≤ 1400) (h : ∀ k ∈ l, OkN 39 k) (hn : 100 ≤ n) : ∃ ys, law43_Of n (⟨1, [], l, 1⟩ : N) = some ⟨1, [], ys, 1⟩ ∧ A2 (Cvd 39) l ys := by
  obtain ⟨m, rfl⟩ : ∃ m, n = m + 1 := ⟨n - 1, by omega⟩
  obtain ⟨ys, e, ha⟩ := Of_L0 (f := law43_Of m) (P := Cvd 39) l 0 [] (fun k hk => Of_ok 39 m k (h k hk) (by omega)) (by simp <;> omega)
  rw [law43_Of, chk_bind (by simp only [szMax]; omega), e, Option.bind_some]
  exact ⟨ys, rfl, ha⟩
end Rt
