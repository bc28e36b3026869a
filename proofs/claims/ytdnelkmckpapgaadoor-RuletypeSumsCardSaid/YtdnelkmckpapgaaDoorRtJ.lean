/- Ruletype: Worst of whole programs; how many nodes a small tree has. -/
import Derived.Test.YtdnelkmckpapgaaDoorRtI
set_option linter.unusedVariables false
set_option linter.unusedSimpArgs false
open Go Go.SL Go.Proofs Pl
namespace Rt
def cntN : Nat → N → Nat
  | 0, _ => 0
  | d + 1, x => 1 + (x.Kids.map (cntN d)).sum
def cntNL (d : Nat) (l : List N) : Nat := (l.map (cntN d)).sum
theorem cntNL_cons (d : Nat) (x : N) (l : List N) : cntNL d (x :: l) = cntN d x + cntNL d l := by simp [cntNL]
theorem cntN_eq (d : Nat) (x : N) : cntN (d + 1) x = 1 + cntNL d x.Kids := rfl
theorem weigh_L0_cnt {f : N → Int → Option Int} {e : Int} {d : Nat} : ∀ (l : List N) (i : Nat) (y : Int) (r : Fl Int Int), 1 ≤ y → (∀ k ∈ l, ∀ v, f k (e - 1) = some v → v ≤ 700 → (cntN d k : Int) ≤ v) → law44_weigh_L0 e f l i y = some r →
    (∀ z, r = Fl.go z → y + (cntNL d l : Int) ≤ z) ∧ ∀ z, r = Fl.ret z → 700 < z
  | [], i, y, r, _, _, h => by cases h; exact ⟨fun z e => by cases e; simp [cntNL], fun z e => by cases e⟩
  | k :: l, i, y, r, hy, hf, h => by
    rw [law44_weigh_L0] at h
    obtain ⟨_, h1⟩ := chkb h
    obtain ⟨v, hv, h2⟩ := bnd h1
    obtain ⟨_, h3⟩ := chkb h2
    by_cases q : y + v > 700
    · rw [if_pos (by simpa using q)] at h3
      cases h3
      exact ⟨fun z e => (by cases e), fun z e => by cases e; exact q⟩
    · rw [if_neg (by simpa using q)] at h3
      have hc := hf k (by simp) v hv (by omega)
      obtain ⟨g1, g2⟩ := weigh_L0_cnt l (i + 1) (y + v) r (by omega) (fun k hk => hf k (by simp [hk])) h3
      refine ⟨fun z e => ?_, g2⟩
      have := g1 z e
      rw [cntNL_cons]; omega
theorem weigh_cnt : ∀ (e n : Nat) (x : N) (v : Int), law44_weigh n x (e : Int) = some v → v ≤ 700 → (cntN e x : Int) ≤ v
  | _, 0, x, v, h, _ => by rw [law44_weigh] at h; cases h
  | 0, n + 1, x, v, h, hv => by
    rw [law44_weigh, if_pos (by simp)] at h
    cases h; omega
  | e + 1, n + 1, x, v, h, hv => by
    rw [law44_weigh] at h
    split at h
    · cases h; omega
    · obtain ⟨_, h1⟩ := chkb h
      obtain ⟨r, hr, h2⟩ := bnd h1
      obtain ⟨g1, g2⟩ := weigh_L0_cnt (d := e) x.Kids 0 1 r (by omega) (fun k hk v hv hv2 => by
        rw [show (((e + 1 : Nat) : Int) - 1) = (e : Int) from by omega] at hv
        exact weigh_cnt e n k v hv hv2) hr
      cases r with
      | ret z => rw [el_ret] at h2; cases h2; have := g2 _ rfl; omega
      | go z => rw [el_go] at h2; cases h2; have := g1 _ rfl; rw [cntN_eq]; omega
theorem Large_cnt {n : Nat} {x : N} (h : law44_Large n x = some false) : cntN 40 x ≤ 700 := by
  unfold law44_Large at h
  obtain ⟨v, hv, h1⟩ := bnd h
  simp only [Option.some.injEq, decide_eq_false_iff_not] at h1
  have := weigh_cnt 40 n x v hv (by omega)
  omega
theorem Cvd.cnt : ∀ {d : Nat} {x : N} {y : M}, Cvd d x y → Rt.cnt d y = cntN d x
  | d + 1, x, y, ⟨_, _, _, h⟩ => by
    rw [cnt_eq, cntN_eq]
    have : ∀ {l : List N} {k : List M}, A2 (Cvd d) l k → cntL d k = cntNL d l := by
      intro l k h
      induction h with
      | nil => rfl
      | cons hp _ ih => rw [cntL_cons, cntNL_cons, ih, hp.cnt]
    rw [this h]
theorem cvdL_cnt {d : Nat} {l : List N} {k : List M} (h : A2 (Cvd d) l k) : cntL d k = cntNL d l := by
  induction h with
  | nil => rfl
  | cons hp _ ih => rw [cntL_cons, cntNL_cons, ih, hp.cnt]
theorem Cvd.func : ∀ {d : Nat} {x : N} {y z : M}, Cvd d x y → Cvd d x z → y = z
  | d + 1, x, y, z, ⟨a1, a2, a3, a4⟩, ⟨b1, b2, b3, b4⟩ => by
    have : ∀ {l : List N} {k k' : List M}, A2 (Cvd d) l k → A2 (Cvd d) l k' → k = k' := by
      intro l k k' h
      induction h generalizing k' with
      | nil => intro h'; cases h'; rfl
      | cons hp _ ih =>
        intro h'
        cases h' with
        | cons hq ht => rw [hp.func hq, ih ht]
    have e := this a4 b4
    cases y; cases z
    simp only at a1 a2 a3 b1 b2 b3 e
    rw [a1, a2, a3, b1, b2, b3, e]
theorem cvdL_func {d : Nat} {l : List N} {k k' : List M} (h : A2 (Cvd d) l k) (h' : A2 (Cvd d) l k') : k = k' := by
  induction h generalizing k' with
  | nil => cases h'; rfl
  | cons hp _ ih =>
    cases h' with
    | cons hq ht => rw [hp.func hq, ih ht]
theorem A2.append {α β : Type} {P : α → β → Prop} {l l' : List α} {k k' : List β} (h : A2 P l k) (h' : A2 P l' k') : A2 P (l ++ l') (k ++ k') := by
  induction h with
  | nil => exact h'
  | cons hp _ ih => exact .cons hp ih
theorem Of_top {n : Nat} {l : List N} (hl : l.length ≤ 1400) (h : ∀ k ∈ l, OkN 39 k) (hn : 100 ≤ n) : ∃ ys, law43_Of n (⟨1, [], l, 1⟩ : N) = some ⟨1, [], ys, 1⟩ ∧ A2 (Cvd 39) l ys := by
  obtain ⟨m, rfl⟩ : ∃ m, n = m + 1 := ⟨n - 1, by omega⟩
  obtain ⟨ys, e, ha⟩ := Of_L0 (f := law43_Of m) (P := Cvd 39) l 0 [] (fun k hk => Of_ok 39 m k (h k hk) (by omega)) (by simp <;> omega)
  rw [law43_Of, chk_bind (by simp only [szMax]; omega), e, Option.bind_some]
  exact ⟨ys, rfl, ha⟩
theorem Valid_top {n : Nat} {ys : List M} (hl : ys.length ≤ 1400) (h : ∀ k ∈ ys, Ok 39 k) (hn : 100000 ≤ n) : ∃ b, ruletree_Valid n ⟨1, [], ys, 1⟩ = some b := by
  obtain ⟨m, rfl⟩ : ∃ m, n = m + 1 := ⟨n - 1, by omega⟩
  have hs : ∃ b z, ruletree_small (m + 1) ⟨1, [], ys, 1⟩ 512 32 = some (b, z) := by
    rw [ruletree_small, chk_bind (by constructor <;> omega), if_neg (by decide), chk_bind (by simp only [szMax]; omega)]
    obtain ⟨r, hr, _, _⟩ := small_L0 (f := ruletree_small m) (d := 32) (by omega) ys 0 (512 - 1) (by omega) (by omega) fun k hk y y0 y1 => small_ok 39 m k y (32 - 1) (h k hk) (by omega) y0 y1 (by omega) (by omega)
    rw [hr, Option.bind_some]
    cases r <;> exact ⟨_, _, rfl⟩
  obtain ⟨b, z, hs⟩ := hs
  unfold ruletree_Valid
  refine ite_ex (fun _ => ⟨_, rfl⟩) fun _ => ?_
  rw [hs, Option.bind_some]
  refine ite_ex (fun _ => ⟨_, rfl⟩) fun _ => ?_
  rw [chk_bind (by simp only [szMax]; omega)]
  obtain ⟨r, hr⟩ := Valid_L0 (n := m + 1) ys 0 fun k hk => stated_ok 39 (m + 1) k (h k hk) (by omega)
  rw [hr, Option.bind_some]
  cases r <;> exact ⟨_, rfl⟩
set_option maxRecDepth 100000 in
theorem Check_top {n : Nat} {ys : List M} (hl : ys.length ≤ 1400) (h : ∀ k ∈ ys, Ok 39 k) (hc : cntL 39 ys ≤ 10000) (hn : 400100 ≤ n) : ∃ r, ruletype_Check n ⟨1, [], ys, 1⟩ = some r ∧ (r.2 = none →
    ∃ (z : List Bd) (w : Int), (ys.length : Int) ≤ w ∧ w ≤ 2000000 ∧ ∀ (j : Nat) (e : List Bd) (y : Int), Ev [] e → e.length ≤ 2000 → 0 ≤ y → y ≤ 5000000 → ∃ e1, ruletype_worst_L0 (n - 1) (ruletype_worst (n - 1)) ys j e y = some (e1, y + w) ∧ Ev [] e1 ∧ e1.length ≤ e.length + ys.length) := by
  obtain ⟨m, rfl⟩ : ∃ m, n = m + 1 := ⟨n - 1, by omega⟩
  rw [show m + 1 - 1 = m from rfl]
  obtain ⟨b, hb⟩ := Valid_top hl h (n := m + 1) (by omega)
  unfold ruletype_Check
  rw [hb, Option.bind_some]
  cases b with
  | false => exact ⟨_, if_pos rfl, fun h => by cases h⟩
  | true =>
    rw [if_neg (by simp)]
    have hs := Valid_inv hb
    have hg : ∀ k ∈ ys, Gd 39 k := fun k hk => ⟨h k hk, m + 1, hs k hk⟩
    obtain ⟨r, hr⟩ := block_L0 (n := m) (d := 38) (f := ruletype_checker_block m) (by omega) (fun l' env' c' h1 h2 h3 => block_ok 38 m l' env' c' h1 h2 h3 (by omega)) ys 0 [] 0 none hg (by simp <;> omega)
    show ∃ r, (Option.bind (ruletype_checker_block (m + 1) ⟨0, none⟩ ys []) _) = some r ∧ _
    rw [ruletype_checker_block, chk_bind (by simp only [szMax]; omega)]
    simp only
    rw [hr, Option.bind_some]
    cases r with
    | ret z => rw [el_ret, Option.bind_some]; exact ⟨_, rfl, fun hz => absurd hz (block_L0_ret ys _ _ _ _ hr)⟩
    | go z =>
      rw [el_go, Option.bind_some]
      refine ⟨_, rfl, fun hz => ?_⟩
      obtain ⟨w, w1, w2, w3, w4⟩ := block_L0_worst (n := m) (n2 := m) (d := 38) (f := ruletype_checker_block m) (f2 := ruletype_worst m) (by omega) (by omega) (fun c l env r => block_stays m c l env r)
        (fun l' env' a' c1 g1 g2 g3 g4 g5 g6 => block_worst 38 m m l' env' a' c1 g1 g2 g3 g4 (by omega) (by omega) g5 g6) ys 0 [] 0 z hg hc (by simp <;> omega) hr hz
      simp only [Nat.reduceAdd] at w2 w4
      refine ⟨z.1, w, w1, by omega, fun j e y e0 e1 y0 y1 => ?_⟩
      obtain ⟨e1, r1, r2, r3⟩ := w4 j e y e0 (by omega) y0 (by omega)
      exact ⟨e1, r1, w3.trans r2, r3⟩
theorem Worst_top {n : Nat} {ys : List M} (hl : ys.length ≤ 1400) (h : ∀ k ∈ ys, Ok 39 k) (hc : cntL 39 ys ≤ 10000) (hn : 400100 ≤ n) : ∃ r, ruletype_Worst n ⟨1, [], ys, 1⟩ = some r ∧ (r.2 = none →
    ∃ (w : Int), r.1 = w + 1 ∧ (ys.length : Int) ≤ w ∧ w ≤ 2000000 ∧ ∀ (j : Nat) (e : List Bd) (y : Int), Ev [] e → e.length ≤ 2000 → 0 ≤ y → y ≤ 5000000 → ∃ e1, ruletype_worst_L0 (n - 1) (ruletype_worst (n - 1)) ys j e y = some (e1, y + w) ∧ Ev [] e1 ∧ e1.length ≤ e.length + ys.length) := by
  obtain ⟨r, hr, hq⟩ := Check_top hl h hc hn
  unfold ruletype_Worst
  rw [hr, Option.bind_some]
  cases q : r.2 with
  | some e => exact ⟨_, if_pos (by simp), fun h => by cases h⟩
  | none =>
    rw [if_neg (by simp)]
    obtain ⟨z, w, w1, w2, w3⟩ := hq q
    obtain ⟨e1, r1, r2, r3⟩ := w3 0 [] 0 (Ev.refl _) (by simp) (by omega) (by omega)
    obtain ⟨m, rfl⟩ : ∃ m, n = m + 1 := ⟨n - 1, by omega⟩
    rw [show m + 1 - 1 = m from rfl] at r1 w3
    simp only
    rw [ruletype_worst, chk_bind (by simp only [szMax]; omega), r1, Option.bind_some]
    simp only [Int.zero_add, Option.bind_some]
    rw [chk_bind (by constructor <;> omega)]
    exact ⟨_, rfl, fun _ => ⟨w, rfl, w1, w2, w3⟩⟩
end Rt
