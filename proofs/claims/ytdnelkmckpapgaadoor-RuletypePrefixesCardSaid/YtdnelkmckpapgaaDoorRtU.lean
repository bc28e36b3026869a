/- Ruletype: the document's validity of statements and programs is the program's. -/
import Derived.Test.YtdnelkmckpapgaaDoorRtT
set_option linter.unusedVariables false
set_option linter.unusedSimpArgs false
open Go Go.SL Go.Proofs Pl
namespace Rt
theorem Sm.ix {f : N → Option Bool} {g : M → Option Bool} {l : List N} {k : List M} (h : A2 (Sm f g) l k) {i : Int} (h0 : 0 ≤ i) (h1 : i < (l.length : Int)) : ∃ a b r, ix l i = some a ∧ ix k i = some b ∧ f a = some r ∧ g b = some r := by
  induction h generalizing i with
  | nil => simp at h1; omega
  | cons hp _ ih =>
    rename_i a b l k _
    simp only [List.length_cons] at h1
    by_cases q : i = 0
    · subst q
      obtain ⟨r, h2, h3⟩ := hp
      exact ⟨a, b, r, rfl, rfl, h2, h3⟩
    · obtain ⟨a', b', r, e1, e2, e3, e4⟩ := ih (i := i - 1) (by omega) (by omega)
      have st : ∀ {α : Type} (x : α) (t : List α), Go.SL.ix (x :: t) i = Go.SL.ix t (i - 1) := fun x t => by
        unfold Go.SL.ix
        rw [if_pos h0, if_pos (by omega), show i.toNat = (i - 1).toNat + 1 from by omega, List.getElem?_cons_succ]
      exact ⟨a', b', r, by rw [st, e1], by rw [st, e2], e3, e4⟩
theorem A2.ix {α β : Type} {P : α → β → Prop} {l : List α} {k : List β} (h : A2 P l k) {i : Int} (h0 : 0 ≤ i) (h1 : i < (l.length : Int)) : ∃ a b, ix l i = some a ∧ ix k i = some b ∧ P a b ∧ a ∈ l := by
  induction h generalizing i with
  | nil => simp at h1; omega
  | cons hp _ ih =>
    rename_i a b l k _
    simp only [List.length_cons] at h1
    by_cases q : i = 0
    · subst q
      exact ⟨a, b, rfl, rfl, hp, by simp⟩
    · obtain ⟨a', b', e1, e2, e3, e4⟩ := ih (i := i - 1) (by omega) (by omega)
      have st : ∀ {α : Type} (x : α) (t : List α), Go.SL.ix (x :: t) i = Go.SL.ix t (i - 1) := fun x t => by
        unfold Go.SL.ix
        rw [if_pos h0, if_pos (by omega), show i.toNat = (i - 1).toNat + 1 from by omega, List.getElem?_cons_succ]
      exact ⟨a', b', by rw [st, e1], by rw [st, e2], e3, by simp [e4]⟩
theorem all_val {m n : Nat} {l : List N} {b : Bool} (hl : l.length ≤ 3000) (hb : ref43_all_L0 (ref43_all m) m l 0 = some (gor b)) : ref43_all (m + 1) l = some b := by
  rw [ref43_all, chk_bind (by simp only [szMax]; omega), hb, Option.bind_some, gor_el, Bool.and_true]
theorem blocked_val {g : M → Option Bool} {n : Nat} {y : M} {b : Bool} (hl : y.Kids.length ≤ 3000) (hb : ruletree_blocked_L0 g y.Kids 0 = some (gor b)) : ruletree_blocked g n y = some ((decide (y.Kind = 12) && decide (y.Text = [])) && b) := by
  unfold ruletree_blocked
  by_cases q : y.Kind = 12
  · by_cases q2 : y.Text = []
    · rw [if_neg (by simp [q, q2]), chk_bind (by simp only [szMax]; omega), hb, Option.bind_some, gor_el, decide_eq_true q, decide_eq_true q2]; cases b <;> rfl
    · rw [if_pos (by simp [q2]), decide_eq_false q2, Bool.and_false, Bool.false_and]
  · rw [if_pos (by simp [q]), decide_eq_false q, Bool.false_and, Bool.false_and]
theorem neg_if {c : Bool} {A : Option Bool} : (if (!c) = true then some false else A) = if c = true then A else some false := by cases c <;> rfl
theorem stated_rel : ∀ (d m f n : Nat) (x : N) (y : M), OkN d x → Cvd d x y → d + 10000 ≤ m → d + 10000 ≤ f → d + 10000 ≤ n → Sm (ref43_stands (ref43_all m) f) (ruletree_stated n) x y
  | d + 1, m, 0, n, x, y, h, hc, hm, hf, hn => by omega
  | d + 1, m, f + 1, 0, x, y, h, hc, hm, hf, hn => by omega
  | d + 1, 0, f + 1, n + 1, x, y, h, hc, hm, hf, hn => by omega
  | d + 1, m + 1, f + 1, n + 1, x, y, h, hc, hm, hf, hn => by
    obtain ⟨h1, h2, h3⟩ := h
    obtain ⟨c1, c2, c3, c4⟩ := hc
    have hlen := c4.len
    have ex : ∀ {i : Int}, 0 ≤ i → i < (x.Kids.length : Int) → ∃ a b r, ix x.Kids i = some a ∧ ix y.Kids i = some b ∧ ref43_expression f a = some r ∧ ruletree_expression n b = some r := fun h0 hi =>
      Sm.ix (c4.imp_mem fun a ha q hq => expression_rel d f n a q (h3 a ha) hq (by omega) (by omega)) h0 hi
    have bl : ∀ {i : Int}, 0 ≤ i → i < (x.Kids.length : Int) → ∃ a b r, ix x.Kids i = some a ∧ ix y.Kids i = some b ∧ ref43_blocks (ref43_all (m + 1)) f a = some r ∧ ruletree_blocked (ruletree_stated n) n b = some r := fun {i} h0 hi => by
      obtain ⟨a, b, e1, e2, hp, ha⟩ := c4.ix h0 hi
      refine ⟨a, b, ?_⟩
      have ho := h3 a ha
      cases d with
      | zero => exact ho.elim
      | succ d =>
        obtain ⟨g1, g2, g3⟩ := ho
        obtain ⟨q1, q2, q3, q4⟩ := hp
        obtain ⟨v, v1, v2⟩ := all_L0_rel (g := ruletree_stated n) (m := m) (n := m) (q4.imp_mem fun a ha q hq => stated_rel d m m n a q (g3 a ha) hq (by omega) (by omega) (by omega)) 0 0
        refine ⟨(decide (a.Kind = 12) && decide (a.Text = [])) && v, e1, e2, ?_, ?_⟩
        · unfold ref43_blocks
          rw [all_val (n := n) (by omega) v1, opt_if]; rfl
        · rw [blocked_val (by rw [q4.len]; omega) v2, q1, q2]
    have st : ∀ {i : Int}, 0 ≤ i → i < (x.Kids.length : Int) → ∃ a b r, ix x.Kids i = some a ∧ ix y.Kids i = some b ∧ b.Kind = a.Kind ∧ ref43_stands (ref43_all (m + 1)) f a = some r ∧ ruletree_stated n b = some r := fun {i} h0 hi => by
      obtain ⟨a, b, e1, e2, hp, ha⟩ := c4.ix h0 hi
      obtain ⟨r, r1, r2⟩ := stated_rel d (m + 1) f n a b (h3 a ha) hp (by omega) (by omega) (by omega)
      cases d with
      | zero => exact (h3 a ha).elim
      | succ d => exact ⟨a, b, r, e1, e2, hp.1, r1, r2⟩
    -- one expression
    have one : ∃ b : Bool, (∀ c : Bool, (if c = true then (ref43_exprs (ref43_expression f) f x.Kids 1).bind fun x85 => some x85 else some false) = some (c && b)) ∧
        ((if decide ((y.Kids.length : Int) = 1) then (ix y.Kids 0).bind fun x121 => (ruletree_expression n x121).bind fun x123 => some x123 else some false).bind fun x124 => some x124) = some b := by
      by_cases q : (x.Kids.length : Int) = 1
      · obtain ⟨a, b, r, e1, e2, e3, e4⟩ := ex (i := 0) (by omega) (by omega)
        refine ⟨r, fun c => ?_, ?_⟩
        · have hx : x.Kids = [a] := by
            match hk : x.Kids, q, e1 with
            | [z], _, e1 => cases e1; rfl
          have hb : ref43_exprs_L0 (ref43_expression f) x.Kids 0 = some (gor r) := by
            rw [hx, ref43_exprs_L0, e3, Option.bind_some]; cases r <;> rfl
          rw [exprs_val (by omega) hb, decide_eq_true q, Bool.and_true, opt_if]
        · rw [hlen, if_pos (by simpa using q), e2, Option.bind_some, e4]; rfl
      · obtain ⟨b, b1, b2, b3⟩ := exprs_L0_rel (c4.imp_mem fun a ha q hq => expression_rel d f n a q (h3 a ha) hq (by omega) (by omega)) 0 0
        refine ⟨false, fun c => ?_, ?_⟩
        · rw [exprs_val (by omega) b1, decide_eq_false q, Bool.and_false, opt_if]
        · rw [hlen, if_neg (by simpa using q)]; rfl
    obtain ⟨B, B1, B2⟩ := one
    by_cases k2 : x.Kind = 2
    · unfold Sm
      have d2 : decide (x.Kind = 2) = true := decide_eq_true k2
      rw [ref43_stands, ruletree_stated, c1, c2, hlen, if_pos d2, if_pos d2]
      cases q : ((decide (x.Text ≠ ([] : Str)) || decide ((x.Kids.length : Int) < 2)) || decide ((x.Kids.length : Int) > 3)) with
      | true => exact ⟨false, rfl, rfl⟩
      | false =>
        simp only [Bool.or_eq_false_iff, decide_eq_false_iff_not] at q
        obtain ⟨a0, b0, r0, e1, e2, e3, e4⟩ := ex (i := 0) (by omega) (by omega)
        simp only [Bool.false_eq_true, if_false]
        rw [e1, e2]
        simp only [Option.bind_some]
        rw [e3, e4]
        simp only [Option.bind_some]
        cases r0 with
        | false => exact ⟨false, rfl, rfl⟩
        | true =>
          obtain ⟨a1, b1, r1, f1, f2, f3, f4⟩ := bl (i := 1) (by omega) (by omega)
          simp only [Option.bind_some, Bool.not_true, Bool.false_eq_true, if_false]
          rw [f1, f2]
          simp only [Option.bind_some]
          rw [f3, f4]
          simp only [Option.bind_some]
          cases r1 with
          | false => exact ⟨false, rfl, rfl⟩
          | true =>
            simp only [Option.bind_some, Bool.not_true, Bool.false_eq_true, if_false]
            by_cases k3 : (x.Kids.length : Int) = 2
            · rw [decide_eq_true k3]; exact ⟨true, rfl, rfl⟩
            · obtain ⟨a2, b2, r2, g1, g2, g3, g4⟩ := bl (i := 2) (by omega) (by omega)
              obtain ⟨a3, b3, r3, g5, g6, g7, g8, g9⟩ := st (i := 2) (by omega) (by omega)
              rw [g1] at g5
              rw [g2] at g6
              cases g5
              cases g6
              rw [decide_eq_false k3]
              simp only [Bool.false_eq_true, if_false]
              rw [g1, g2]
              simp only [Option.bind_some]
              rw [g3, g4]
              simp only [Option.bind_some]
              cases r2 with
              | true => exact ⟨true, rfl, rfl⟩
              | false =>
                simp only [Bool.false_eq_true, if_false]
                rw [g7]
                cases q3 : decide (a2.Kind = 2) with
                | false => exact ⟨false, rfl, rfl⟩
                | true =>
                  simp only [if_true]
                  rw [g8, g9]
                  exact ⟨r3, rfl, rfl⟩
    by_cases k3 : x.Kind = 3
    · refine ⟨nm x.Text && B, ?_, ?_⟩
      · rw [ref43_stands, if_neg (by simpa using k2), if_pos (by simpa using k3), named2_eq (by omega), Option.bind_some, B1]; rfl
      · rw [ruletree_stated, c1, c2, if_neg (by simpa using k2), if_neg (by simp [k3]), if_neg (by simp [k3]), if_neg (by simp [k3]), if_pos (by simpa using k3), named_eq (by omega), Option.bind_some, neg_if, B2]
        cases nm x.Text <;> rfl
    by_cases k4 : x.Kind = 4
    · refine ⟨(decide (x.Text = ([112, 97, 116, 104] : Str)) || decide (x.Text = ([113, 117, 101, 114, 121] : Str))) && B, ?_, ?_⟩
      · rw [ref43_stands, if_neg (by simpa using k2), if_neg (by simpa using k3), if_pos (by simpa using k4), B1]; rfl
      · rw [ruletree_stated, c1, c2, if_neg (by simpa using k2), if_neg (by simp [k4]), if_neg (by simp [k4]), if_neg (by simp [k4]), if_neg (by simpa using k3), if_pos (by simpa using k4), B2]
        by_cases t1 : x.Text = ([112, 97, 116, 104] : Str)
        · rw [if_neg (by simp [t1]), decide_eq_true t1]; rfl
        · by_cases t2 : x.Text = ([113, 117, 101, 114, 121] : Str)
          · rw [if_neg (by simp [t2]), decide_eq_true t2, Bool.or_true]; rfl
          · rw [if_pos (by simp [t1, t2]), decide_eq_false t1, decide_eq_false t2]; rfl
    by_cases k5 : x.Kind = 5
    · refine ⟨prt x.Text && B, ?_, ?_⟩
      · rw [ref43_stands, if_neg (by simpa using k2), if_neg (by simpa using k3), if_neg (by simpa using k4), if_pos (by simpa using k5), printable2_eq h1, Option.bind_some, B1]; rfl
      · rw [ruletree_stated, c1, c2, if_neg (by simpa using k2), if_neg (by simp [k5]), if_neg (by simp [k5]), if_neg (by simp [k5]), if_neg (by simpa using k3), if_neg (by simpa using k4), if_pos (by simpa using k5), printable_eq h1, Option.bind_some, neg_if, B2]
        cases prt x.Text <;> rfl
    by_cases k6 : x.Kind = 6
    · refine ⟨prt x.Text && decide ((x.Kids.length : Int) = 0), ?_, ?_⟩
      · rw [ref43_stands, if_neg (by simpa using k2), if_neg (by simpa using k3), if_neg (by simpa using k4), if_neg (by simpa using k5), if_pos (by simpa using k6), printable2_eq h1, Option.bind_some]
      · rw [ruletree_stated, c1, c2, hlen, if_neg (by simpa using k2), if_pos (by simpa using k6), printable_eq h1, Option.bind_some]
    have txt : ∀ {C : Option Bool}, (if decide (x.Text ≠ ([] : Str)) = true then some false else C) = if decide (x.Text = ([] : Str)) = true then C else some false := fun {C} => by
      by_cases q : x.Text = []
      · rw [if_neg (by simp [q]), if_pos (by simpa using q)]
      · rw [if_pos (by simpa using q), if_neg (by simpa using q)]
    by_cases k7 : x.Kind = 7
    · refine ⟨decide (x.Text = []) && B, ?_, ?_⟩
      · rw [ref43_stands, if_neg (by simpa using k2), if_neg (by simpa using k3), if_neg (by simpa using k4), if_neg (by simpa using k5), if_neg (by simpa using k6), if_pos (by simpa using k7), B1]; rfl
      · rw [ruletree_stated, c1, c2, if_neg (by simpa using k2), if_neg (by simpa using k6), if_neg (by simp [k7]), if_neg (by simp [k7]), if_neg (by simpa using k3), if_neg (by simpa using k4), if_neg (by simpa using k5), if_pos (by simpa using k7), txt, B2]
        cases decide (x.Text = []) <;> rfl
    by_cases k8 : x.Kind = 8
    · refine ⟨decide (x.Text = []) && B, ?_, ?_⟩
      · rw [ref43_stands, if_neg (by simpa using k2), if_neg (by simpa using k3), if_neg (by simpa using k4), if_neg (by simpa using k5), if_neg (by simpa using k6), if_neg (by simpa using k7), if_pos (by simpa using k8), B1]; rfl
      · rw [ruletree_stated, c1, c2, if_neg (by simpa using k2), if_neg (by simpa using k6), if_neg (by simp [k8]), if_neg (by simp [k8]), if_neg (by simpa using k3), if_neg (by simpa using k4), if_neg (by simpa using k5), if_neg (by simpa using k7), if_pos (by simpa using k8), txt, B2]
        cases decide (x.Text = []) <;> rfl
    by_cases k9 : x.Kind = 9
    · refine ⟨decide (x.Text = []) && B, ?_, ?_⟩
      · rw [ref43_stands, if_neg (by simpa using k2), if_neg (by simpa using k3), if_neg (by simpa using k4), if_neg (by simpa using k5), if_neg (by simpa using k6), if_neg (by simpa using k7), if_neg (by simpa using k8), if_pos (by simpa using k9), B1]; rfl
      · rw [ruletree_stated, c1, c2, if_neg (by simpa using k2), if_neg (by simpa using k6), if_neg (by simp [k9]), if_neg (by simp [k9]), if_neg (by simpa using k3), if_neg (by simpa using k4), if_neg (by simpa using k5), if_neg (by simpa using k7), if_neg (by simpa using k8), if_pos (by simpa using k9), txt, B2]
        cases decide (x.Text = []) <;> rfl
    by_cases k10 : x.Kind = 10
    · refine ⟨decide (x.Text = []) && decide ((x.Kids.length : Int) = 0), ?_, ?_⟩
      · rw [ref43_stands, if_neg (by simpa using k2), if_neg (by simpa using k3), if_neg (by simpa using k4), if_neg (by simpa using k5), if_neg (by simpa using k6), if_neg (by simpa using k7), if_neg (by simpa using k8), if_neg (by simpa using k9), if_pos (by simpa using k10)]
      · rw [ruletree_stated, c1, c2, hlen, if_neg (by simpa using k2), if_neg (by simpa using k6), if_pos (by simpa using k10)]
    by_cases k11 : x.Kind = 11
    · refine ⟨decide (x.Text = []) && decide ((x.Kids.length : Int) = 0), ?_, ?_⟩
      · rw [ref43_stands, if_neg (by simpa using k2), if_neg (by simpa using k3), if_neg (by simpa using k4), if_neg (by simpa using k5), if_neg (by simpa using k6), if_neg (by simpa using k7), if_neg (by simpa using k8), if_neg (by simpa using k9), if_neg (by simpa using k10), if_pos (by simpa using k11)]
      · rw [ruletree_stated, c1, c2, hlen, if_neg (by simpa using k2), if_neg (by simpa using k6), if_neg (by simpa using k10), if_pos (by simpa using k11)]
    · refine ⟨false, ?_, ?_⟩
      · rw [ref43_stands, if_neg (by simpa using k2), if_neg (by simpa using k3), if_neg (by simpa using k4), if_neg (by simpa using k5), if_neg (by simpa using k6), if_neg (by simpa using k7), if_neg (by simpa using k8), if_neg (by simpa using k9), if_neg (by simpa using k10), if_neg (by simpa using k11)]
      · rw [ruletree_stated, c1, if_neg (by simpa using k2), if_neg (by simpa using k6), if_neg (by simpa using k10), if_neg (by simpa using k11), if_neg (by simpa using k3), if_neg (by simpa using k4), if_neg (by simpa using k5), if_neg (by simpa using k7), if_neg (by simpa using k8), if_neg (by simpa using k9)]
/-! ### sizes -/
theorem size_L0 {f : N → Option Int} {d : Nat} : ∀ (l : List N) (i : Nat) (y : Int), (∀ k ∈ l, f k = some (cntN d k : Int)) → 0 ≤ y → y + cntNL d l ≤ 1000000 → ref43_Size_L0 f l i y = some (y + cntNL d l)
  | [], i, y, _, _, _ => by simp [ref43_Size_L0, cntNL]
  | k :: l, i, y, h, h0, hy => by
    rw [cntNL_cons] at hy
    rw [ref43_Size_L0, h k (by simp), Option.bind_some, chk_bind (by constructor <;> omega), size_L0 l (i + 1) _ (fun q hq => h q (by simp [hq])) (by omega) (by omega), cntNL_cons]
    congr 1; omega
theorem cntNL_mem {d : Nat} : ∀ {l : List N} {k : N}, k ∈ l → cntN d k ≤ cntNL d l
  | a :: l, k, h => by
    rw [cntNL_cons]
    rcases List.mem_cons.1 h with rfl | h
    · omega
    · have := cntNL_mem (d := d) h; omega
theorem size_val : ∀ (d n : Nat) (x : N), OkN d x → d ≤ n → cntN d x ≤ 10000 → ref43_Size n x = some (cntN d x : Int)
  | d + 1, 0, x, h, hn, hc => by omega
  | d + 1, n + 1, x, h, hn, hc => by
    obtain ⟨h1, h2, h3⟩ := h
    rw [cntN_eq] at hc
    rw [ref43_Size, chk_bind (by simp only [szMax]; omega), size_L0 x.Kids 0 1 (fun k hk => size_val d n k (h3 k hk) (by omega) (by have := cntNL_mem (d := d) hk; omega)) (by omega) (by omega), Option.bind_some, cntN_eq]
    congr 1
def depN : Nat → N → Nat
  | 0, _ => 0
  | d + 1, x => 1 + x.Kids.foldl (fun a k => max a (depN d k)) 0
def depNL (d : Nat) (l : List N) (a : Nat) : Nat := l.foldl (fun a k => max a (depN d k)) a
theorem depNL_ge (d : Nat) : ∀ (l : List N) (a : Nat), a ≤ depNL d l a
  | [], a => Nat.le_refl _
  | k :: l, a => Nat.le_trans (Nat.le_max_left _ _) (depNL_ge d l (max a (depN d k)))
theorem depNL_le (d : Nat) : ∀ (l : List N) (a e : Nat), depNL d l a ≤ e ↔ a ≤ e ∧ ∀ k ∈ l, depN d k ≤ e
  | [], a, e => by simp [depNL]
  | k :: l, a, e => by
    show depNL d l (max a (depN d k)) ≤ e ↔ _
    rw [depNL_le d l]
    simp only [List.mem_cons, Nat.max_le]
    constructor
    · exact fun ⟨⟨h1, h2⟩, h3⟩ => ⟨h1, fun q hq => hq.elim (fun e => e ▸ h2) (h3 q)⟩
    · exact fun ⟨h1, h2⟩ => ⟨⟨h1, h2 k (.inl rfl)⟩, fun q hq => h2 q (.inr hq)⟩
theorem depN_le : ∀ (d : Nat) (x : N), depN d x ≤ d
  | 0, x => Nat.le_refl _
  | d + 1, x => by
    have : depNL d x.Kids 0 ≤ d := (depNL_le d x.Kids 0 d).2 ⟨by omega, fun k _ => depN_le d k⟩
    show 1 + depNL d x.Kids 0 ≤ d + 1
    omega
theorem depth_L0 {f : N → Option Int} {d : Nat} : ∀ (l : List N) (i a : Nat), (∀ k ∈ l, f k = some (depN d k : Int)) → ref43_Depth_L0 f l i (a : Int) = some (depNL d l a : Int)
  | [], i, a, _ => rfl
  | k :: l, i, a, h => by
    rw [ref43_Depth_L0, h k (by simp), Option.bind_some, show max (a : Int) (depN d k : Int) = ((max a (depN d k) : Nat) : Int) from by omega]
    exact depth_L0 l (i + 1) _ fun q hq => h q (by simp [hq])
theorem depth_val : ∀ (d n : Nat) (x : N), OkN d x → d ≤ n → d ≤ 1000 → ref43_Depth n x = some (depN d x : Int)
  | d + 1, 0, x, h, hn, hd => by omega
  | d + 1, n + 1, x, h, hn, hd => by
    obtain ⟨h1, h2, h3⟩ := h
    have := depN_le (d + 1) x
    have e : depN (d + 1) x = 1 + depNL d x.Kids 0 := rfl
    rw [ref43_Depth, chk_bind (by simp only [szMax]; omega), show (0 : Int) = ((0 : Nat) : Int) from rfl, depth_L0 x.Kids 0 0 fun k hk => depth_val d n k (h3 k hk) (by omega) (by omega), Option.bind_some, chk_bind (by constructor <;> omega), e]
    congr 1; omega
theorem small_L0_val {d : Nat} {e : Int} {f : M → Int → Int → Option (Bool × Int)} (he : 0 < e ∧ e ≤ 1000) {l : List N} {k : List M} (h : A2 (fun x y => ∀ z : Int, 0 ≤ z → z ≤ 1000 → ∃ m, f y z (e - 1) = some (decide ((cntN d x : Int) ≤ z ∧ (depN d x : Int) ≤ e - 1), m) ∧ ((cntN d x : Int) ≤ z ∧ (depN d x : Int) ≤ e - 1 → m = z - cntN d x)) l k) :
    ∀ (i : Nat) (z : Int), 0 ≤ z → z ≤ 1000 → ∃ r, ruletree_small_L0 e f k i z = some r ∧ ((cntNL d l : Int) ≤ z ∧ (∀ q ∈ l, (depN d q : Int) ≤ e - 1) → r = Fl.go (z - cntNL d l)) ∧ (¬ ((cntNL d l : Int) ≤ z ∧ ∀ q ∈ l, (depN d q : Int) ≤ e - 1) → ∃ m, r = Fl.ret (false, m)) := by
  induction h with
  | nil => exact fun i z h0 h1 => ⟨_, rfl, fun _ => by simp [cntNL], fun h => (h ⟨by simpa [cntNL] using h0, by simp⟩).elim⟩
  | cons hp _ ih =>
    rename_i x y l k _
    intro i z h0 h1
    obtain ⟨m, e1, e2⟩ := hp z h0 h1
    rw [ruletree_small_L0, chk_bind (by constructor <;> omega), e1, Option.bind_some, cntNL_cons]
    by_cases q : (cntN d x : Int) ≤ z ∧ (depN d x : Int) ≤ e - 1
    · obtain rfl := e2 q
      obtain ⟨r, r1, r2, r3⟩ := ih (i + 1) (z - cntN d x) (by omega) (by omega)
      rw [if_neg (by simp [q])]
      refine ⟨r, r1, fun g => ?_, fun g => ?_⟩
      · rw [r2 ⟨by omega, fun q hq => g.2 q (by simp [hq])⟩]; congr 1; omega
      · exact r3 fun g' => g ⟨by omega, fun p hp => by
          rcases List.mem_cons.1 hp with rfl | hp
          · exact q.2
          · exact g'.2 p hp⟩
    · rw [if_pos (by simp only [decide_eq_false q]; rfl)]
      exact ⟨_, rfl, fun g => (q ⟨by omega, g.2 x (by simp)⟩).elim, fun _ => ⟨m, rfl⟩⟩
theorem small_val : ∀ (d n : Nat) (x : N) (y : M) (z e : Int), OkN d x → Cvd d x y → d ≤ n → 0 ≤ z → z ≤ 1000 → 0 ≤ e → e ≤ 1000 → ∃ m, ruletree_small n y z e = some (decide ((cntN d x : Int) ≤ z ∧ (depN d x : Int) ≤ e), m) ∧ ((cntN d x : Int) ≤ z ∧ (depN d x : Int) ≤ e → m = z - cntN d x)
  | d + 1, 0, x, y, z, e, h, hc, hn, h0, h1, e0, e1 => by omega
  | d + 1, n + 1, x, y, z, e, h, hc, hn, h0, h1, e0, e1 => by
    obtain ⟨g1, g2, g3⟩ := h
    obtain ⟨c1, c2, c3, c4⟩ := hc
    have ed : depN (d + 1) x = 1 + depNL d x.Kids 0 := rfl
    rw [ruletree_small, chk_bind (by constructor <;> omega), cntN_eq]
    cases q : (decide (z - 1 < 0) || decide (e < 1)) with
    | true =>
      rw [if_pos rfl]
      have : ¬ (((1 + cntNL d x.Kids : Nat) : Int) ≤ z ∧ ((depN (d + 1) x : Nat) : Int) ≤ e) := by
        simp only [Bool.or_eq_true, decide_eq_true_eq] at q
        omega
      exact ⟨z - 1, by rw [decide_eq_false this], fun h => absurd h this⟩
    | false =>
      simp only [Bool.or_eq_false_iff, decide_eq_false_iff_not] at q
      obtain ⟨r, r1, r2, r3⟩ := small_L0_val (d := d) (e := e) (f := ruletree_small n) (by omega) (c4.imp_mem fun a ha b hb z y0 y1 => small_val d n a b z (e - 1) (g3 a ha) hb (by omega) y0 y1 (by omega) (by omega)) 0 (z - 1) (by omega) (by omega)
      rw [if_neg (by simp), chk_bind (by simp only [szMax]; rw [c4.len]; omega), r1, Option.bind_some]
      have key : (((1 + cntNL d x.Kids : Nat) : Int) ≤ z ∧ ((depN (d + 1) x : Nat) : Int) ≤ e) ↔ ((cntNL d x.Kids : Int) ≤ z - 1 ∧ ∀ q ∈ x.Kids, (depN d q : Int) ≤ e - 1) := by
        have hd := depNL_le d x.Kids 0 (e - 1).toNat
        constructor
        · intro ⟨a1, a2⟩
          refine ⟨by omega, fun k hk => ?_⟩
          have := (hd.1 (by omega)).2 k hk
          omega
        · intro ⟨a1, a2⟩
          refine ⟨by omega, ?_⟩
          have := hd.2 ⟨by omega, fun k hk => by have := a2 k hk; omega⟩
          omega
      by_cases q3 : (cntNL d x.Kids : Int) ≤ z - 1 ∧ ∀ q ∈ x.Kids, (depN d q : Int) ≤ e - 1
      · rw [r2 q3, el_go]
        exact ⟨_, by rw [decide_eq_true (key.2 q3)], fun _ => by omega⟩
      · obtain ⟨m, rfl⟩ := r3 q3
        have nk : ¬ (((1 + cntNL d x.Kids : Nat) : Int) ≤ z ∧ ((depN (d + 1) x : Nat) : Int) ≤ e) := fun h => q3 (key.1 h)
        rw [el_ret]
        exact ⟨m, by rw [decide_eq_false nk], fun h => absurd h nk⟩
theorem Valid_rel {d n : Nat} {x : N} {y : M} (h : OkN (d + 1) x) (hc : Cvd (d + 1) x y) (hd : d + 1 ≤ 1000) (hn : d + 10002 ≤ n) (hs : cntN (d + 1) x ≤ 10000) : Sm (ref43_Valid n) (ruletree_Valid n) x y := by
  obtain ⟨m, hm1, hm2⟩ := small_val (d + 1) n x y 512 32 h hc (by omega) (by omega) (by omega) (by omega) (by omega)
  have hz := size_val (d + 1) n x h (by omega) hs
  have hp := depth_val (d + 1) n x h (by omega) (by omega)
  obtain ⟨k, rfl⟩ : ∃ k, n = k + 1 := ⟨n - 1, by omega⟩
  obtain ⟨g1, g2, g3⟩ := h
  obtain ⟨c1, c2, c3, c4⟩ := hc
  obtain ⟨v, v1, v2⟩ := all_L0_rel (g := ruletree_stated (k + 1)) (m := k) (n := k) (c4.imp_mem fun a ha q hq => stated_rel d k k (k + 1) a q (g3 a ha) hq (by omega) (by omega) (by omega)) 0 0
  unfold Sm ref43_Valid ruletree_Valid
  rw [c1, c2]
  by_cases q1 : x.Kind = 1
  · by_cases q2 : x.Text = []
    · rw [if_pos (by simp [q1, q2]), if_neg (by simp [q1, q2]), hz, hm1, Option.bind_some, Option.bind_some, Option.bind_some]
      by_cases q3 : (cntN (d + 1) x : Int) ≤ 512
      · rw [if_pos (by simpa using q3), hp, Option.bind_some, Option.bind_some]
        by_cases q4 : (depN (d + 1) x : Int) ≤ 32
        · rw [if_pos (by simpa using q4), if_neg (by simp [q3, q4]), chk_bind (by simp only [szMax]; rw [c4.len]; omega), all_val (n := k) (by omega) v1, valid_L0_blocked y.Kids 0 0, v2, Option.bind_some, Option.bind_some]
          refine ⟨v, rfl, ?_⟩
          rw [Option.bind_some, gor_el, Bool.and_true]
        · rw [if_neg (by simpa using q4), if_pos (by simp; omega)]; exact ⟨false, rfl, rfl⟩
      · rw [if_neg (by simpa using q3), if_pos (by simp; omega)]; exact ⟨false, rfl, rfl⟩
    · rw [if_neg (by simp [q2]), if_pos (by simp [q2])]; exact ⟨false, rfl, rfl⟩
  · rw [if_neg (by simp [q1]), if_pos (by simp [q1])]; exact ⟨false, rfl, rfl⟩
end Rt
