/- Ruletype: validity returns, and what it says. -/
import Derived.Test.YtdnelkmckpapgaaDoorRtL
set_option linter.unusedVariables false
set_option linter.unusedSimpArgs false
open Go Go.SL Go.Proofs Pl
namespace Rt
abbrev M := S_ruletree_Node
abbrev N := S_ref43_Node
def Ok : Nat → M → Prop
  | 0, _ => False
  | d + 1, x => x.Text.length ≤ 3000 ∧ x.Kids.length ≤ 700 ∧ ∀ k ∈ x.Kids, Ok d k
theorem Ok.succ : ∀ {d : Nat} {x : M}, Ok d x → Ok (d + 1) x
  | d + 1, x, h => ⟨h.1, h.2.1, fun k hk => (h.2.2 k hk).succ⟩
theorem operands_ok {n : Nat} (hn : 10000 ≤ n) {x : M} (ht : x.Text.length ≤ 3000) : ∃ k, ruletree_operands n x = some k ∧ (x.Kind = 16 → k = 2 ∨ k = -2) := by
  have st : ∀ {b : Bool} {p q : Option Int} {P : Int → Prop}, (b = true → ∃ k, p = some k ∧ P k) → (b = false → ∃ k, q = some k ∧ P k) → ∃ k, (if b = true then p else q) = some k ∧ P k := fun {b p q P} h1 h2 => by
    cases b with
    | true => exact h1 rfl
    | false => exact h2 rfl
  have bd : ∀ {β : Type} {o : Option β} {f : β → Option Int} {P : Int → Prop}, (∃ a, o = some a) → (∀ a, ∃ k, f a = some k ∧ P k) → ∃ k, o.bind f = some k ∧ P k := fun {β o f P} h1 h2 => by
    obtain ⟨a, ha⟩ := h1
    rw [ha, Option.bind_some]; exact h2 a
  have two : ∀ {b : Bool} {q : Int}, (x.Kind = 16 → q = 2) → ∃ k, (if b = true then some (-2) else some q : Option Int) = some k ∧ (x.Kind = 16 → k = 2 ∨ k = -2) := fun {b q} hq => st (fun _ => ⟨_, rfl, fun _ => .inr rfl⟩) fun _ => ⟨_, rfl, fun h => .inl (hq h)⟩
  unfold ruletree_operands
  refine st (fun _ => two fun _ => rfl) fun _ => ?_
  refine st (fun _ => two fun _ => rfl) fun _ => ?_
  refine st (fun _ => two fun _ => rfl) fun _ => ?_
  refine st (fun _ => two fun _ => rfl) fun _ => ?_
  refine st (fun _ => two fun _ => rfl) fun _ => ?_
  refine st (fun h => two fun h2 => by have h := of_decide_eq_true h; omega) fun _ => ?_
  refine st (fun _ => bd (compares_ok 4 _) fun a => bd (ite_ex (fun _ => ⟨_, rfl⟩) fun _ => bind_ex (compares_ok 1 _) fun _ _ => ⟨_, rfl⟩) fun b => two fun _ => rfl) fun h16 => ?_
  have h16 : x.Kind ≠ 16 := of_decide_eq_false h16
  refine st (fun _ => bd (digits_ok ht) fun a => two fun h => absurd h h16) fun _ => ?_
  refine st (fun _ => bd (printable_ok ht) fun a => two fun h => absurd h h16) fun _ => ?_
  refine st (fun _ => two fun h => absurd h h16) fun _ => ?_
  refine st (fun _ => bd (named_ok hn _) fun a => two fun h => absurd h h16) fun _ => ?_
  refine st (fun _ => bd (named_ok hn _) fun a => two fun h => absurd h h16) fun _ => ?_
  exact ⟨_, rfl, fun _ => .inr rfl⟩
theorem expression_L0 {f : M → Option Bool} : ∀ (l : List M) (i : Nat), (∀ k ∈ l, ∃ b, f k = some b) → ∃ r, ruletree_expression_L0 f l i = some r
  | [], i, _ => ⟨_, rfl⟩
  | k :: l, i, h => by
    rw [ruletree_expression_L0]
    exact bind_ex (h k (by simp)) fun _ _ => ite_ex (fun _ => ⟨_, rfl⟩) fun _ => expression_L0 l (i + 1) fun k hk => h k (by simp [hk])
theorem expression_ok : ∀ (d n : Nat) (x : M), Ok d x → d + 10000 ≤ n → ∃ b, ruletree_expression n x = some b
  | d + 1, 0, x, h, hn => by omega
  | d + 1, n + 1, x, h, hn => by
    obtain ⟨h1, h2, h3⟩ := h
    obtain ⟨k, hk, _⟩ := operands_ok (n := n) (by omega) h1
    rw [ruletree_expression]
    rw [hk, Option.bind_some]
    refine ite_ex (fun _ => ⟨_, rfl⟩) fun _ => ite_ex (fun _ => ⟨_, rfl⟩) fun _ => ?_
    rw [chk_bind (by simp only [szMax]; omega)]
    obtain ⟨r, hr⟩ := expression_L0 (f := ruletree_expression n) x.Kids 0 fun c hc => expression_ok d n c (h3 c hc) (by omega)
    rw [hr, Option.bind_some]
    cases r <;> exact ⟨_, rfl⟩
theorem expression_L0_inv {f : M → Option Bool} : ∀ (l : List M) (i : Nat), (ruletree_expression_L0 f l i).bind (fun s0 => s0.el some fun t0 => some true) = some true → ∀ k ∈ l, f k = some true
  | [], i, _, k, hk => by cases hk
  | a :: l, i, h, k, hk => by
    rw [ruletree_expression_L0] at h
    cases ha : f a with
    | none => rw [ha] at h; cases h
    | some b =>
      rw [ha, Option.bind_some] at h
      cases b with
      | false => simp [Fl.el] at h
      | true =>
        rw [if_neg (by simp)] at h
        rcases List.mem_cons.1 hk with rfl | hk
        · exact ha
        · exact expression_L0_inv l (i + 1) h k hk
theorem expression_inv {n : Nat} {x : M} (h : ruletree_expression n x = some true) : ∃ m k, n = m + 1 ∧ ruletree_operands m x = some k ∧ k ≠ -2 ∧ (0 ≤ k → (x.Kids.length : Int) = k) ∧ ∀ c ∈ x.Kids, ruletree_expression m c = some true := by
  cases n with
  | zero => rw [ruletree_expression] at h; cases h
  | succ m =>
    rw [ruletree_expression] at h
    obtain ⟨k, hk, h⟩ := bnd h
    refine ⟨m, k, rfl, hk, ?_⟩
    cases q : decide (k = -2) with
    | true => rw [q, if_pos rfl] at h; cases h
    | false =>
      rw [q, if_neg (by simp)] at h
      refine ⟨of_decide_eq_false q, ?_⟩
      cases q2 : (decide (k ≥ 0) && decide ((x.Kids.length : Int) ≠ k)) with
      | true => rw [q2, if_pos rfl] at h; cases h
      | false =>
        rw [q2, if_neg (by simp)] at h
        obtain ⟨_, h⟩ := chkb h
        refine ⟨fun h0 => ?_, expression_L0_inv x.Kids 0 h⟩
        simp only [Bool.and_eq_false_iff, decide_eq_false_iff_not] at q2
        omega
theorem blocked_L0 {f : M → Option Bool} : ∀ (l : List M) (i : Nat), (∀ k ∈ l, ∃ b, f k = some b) → ∃ r, ruletree_blocked_L0 f l i = some r
  | [], i, _ => ⟨_, rfl⟩
  | k :: l, i, h => by
    rw [ruletree_blocked_L0]
    exact bind_ex (h k (by simp)) fun _ _ => ite_ex (fun _ => ⟨_, rfl⟩) fun _ => blocked_L0 l (i + 1) fun k hk => h k (by simp [hk])
theorem blocked_ok {f : M → Option Bool} {n : Nat} {x : M} (hl : x.Kids.length ≤ 700) (h : ∀ k ∈ x.Kids, ∃ b, f k = some b) : ∃ b, ruletree_blocked f n x = some b := by
  unfold ruletree_blocked
  refine ite_ex (fun _ => ⟨_, rfl⟩) fun _ => ?_
  rw [chk_bind (by simp only [szMax]; omega)]
  obtain ⟨r, hr⟩ := blocked_L0 (f := f) x.Kids 0 h
  rw [hr, Option.bind_some]
  cases r <;> exact ⟨_, rfl⟩
theorem blocked_L0_inv {f : M → Option Bool} : ∀ (l : List M) (i : Nat), (ruletree_blocked_L0 f l i).bind (fun s0 => s0.el some fun t0 => some true) = some true → ∀ k ∈ l, f k = some true
  | [], i, _, k, hk => by cases hk
  | a :: l, i, h, k, hk => by
    rw [ruletree_blocked_L0] at h
    cases ha : f a with
    | none => rw [ha] at h; cases h
    | some b =>
      rw [ha, Option.bind_some] at h
      cases b with
      | false => simp [Fl.el] at h
      | true =>
        rw [if_neg (by simp)] at h
        rcases List.mem_cons.1 hk with rfl | hk
        · exact ha
        · exact blocked_L0_inv l (i + 1) h k hk
theorem blocked_inv {f : M → Option Bool} {n : Nat} {x : M} (h : ruletree_blocked f n x = some true) : x.Kind = 12 ∧ ∀ k ∈ x.Kids, f k = some true := by
  unfold ruletree_blocked at h
  cases q : (decide (x.Kind ≠ 12) || decide (x.Text ≠ ([] : Str))) with
  | true => rw [q, if_pos rfl] at h; cases h
  | false =>
    rw [q, if_neg (by simp)] at h
    obtain ⟨_, h⟩ := chkb h
    simp only [Bool.or_eq_false_iff, decide_eq_false_iff_not, Classical.not_not] at q
    exact ⟨q.1, blocked_L0_inv x.Kids 0 h⟩
theorem stated_ok : ∀ (d n : Nat) (x : M), Ok d x → d + 10000 ≤ n → ∃ b, ruletree_stated n x = some b
  | d + 1, 0, x, h, hn => by omega
  | d + 1, n + 1, x, h, hn => by
    obtain ⟨h1, h2, h3⟩ := h
    have ex : ∀ c ∈ x.Kids, ∃ b, ruletree_expression n c = some b := fun c hc => expression_ok d n c (h3 c hc) (by omega)
    have stt : ∀ c ∈ x.Kids, ∃ b, ruletree_stated n c = some b := fun c hc => stated_ok d n c (h3 c hc) (by omega)
    have bl : ∀ c ∈ x.Kids, ∃ b, ruletree_blocked (ruletree_stated n) n c = some b := fun c hc => by
      cases d with
      | zero => exact (h3 c hc).elim
      | succ e =>
        have hk := h3 c hc
        exact blocked_ok hk.2.1 fun k hk2 => stated_ok e n k (hk.2.2 k hk2) (by omega)
    have mem : ∀ {i : Int} {c : M}, ix x.Kids i = some c → c ∈ x.Kids := fun {i c} h => by
      unfold ix at h
      split at h
      · exact List.mem_of_getElem? h
      · cases h
    have one : ∃ b, (if decide ((x.Kids.length : Int) = 1) then (ix x.Kids 0).bind fun x121 => (ruletree_expression n x121).bind fun x123 => some x123 else some false).bind (fun x124 => some x124) = some b :=
      bind_ex (ite_ex (fun h => bind_ex (ix_ok (by omega) (by have := of_decide_eq_true h; omega)) fun c hc => bind_ex (ex c (mem hc)) fun _ _ => ⟨_, rfl⟩) fun _ => ⟨_, rfl⟩) fun _ _ => ⟨_, rfl⟩
    rw [ruletree_stated]
    refine ite_ex (fun _ => ?_) fun _ => ?_
    · refine bind_ex (ite_ex (fun _ => ⟨_, rfl⟩) fun h => ?_) fun a ha => ?_
      · simp only [Bool.or_eq_false_iff, decide_eq_false_iff_not] at h
        exact bind_ex (ix_ok (by omega) (by omega)) fun c hc => bind_ex (ex c (mem hc)) fun _ _ => ⟨_, rfl⟩
      · have hlen : a = false → 2 ≤ x.Kids.length ∧ x.Kids.length ≤ 3 := fun e => by
          subst e
          cases q : ((decide (x.Text ≠ ([] : Str)) || decide ((x.Kids.length : Int) < 2)) || decide ((x.Kids.length : Int) > 3)) with
          | true => rw [q, if_pos rfl] at ha; cases ha
          | false => simp only [Bool.or_eq_false_iff, decide_eq_false_iff_not] at q; omega
        refine bind_ex (ite_ex (fun _ => ⟨_, rfl⟩) fun h => bind_ex (ix_ok (by omega) (by have := hlen h; omega)) fun c hc => bind_ex (bl c (mem hc)) fun _ _ => ⟨_, rfl⟩) fun b hb => ?_
        refine ite_ex (fun _ => ⟨_, rfl⟩) fun hbf => ?_
        have ha' : a = false := by
          cases a with
          | false => rfl
          | true => rw [if_pos rfl] at hb; cases hb; cases hbf
        have hl := hlen ha'
        refine bind_ex (ite_ex (fun _ => ⟨_, rfl⟩) fun h => bind_ex (ix_ok (by omega) (by have := of_decide_eq_false h; omega)) fun c hc => bind_ex (bl c (mem hc)) fun _ _ => ⟨_, rfl⟩) fun e he => ?_
        refine ite_ex (fun _ => ⟨_, rfl⟩) fun hef => ?_
        have h3' : x.Kids.length = 3 := by
          cases q : decide ((x.Kids.length : Int) = 2) with
          | true => rw [q, if_pos rfl] at he; cases he; cases hef
          | false => have := of_decide_eq_false q; omega
        refine bind_ex (ix_ok (by omega) (by omega)) fun c hc => ?_
        refine bind_ex (ite_ex (fun _ => ?_) fun _ => ⟨_, rfl⟩) fun _ _ => ⟨_, rfl⟩
        rw [hc, Option.bind_some]
        exact bind_ex (stt c (mem hc)) fun _ _ => ⟨_, rfl⟩
    · refine ite_ex (fun _ => bind_ex (printable_ok h1) fun _ _ => ⟨_, rfl⟩) fun _ => ?_
      refine ite_ex (fun _ => ⟨_, rfl⟩) fun _ => ?_
      refine ite_ex (fun _ => ⟨_, rfl⟩) fun _ => ?_
      refine ite_ex (fun _ => bind_ex (named_ok (by omega) _) fun _ _ => ite_ex (fun _ => ⟨_, rfl⟩) fun _ => one) fun _ => ?_
      refine ite_ex (fun _ => ite_ex (fun _ => ⟨_, rfl⟩) fun _ => one) fun _ => ?_
      refine ite_ex (fun _ => bind_ex (printable_ok h1) fun _ _ => ite_ex (fun _ => ⟨_, rfl⟩) fun _ => one) fun _ => ?_
      refine ite_ex (fun _ => ite_ex (fun _ => ⟨_, rfl⟩) fun _ => one) fun _ => ?_
      refine ite_ex (fun _ => ite_ex (fun _ => ⟨_, rfl⟩) fun _ => one) fun _ => ?_
      refine ite_ex (fun _ => ite_ex (fun _ => ⟨_, rfl⟩) fun _ => one) fun _ => ?_
      exact ⟨_, rfl⟩
theorem small_L0 {f : M → Int → Int → Option (Bool × Int)} {d : Int} (hd : -1000 ≤ d ∧ d ≤ 1000) : ∀ (l : List M) (i : Nat) (y : Int), 0 ≤ y → y ≤ 1000 → (∀ k ∈ l, ∀ z, 0 ≤ z → z ≤ 1000 → ∃ b m, f k z (d - 1) = some (b, m) ∧ (b = true → 0 ≤ m) ∧ m ≤ 1000) →
    ∃ r, ruletree_small_L0 d f l i y = some r ∧ (∀ z, r = Fl.go z → 0 ≤ z ∧ z ≤ 1000) ∧ ∀ z, r = Fl.ret z → z.1 = false ∧ z.2 ≤ 1000
  | [], i, y, h0, h1, _ => ⟨_, rfl, fun z e => by cases e; exact ⟨h0, h1⟩, fun z e => by cases e⟩
  | k :: l, i, y, h0, h1, h => by
    obtain ⟨b, m, hk, hb, hm⟩ := h k (by simp) y h0 h1
    rw [ruletree_small_L0, chk_bind (by constructor <;> omega), hk, Option.bind_some]
    cases b with
    | false => exact ⟨_, if_pos rfl, fun z e => (by cases e), fun z e => by cases e; exact ⟨rfl, hm⟩⟩
    | true => rw [if_neg (by simp)]; exact small_L0 hd l (i + 1) m (hb rfl) hm fun k hk => h k (by simp [hk])
theorem small_ok : ∀ (d n : Nat) (x : M) (z e : Int), Ok d x → d + 1 ≤ n → 0 ≤ z → z ≤ 1000 → 0 ≤ e → e ≤ 1000 → ∃ b m, ruletree_small n x z e = some (b, m) ∧ (b = true → 0 ≤ m) ∧ m ≤ 1000
  | d + 1, 0, x, z, e, h, hn, _, _, _, _ => by omega
  | d + 1, n + 1, x, z, e, h, hn, h0, h1, e0, e1 => by
    obtain ⟨g1, g2, g3⟩ := h
    rw [ruletree_small, chk_bind (by constructor <;> omega)]
    cases q : (decide (z - 1 < 0) || decide (e < 1)) with
    | true => exact ⟨false, z - 1, if_pos rfl, fun h => (by cases h), by omega⟩
    | false =>
      simp only [Bool.or_eq_false_iff, decide_eq_false_iff_not] at q
      rw [if_neg (by simp), chk_bind (by simp only [szMax]; omega)]
      obtain ⟨r, hr, r1, r2⟩ := small_L0 (f := ruletree_small n) (d := e) (by omega) x.Kids 0 (z - 1) (by omega) (by omega) fun k hk y y0 y1 => small_ok d n k y (e - 1) (g3 k hk) (by omega) y0 y1 (by omega) (by omega)
      rw [hr, Option.bind_some]
      cases r with
      | ret w => exact ⟨w.1, w.2, rfl, (fun h => by rw [(r2 w rfl).1] at h; cases h), (r2 w rfl).2⟩
      | go w => exact ⟨true, w, rfl, fun _ => (r1 w rfl).1, (r1 w rfl).2⟩
theorem Valid_L0 {n : Nat} : ∀ (l : List M) (i : Nat), (∀ k ∈ l, ∃ b, ruletree_stated n k = some b) → ∃ r, ruletree_Valid_L0 n l i = some r
  | [], i, _ => ⟨_, rfl⟩
  | k :: l, i, h => by
    rw [ruletree_Valid_L0]
    exact bind_ex (h k (by simp)) fun _ _ => ite_ex (fun _ => ⟨_, rfl⟩) fun _ => Valid_L0 l (i + 1) fun k hk => h k (by simp [hk])
theorem Valid_L0_inv {n : Nat} : ∀ (l : List M) (i : Nat), (ruletree_Valid_L0 n l i).bind (fun s0 => s0.el some fun t0 => some true) = some true → ∀ k ∈ l, ruletree_stated n k = some true
  | [], i, _, k, hk => by cases hk
  | a :: l, i, h, k, hk => by
    rw [ruletree_Valid_L0] at h
    cases ha : ruletree_stated n a with
    | none => rw [ha] at h; cases h
    | some b =>
      rw [ha, Option.bind_some] at h
      cases b with
      | false => simp [Fl.el] at h
      | true =>
        rw [if_neg (by simp)] at h
        rcases List.mem_cons.1 hk with rfl | hk
        · exact ha
        · exact Valid_L0_inv l (i + 1) h k hk
theorem Valid_ok {d n : Nat} {x : M} (h : Ok d x) (hn : d + 10000 ≤ n) : ∃ b, ruletree_Valid n x = some b := by
  cases d with
  | zero => exact h.elim
  | succ d =>
    obtain ⟨b, m, hs, _, _⟩ := small_ok (d + 1) n x 512 32 h (by omega) (by omega) (by omega) (by omega) (by omega)
    unfold ruletree_Valid
    refine ite_ex (fun _ => ⟨_, rfl⟩) fun _ => ?_
    rw [hs, Option.bind_some]
    refine ite_ex (fun _ => ⟨_, rfl⟩) fun _ => ?_
    have := h.2.1
    rw [chk_bind (by simp only [szMax]; omega)]
    obtain ⟨r, hr⟩ := Valid_L0 (n := n) x.Kids 0 fun k hk => stated_ok d n k (h.2.2 k hk) (by omega)
    rw [hr, Option.bind_some]
    cases r <;> exact ⟨_, rfl⟩
theorem Valid_inv {n : Nat} {x : M} (h : ruletree_Valid n x = some true) : ∀ k ∈ x.Kids, ruletree_stated n k = some true := by
  unfold ruletree_Valid at h
  split at h
  · cases h
  · obtain ⟨s, hs, h⟩ := bnd h
    split at h
    · cases h
    · obtain ⟨_, h⟩ := chkb h
      exact Valid_L0_inv x.Kids 0 h
end Rt
