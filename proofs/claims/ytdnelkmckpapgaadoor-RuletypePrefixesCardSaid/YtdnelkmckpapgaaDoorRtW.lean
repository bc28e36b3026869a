/- Ruletype: small trees, and their copies. -/
import Derived.Test.YtdnelkmckpapgaaDoorRtB
import Derived.Test.YtdnelkmckpapgaaDoorR
set_option linter.unusedVariables false
set_option linter.unusedSimpArgs false
open Go Go.SL Go.Proofs Pl
namespace Rt
inductive A2 {α β : Type} (P : α → β → Prop) : List α → List β → Prop
  | nil : A2 P [] []
  | cons {a : α} {b : β} {l : List α} {k : List β} : P a b → A2 P l k → A2 P (a :: l) (b :: k)
theorem A2.len {α β : Type} {P : α → β → Prop} {l : List α} {k : List β} (h : A2 P l k) : k.length = l.length := by
  induction h with
  | nil => rfl
  | cons _ _ ih => simp [ih]
theorem A2.mem {α β : Type} {P : α → β → Prop} {l : List α} {k : List β} (h : A2 P l k) : ∀ b ∈ k, ∃ a ∈ l, P a b := by
  induction h with
  | nil => intro b hb; cases hb
  | cons hp _ ih =>
    intro b hb
    rcases List.mem_cons.1 hb with rfl | hb
    · exact ⟨_, by simp, hp⟩
    · obtain ⟨a, ha, q⟩ := ih b hb; exact ⟨a, by simp [ha], q⟩
def OkN : Nat → N → Prop
  | 0, _ => False
  | d + 1, x => x.Text.length ≤ 3000 ∧ x.Kids.length ≤ 700 ∧ ∀ k ∈ x.Kids, OkN d k
theorem weigh_L0 {f : N → Int → Option Int} {e B : Int} (he : -100 ≤ e ∧ e ≤ 100) (hB : 0 ≤ B ∧ B ≤ 1000000) {P : N → Prop} : ∀ (l : List N) (i : Nat) (y : Int), 1 ≤ y → y ≤ 700 → (∀ k ∈ l, ∃ v, f k (e - 1) = some v ∧ 1 ≤ v ∧ v ≤ B ∧ (v ≤ 700 → P k)) →
    ∃ r, law44_weigh_L0 e f l i y = some r ∧ (∀ z, r = Fl.go z → z ≤ 700 ∧ y + l.length ≤ z ∧ ∀ k ∈ l, P k) ∧ ∀ z, r = Fl.ret z → 700 < z ∧ z ≤ 700 + B
  | [], i, y, h1, h2, _ => ⟨_, rfl, fun z e => by cases e; exact ⟨h2, by simp, fun k hk => by cases hk⟩, fun z e => by cases e⟩
  | k :: l, i, y, h1, h2, h => by
    obtain ⟨v, hv, v1, v2, v3⟩ := h k (by simp)
    rw [law44_weigh_L0, chk_bind (by constructor <;> omega), hv, Option.bind_some, chk_bind (by constructor <;> omega)]
    by_cases q : y + v > 700
    · exact ⟨_, if_pos (by simpa using q), fun z e => (by cases e), fun z e => by cases e; omega⟩
    · rw [if_neg (by simpa using q)]
      obtain ⟨r, hr, g1, g2⟩ := weigh_L0 he hB (P := P) l (i + 1) (y + v) (by omega) (by omega) fun k hk => h k (by simp [hk])
      refine ⟨r, hr, fun z hz => ?_, g2⟩
      obtain ⟨a1, a2, a3⟩ := g1 z hz
      refine ⟨a1, by rw [List.length_cons]; omega, fun q hq => ?_⟩
      rcases List.mem_cons.1 hq with rfl | hq
      · exact v3 (by omega)
      · exact a3 q hq
theorem weigh_ok : ∀ (e n : Nat) (x : N), S_ref43_Node.ok x → e + 1 ≤ n → e ≤ 40 → ∃ v, law44_weigh n x (e : Int) = some v ∧ 1 ≤ v ∧ v ≤ 1000 + 700 * e ∧ (v ≤ 700 → OkN e x)
  | e, 0, x, _, hn, _ => by omega
  | 0, n + 1, x, h, hn, he => by
    rw [law44_weigh, if_pos (by simp)]
    exact ⟨_, rfl, by omega, by omega, fun h => by omega⟩
  | e + 1, n + 1, x, h, hn, he => by
    obtain ⟨k0, k1, l2, k2, k3⟩ := h
    rw [law44_weigh]
    by_cases q : x.Text.length > 3000
    · rw [if_pos (by simp; omega)]
      exact ⟨_, rfl, by omega, by omega, fun h => by omega⟩
    · rw [if_neg (by simp; omega), chk_bind l2]
      obtain ⟨r, hr, g1, g2⟩ := weigh_L0 (f := law44_weigh n) (e := ((e + 1 : Nat) : Int)) (B := 1000 + 700 * e) (by omega) (by omega) (P := fun k => OkN e k) x.Kids 0 1 (by omega) (by omega) fun k hk => by
        have := weigh_ok e n k (k2 k hk) (by omega) (by omega)
        rw [show (((e + 1 : Nat) : Int) - 1) = (e : Int) from by omega]
        exact this
      rw [hr, Option.bind_some]
      cases r with
      | ret z =>
        obtain ⟨a1, a2⟩ := g2 z rfl
        exact ⟨z, rfl, by omega, by omega, fun h => by omega⟩
      | go z =>
        obtain ⟨a1, a2, a3⟩ := g1 z rfl
        exact ⟨z, rfl, by omega, by omega, fun _ => ⟨by omega, by omega, a3⟩⟩
theorem Large_ok {n : Nat} {x : N} (h : S_ref43_Node.ok x) (hn : 41 ≤ n) : law44_Large n x = some true ∨ (law44_Large n x = some false ∧ OkN 40 x) := by
  obtain ⟨v, hv, _, _, h2⟩ := weigh_ok 40 n x h hn (by omega)
  unfold law44_Large
  rw [show ((40 : Nat) : Int) = 40 from rfl] at hv
  rw [hv, Option.bind_some]
  by_cases q : v > 700
  · left; simp [q]
  · right; exact ⟨by simp [q], h2 (by omega)⟩
def Cvd : Nat → N → M → Prop
  | 0, _, _ => False
  | d + 1, x, y => y.Kind = x.Kind ∧ y.Text = x.Text ∧ y.Line = x.Line ∧ A2 (Cvd d) x.Kids y.Kids
def Mvd (b : Int) : Nat → N → N → Prop
  | 0, _, _ => False
  | d + 1, x, y => y.Kind = x.Kind ∧ y.Text = x.Text ∧ y.Line = IntKind.i64.wrap (x.Line + b) ∧ A2 (Mvd b d) x.Kids y.Kids
theorem Of_L0 {f : N → Option M} {P : N → M → Prop} : ∀ (l : List N) (i : Nat) (y : List M), (∀ k ∈ l, ∃ z, f k = some z ∧ P k z) → y.length + l.length ≤ 10000 → ∃ ys, law43_Of_L0 f l i y = some (y ++ ys) ∧ A2 P l ys
  | [], i, y, _, _ => ⟨[], by simp [law43_Of_L0], .nil⟩
  | k :: l, i, y, h, hl => by
    simp only [List.length_cons] at hl
    obtain ⟨z, hz, hp⟩ := h k (by simp)
    obtain ⟨ys, e, ha⟩ := Of_L0 (P := P) l (i + 1) (y ++ [z]) (fun k hk => h k (by simp [hk])) (by simp only [List.length_append, List.length_cons, List.length_nil]; omega)
    rw [law43_Of_L0, hz, Option.bind_some, chk_bind (by simp only [lim, List.length_cons, List.length_nil]; omega), e]
    exact ⟨z :: ys, by simp, .cons hp ha⟩
theorem Of_ok : ∀ (d n : Nat) (x : N), OkN d x → d + 1 ≤ n → ∃ y, law43_Of n x = some y ∧ Cvd d x y
  | d + 1, 0, x, _, hn => by omega
  | d + 1, n + 1, x, h, hn => by
    obtain ⟨h1, h2, h3⟩ := h
    obtain ⟨ys, e, ha⟩ := Of_L0 (f := law43_Of n) (P := Cvd d) x.Kids 0 [] (fun k hk => Of_ok d n k (h3 k hk) (by omega)) (by simp <;> omega)
    rw [law43_Of, chk_bind (by simp only [szMax]; omega), e, Option.bind_some]
    exact ⟨_, rfl, rfl, rfl, rfl, ha⟩
theorem Cvd.ok : ∀ {d : Nat} {x : N} {y : M}, OkN d x → Cvd d x y → Ok d y
  | d + 1, x, y, h, hc => by
    obtain ⟨h1, h2, h3⟩ := h
    obtain ⟨c1, c2, c3, c4⟩ := hc
    refine ⟨by rw [c2]; exact h1, by rw [c4.len]; exact h2, fun k hk => ?_⟩
    obtain ⟨a, ha, q⟩ := c4.mem k hk
    exact Cvd.ok (h3 a ha) q
theorem Mvd.ok {b : Int} : ∀ {d : Nat} {x y : N}, OkN d x → Mvd b d x y → OkN d y
  | d + 1, x, y, h, hc => by
    obtain ⟨h1, h2, h3⟩ := h
    obtain ⟨c1, c2, c3, c4⟩ := hc
    refine ⟨by rw [c2]; exact h1, by rw [c4.len]; exact h2, fun k hk => ?_⟩
    obtain ⟨a, ha, q⟩ := c4.mem k hk
    exact Mvd.ok (h3 a ha) q
/-- The same tree with other lines. -/
inductive Rl (b : Int) : M → M → Prop
  | mk {x y : M} (hk : y.Kind = x.Kind) (ht : y.Text = x.Text) (hl : y.Line = IntKind.i64.wrap (x.Line + b)) (h : A2 (Rl b) x.Kids y.Kids) : Rl b x y
theorem rl_list {b : Int} {d : Nat} (ih : ∀ {x x' : N} {y y' : M}, Cvd d x y → Mvd b d x x' → Cvd d x' y' → Rl b y y') : ∀ {l l' : List N} {k k' : List M}, A2 (Cvd d) l k → A2 (Mvd b d) l l' → A2 (Cvd d) l' k' → A2 (Rl b) k k'
  | [], _, _, _, .nil, .nil, .nil => .nil
  | _ :: _, _, _, _, .cons h1 t1, .cons h2 t2, .cons h3 t3 => .cons (ih h1 h2 h3) (rl_list ih t1 t2 t3)
theorem rl_of {b : Int} : ∀ {d : Nat} {x x' : N} {y y' : M}, Cvd d x y → Mvd b d x x' → Cvd d x' y' → Rl b y y'
  | d + 1, x, x', y, y', ⟨a1, a2, a3, a4⟩, ⟨b1, b2, b3, b4⟩, ⟨c1, c2, c3, c4⟩ =>
    .mk (by rw [c1, b1, a1]) (by rw [c2, b2, a2]) (by rw [c3, b3, a3]) (rl_list (fun h1 h2 h3 => rl_of h1 h2 h3) a4 b4 c4)
end Rt
