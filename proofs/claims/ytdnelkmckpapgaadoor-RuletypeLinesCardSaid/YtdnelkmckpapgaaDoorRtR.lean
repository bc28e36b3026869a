/- Ruletype: other lines. -/
import Derived.Test.YtdnelkmckpapgaaDoorRtW
set_option linter.unusedVariables false
set_option linter.unusedSimpArgs false
open Go Go.SL Go.Proofs Pl
namespace Rt
theorem A2.get {α β : Type} {P : α → β → Prop} {l : List α} {k : List β} (h : A2 P l k) (i : Int) : (ix l i = none ∧ ix k i = none) ∨ ∃ a b, ix l i = some a ∧ ix k i = some b ∧ P a b := by
  unfold ix
  by_cases h0 : 0 ≤ i
  · rw [if_pos h0, if_pos h0]
    generalize i.toNat = n
    induction h generalizing n with
    | nil => left; simp
    | cons hp _ ih =>
      cases n with
      | zero => right; exact ⟨_, _, rfl, rfl, hp⟩
      | succ n => simpa using ih n
  · rw [if_neg h0, if_neg h0]; left; exact ⟨rfl, rfl⟩
theorem A2.drop {α β : Type} {P : α → β → Prop} {l : List α} {k : List β} (h : A2 P l k) : ∀ n, A2 P (l.drop n) (k.drop n) := by
  induction h with
  | nil => intro n; simp; exact .nil
  | cons hp t ih =>
    intro n
    cases n with
    | zero => exact .cons hp t
    | succ n => simpa using ih n
theorem A2.take {α β : Type} {P : α → β → Prop} {l : List α} {k : List β} (h : A2 P l k) : ∀ n, A2 P (l.take n) (k.take n) := by
  induction h with
  | nil => intro n; simp; exact .nil
  | cons hp t ih =>
    intro n
    cases n with
    | zero => exact .nil
    | succ n => exact .cons hp (ih n)
theorem ixb {α β γ : Type} {P : α → β → Prop} {l : List α} {k : List β} (h : A2 P l k) (i : Int) {f : α → Option γ} {g : β → Option γ} (hf : ∀ a b, P a b → g b = f a) : (ix k i).bind g = (ix l i).bind f := by
  rcases h.get i with ⟨h1, h2⟩ | ⟨a, b, h1, h2, hp⟩
  · rw [h1, h2]; rfl
  · rw [h1, h2, Option.bind_some, Option.bind_some]; exact hf a b hp
theorem operands_eq {n : Nat} {x y : M} (hk : y.Kind = x.Kind) (ht : y.Text = x.Text) : ruletree_operands n y = ruletree_operands n x := by
  unfold ruletree_operands
  rw [hk, ht]
theorem expression_L0_eq {P : M → M → Prop} {f : M → Option Bool} (hf : ∀ x y, P x y → f y = f x) : ∀ {l k : List M} (i : Nat), A2 P l k → ruletree_expression_L0 f k i = ruletree_expression_L0 f l i
  | [], _, i, .nil => rfl
  | _ :: _, _, i, .cons hp t => by
    rw [ruletree_expression_L0, ruletree_expression_L0, hf _ _ hp, expression_L0_eq hf (i + 1) t]
theorem expression_eq {b : Int} : ∀ (n : Nat) (x y : M), Rl b x y → ruletree_expression n y = ruletree_expression n x
  | 0, x, y, h => rfl
  | n + 1, x, y, .mk hk ht hl h => by
    rw [ruletree_expression, ruletree_expression, operands_eq hk ht, h.len, expression_L0_eq (fun a c hp => expression_eq n a c hp) 0 h]
theorem blocked_L0_eq {P : M → M → Prop} {f : M → Option Bool} (hf : ∀ x y, P x y → f y = f x) : ∀ {l k : List M} (i : Nat), A2 P l k → ruletree_blocked_L0 f k i = ruletree_blocked_L0 f l i
  | [], _, i, .nil => rfl
  | _ :: _, _, i, .cons hp t => by
    rw [ruletree_blocked_L0, ruletree_blocked_L0, hf _ _ hp, blocked_L0_eq hf (i + 1) t]
theorem blocked_eq {b : Int} {n : Nat} {f : M → Option Bool} (hf : ∀ x y, Rl b x y → f y = f x) {x y : M} (h : Rl b x y) : ruletree_blocked f n y = ruletree_blocked f n x := by
  obtain ⟨hk, ht, hl, h⟩ := h
  unfold ruletree_blocked
  rw [hk, ht, h.len, blocked_L0_eq hf 0 h]
theorem stated_eq {b : Int} : ∀ (n : Nat) (x y : M), Rl b x y → ruletree_stated n y = ruletree_stated n x
  | 0, x, y, h => rfl
  | n + 1, x, y, .mk hk ht hl h => by
    have e0 : ∀ i : Int, ∀ {γ : Type} (g : Bool → Option γ), (ix y.Kids i).bind (fun c => (ruletree_expression n c).bind g) = (ix x.Kids i).bind (fun c => (ruletree_expression n c).bind g) := fun i γ g => ixb h i fun a c hp => by rw [expression_eq n a c hp]
    have e1 : ∀ i : Int, ∀ {γ : Type} (g : Bool → Option γ), (ix y.Kids i).bind (fun c => (ruletree_blocked (ruletree_stated n) n c).bind g) = (ix x.Kids i).bind (fun c => (ruletree_blocked (ruletree_stated n) n c).bind g) := fun i γ g => ixb h i fun a c hp => by rw [blocked_eq (fun u v w => stated_eq n u v w) hp]
    have e2 : ∀ i : Int, ∀ {γ : Type} (g : Bool → Option γ), (ix y.Kids i).bind (fun c => (ruletree_stated n c).bind g) = (ix x.Kids i).bind (fun c => (ruletree_stated n c).bind g) := fun i γ g => ixb h i fun a c hp => by rw [stated_eq n a c hp]
    have e3 : ((ix y.Kids 2).bind fun x50 => (if decide (x50.Kind = 2) then (ix y.Kids 2).bind fun x57 => ((ruletree_stated n) x57).bind fun x59 => some x59 else some false).bind fun x60 => some x60) = ((ix x.Kids 2).bind fun x50 => (if decide (x50.Kind = 2) then (ix x.Kids 2).bind fun x57 => ((ruletree_stated n) x57).bind fun x59 => some x59 else some false).bind fun x60 => some x60) :=
      ixb h 2 fun a c hp => by obtain ⟨q, _, _, _⟩ := hp; rw [q, e2]
    rw [ruletree_stated, ruletree_stated]
    rw [e3]
    rw [hk, ht, h.len]
    simp only [e0, e1]
theorem small_L0_eq {P : M → M → Prop} {d : Int} {f : M → Int → Int → Option (Bool × Int)} (hf : ∀ x y, P x y → ∀ z e, f y z e = f x z e) : ∀ {l k : List M} (i : Nat) (z : Int), A2 P l k → ruletree_small_L0 d f k i z = ruletree_small_L0 d f l i z
  | [], _, i, z, .nil => rfl
  | a :: l, c :: k, i, z, .cons hp t => by
    rw [ruletree_small_L0, ruletree_small_L0, hf _ _ hp]
    have : ∀ w, ruletree_small_L0 d f k (i + 1) w = ruletree_small_L0 d f l (i + 1) w := fun w => small_L0_eq hf (i + 1) w t
    simp only [this]
theorem small_eq {b : Int} : ∀ (n : Nat) (x y : M), Rl b x y → ∀ z e, ruletree_small n y z e = ruletree_small n x z e
  | 0, x, y, h, z, e => rfl
  | n + 1, x, y, .mk hk ht hl h, z, e => by
    rw [ruletree_small, ruletree_small, h.len, small_L0_eq (fun a c hp => small_eq n a c hp) 0 _ h]
theorem Valid_L0_eq {b : Int} {n : Nat} : ∀ {l k : List M} (i : Nat), A2 (Rl b) l k → ruletree_Valid_L0 n k i = ruletree_Valid_L0 n l i
  | [], _, i, .nil => rfl
  | _ :: _, _, i, .cons hp t => by
    rw [ruletree_Valid_L0, ruletree_Valid_L0, stated_eq n _ _ hp, Valid_L0_eq (i + 1) t]
theorem Valid_eq {b : Int} {n : Nat} {x y : M} (h : Rl b x y) : ruletree_Valid n y = ruletree_Valid n x := by
  have hs := small_eq n x y h 512 32
  obtain ⟨hk, ht, hl, h⟩ := h
  unfold ruletree_Valid
  rw [hs, hk, ht, h.len, Valid_L0_eq 0 h]
/-! ### the checker -/
inductive OR {α β : Type} (R : α → β → Prop) : Option α → Option β → Prop
  | nn : OR R none none
  | ss {a : α} {b : β} : R a b → OR R (some a) (some b)
theorem OR.bind {α β γ δ : Type} {R : α → β → Prop} {S : γ → δ → Prop} {o : Option α} {p : Option β} {f : α → Option γ} {g : β → Option δ} (h : OR R o p) (hf : ∀ a b, R a b → OR S (f a) (g b)) : OR S (o.bind f) (p.bind g) := by
  cases h with
  | nn => exact .nn
  | ss h => exact hf _ _ h
theorem OR.same {α γ δ : Type} {S : γ → δ → Prop} {o : Option α} {f : α → Option γ} {g : α → Option δ} (hf : ∀ a, OR S (f a) (g a)) : OR S (o.bind f) (o.bind g) := by
  cases o with
  | none => exact .nn
  | some a => exact hf a
theorem OR.ite {γ δ : Type} {S : γ → δ → Prop} {c : Bool} {a b : Option γ} {a' b' : Option δ} (h1 : c = true → OR S a a') (h2 : c = false → OR S b b') : OR S (if c = true then a else b) (if c = true then a' else b') := by
  cases c with
  | true => exact h1 rfl
  | false => exact h2 rfl
def Cr (b : Int) (c c' : Ck) : Prop := c'.err = c.err ∧ ((c.err.isSome = true → c'.line = IntKind.i64.wrap (c.line + b)) ∧ (c.err = none → c.line = 0 ∧ c'.line = 0) ∧ c.err ≠ some 2)
theorem fail_rel {b : Int} {c c' : Ck} {x y : M} (hc : Cr b c c') (hl : y.Line = IntKind.i64.wrap (x.Line + b)) (e : Int) (he : e ≠ 2) : OR (Cr b) (ruletype_checker_fail c x (some e)) (ruletype_checker_fail c' y (some e)) := by
  unfold ruletype_checker_fail
  rw [hc.1]
  exact OR.ite (fun _ => .ss ⟨rfl, fun _ => hl, fun h => (by cases h), fun h => he (Option.some.inj h)⟩) fun _ => .ss hc
theorem operator_eq {x y : M} {l : List Int} (hk : y.Kind = x.Kind) (ht : y.Text = x.Text) : ruletype_operator y l = ruletype_operator x l := by
  unfold ruletype_operator
  rw [hk, ht]
def Er (b : Int) (r r' : Int × Ck) : Prop := r'.1 = r.1 ∧ Cr b r.2 r'.2
theorem call_rel {b : Int} {c c' : Ck} {x y : M} {l : List Int} (hc : Cr b c c') (ht : y.Text = x.Text) (hl : y.Line = IntKind.i64.wrap (x.Line + b)) : OR (Er b) (ruletype_checker_call c x l) (ruletype_checker_call c' y l) := by
  unfold ruletype_checker_call
  rw [ht]
  refine OR.same fun f => OR.ite (fun _ => OR.bind (fail_rel hc hl 8 (by decide)) fun a a' h => .ss ⟨rfl, h⟩) fun _ => ?_
  exact OR.same fun q => OR.ite (fun _ => OR.bind (fail_rel hc hl 9 (by decide)) fun a a' h => .ss ⟨rfl, h⟩) fun _ => .ss ⟨rfl, hc⟩
def Fr {α β : Type} (P Q : α → β → Prop) : Prop := True
inductive FR {ρ ρ' σ σ' : Type} (P : ρ → ρ' → Prop) (Q : σ → σ' → Prop) : Fl ρ σ → Fl ρ' σ' → Prop
  | ret {a : ρ} {b : ρ'} : P a b → FR P Q (.ret a) (.ret b)
  | go {a : σ} {b : σ'} : Q a b → FR P Q (.go a) (.go b)
theorem FR.el {ρ ρ' σ σ' γ δ : Type} {P : ρ → ρ' → Prop} {Q : σ → σ' → Prop} {S : γ → δ → Prop} {s : Fl ρ σ} {t : Fl ρ' σ'} (h : FR P Q s t) {f : ρ → Option γ} {f' : ρ' → Option δ} {g : σ → Option γ} {g' : σ' → Option δ}
    (h1 : ∀ a b, P a b → OR S (f a) (f' b)) (h2 : ∀ a b, Q a b → OR S (g a) (g' b)) : OR S (s.el f g) (t.el f' g') := by
  cases h with
  | ret h => exact h1 _ _ h
  | go h => exact h2 _ _ h
def Xr (b : Int) (z z' : List Int × Int × Err) : Prop := z'.1 = z.1 ∧ Cr b ⟨z.2.1, z.2.2⟩ ⟨z'.2.1, z'.2.2⟩
theorem cexpr_L0_rel {b : Int} {f : Ck → M → List Bd → Option (Int × Ck)} {env : List Bd} (hf : ∀ x y, Rl b x y → ∀ c c', Cr b c c' → OR (Er b) (f c x env) (f c' y env)) : ∀ {l k : List M} (i : Nat) (y : List Int) (a a' : Int) (e e' : Err), A2 (Rl b) l k → Cr b ⟨a, e⟩ ⟨a', e'⟩ →
    OR (FR (Er b) (Xr b)) (ruletype_checker_expr_L0 f env l i y a e) (ruletype_checker_expr_L0 f env k i y a' e')
  | [], _, i, y, a, a', e, e', .nil, hc => .ss (.go ⟨rfl, hc⟩)
  | _ :: _, _, i, y, a, a', e, e', .cons hp t, hc => by
    rw [ruletype_checker_expr_L0, ruletype_checker_expr_L0]
    refine OR.bind (hf _ _ hp _ _ hc) fun r r' hr => ?_
    obtain ⟨h1, h2⟩ := hr
    rw [h1, h2.1]
    refine OR.same fun _ => OR.ite (fun _ => .ss (.ret ⟨rfl, h2⟩)) fun _ => ?_
    have h2' : Cr b ⟨r.2.line, r.2.err⟩ ⟨r'.2.line, r.2.err⟩ := ⟨rfl, h2.2⟩
    exact cexpr_L0_rel hf (i + 1) _ _ _ _ _ t h2'
theorem cexpr_rel {b : Int} {env : List Bd} : ∀ (n : Nat) (x y : M), Rl b x y → ∀ c c', Cr b c c' → OR (Er b) (ruletype_checker_expr n c x env) (ruletype_checker_expr n c' y env)
  | 0, x, y, _, c, c', _ => .nn
  | n + 1, x, y, .mk hk ht hl h, c, c', hc => by
    rw [ruletype_checker_expr, ruletype_checker_expr, hk, ht, h.len]
    refine OR.same fun _ => OR.bind (cexpr_L0_rel (fun u v w => cexpr_rel n u v w) 0 [] _ _ _ _ h ⟨hc.1, hc.2⟩) fun s s' hs => hs.el (fun r r' hr => .ss hr) fun z z' hz => ?_
    obtain ⟨z1, z2⟩ := hz
    rw [z1]
    refine OR.ite (fun _ => .ss ⟨rfl, z2⟩) fun _ => OR.ite (fun _ => .ss ⟨rfl, z2⟩) fun _ => OR.ite (fun _ => .ss ⟨rfl, z2⟩) fun _ => ?_
    refine OR.ite (fun _ => OR.same fun t => OR.ite (fun _ => OR.bind (fail_rel z2 hl 8 (by decide)) fun a a' q => .ss ⟨rfl, q⟩) fun _ => .ss ⟨rfl, z2⟩) fun _ => ?_
    refine OR.ite (fun _ => OR.bind (call_rel z2 ht hl) fun a a' q => .ss ⟨q.1, q.2⟩) fun _ => ?_
    rw [operator_eq hk ht]
    exact OR.same fun t => OR.ite (fun _ => OR.bind (fail_rel z2 hl 9 (by decide)) fun a a' q => .ss ⟨rfl, q⟩) fun _ => .ss ⟨rfl, z2⟩
end Rt
