/- Ruletype: other lines, statements. -/
import Derived.Test.YtdnelkmckpapgaaDoorRtR
set_option linter.unusedVariables false
set_option linter.unusedSimpArgs false
open Go Go.SL Go.Proofs Pl
namespace Rt
theorem OR.ix {α β γ δ : Type} {P : α → β → Prop} {S : γ → δ → Prop} {l : List α} {k : List β} (h : A2 P l k) (i : Int) {f : α → Option γ} {g : β → Option δ} (hf : ∀ a b, P a b → OR S (f a) (g b)) : OR S ((Go.SL.ix l i).bind f) ((Go.SL.ix k i).bind g) := by
  rcases h.get i with ⟨h1, h2⟩ | ⟨a, b, h1, h2, hp⟩
  · rw [h1, h2]; exact .nn
  · rw [h1, h2, Option.bind_some, Option.bind_some]; exact hf a b hp
theorem needs_eq {x y : M} (hk : y.Kind = x.Kind) : ruletype_needs y = ruletype_needs x := by
  unfold ruletype_needs; rw [hk]
theorem branch_rel {b : Int} {x y : M} (h : Rl b x y) : OR (A2 (Rl b)) (ruletype_branch x) (ruletype_branch y) := by
  have h0 := h
  obtain ⟨hk, ht, hl, h⟩ := h
  unfold ruletype_branch
  rw [hk]
  exact OR.ite (fun _ => .ss h) fun _ => .ss (.cons h0 .nil)
theorem Cr.mk' {b : Int} {c c' : Ck} (h : Cr b c c') : Cr b ⟨c.line, c.err⟩ ⟨c'.line, c.err⟩ := ⟨rfl, h.2⟩
def Pr (b : Int) (z z' : Int × Err) : Prop := Cr b ⟨z.1, z.2⟩ ⟨z'.1, z'.2⟩
theorem block_L3_rel {b : Int} {f : Ck → List M → List Bd → Option Ck} {env : List Bd} (hf : ∀ l k, A2 (Rl b) l k → ∀ env c c', Cr b c c' → OR (Cr b) (f c l env) (f c' k env)) : ∀ {l k : List M} (i : Nat) (a a' : Int) (e : Err), A2 (Rl b) l k → Cr b ⟨a, e⟩ ⟨a', e⟩ →
    OR (Pr b) (ruletype_checker_block_L3 f env l i a e) (ruletype_checker_block_L3 f env k i a' e)
  | [], _, i, a, a', e, .nil, hc => .ss hc
  | _ :: _, _, i, a, a', e, .cons hp t, hc => by
    rw [ruletype_checker_block_L3, ruletype_checker_block_L3]
    refine OR.bind (branch_rel hp) fun q q' hq => OR.bind (hf q q' hq env _ _ hc) fun r r' hr => ?_
    rw [hr.1]
    exact block_L3_rel hf (i + 1) _ _ _ t hr.mk'
def Zr (b : Int) (z z' : List Bd × Int × Err) : Prop := z'.1 = z.1 ∧ Cr b ⟨z.2.1, z.2.2⟩ ⟨z'.2.1, z'.2.2⟩
theorem block_L0_rel {b : Int} {n : Nat} {f : Ck → List M → List Bd → Option Ck} (hf : ∀ l k, A2 (Rl b) l k → ∀ env c c', Cr b c c' → OR (Cr b) (f c l env) (f c' k env)) : ∀ (l k : List M) (i : Nat) (env : List Bd) (a a' : Int) (e : Err), A2 (Rl b) l k → Cr b ⟨a, e⟩ ⟨a', e⟩ →
    OR (FR (Cr b) (Zr b)) (ruletype_checker_block_L0 n f l i env a e) (ruletype_checker_block_L0 n f k i env a' e)
  | [], _, i, env, a, a', e, .nil, hc => .ss (.go ⟨rfl, hc⟩)
  | x :: l, y :: k, i, env, a, a', e, .cons hp t, hc => by
    have hp0 := hp
    obtain ⟨hk, ht, hl, h⟩ := hp
    have ih : ∀ (env' : List Bd) (c c' : Ck), Cr b c c' → OR (FR (Cr b) (Zr b)) (ruletype_checker_block_L0 n f l (i + 1) env' c.line c.err) (ruletype_checker_block_L0 n f k (i + 1) env' c'.line c.err) := fun env' c c' q => block_L0_rel hf l k (i + 1) env' _ _ _ t q.mk'
    have tl : ∀ (c1 c1' : Ck) (u : Int), Cr b c1 c1' → OR (FR (Cr b) (Zr b)) (if decide (x.Kind = 3) then
        (ruletype_declared n x.Text env).bind fun x61 =>
        if x61 then
        (ruletype_checker_fail c1 x (some 4)).bind fun x65 =>
        (ruletype_extended env x.Text u).bind fun x70 =>
        if x65.err.isSome then
        some (Fl.ret x65)
        else
        ruletype_checker_block_L0 n f l (i + 1) x70 x65.line x65.err
        else
        (ruletype_extended env x.Text u).bind fun x70 =>
        if c1.err.isSome then
        some (Fl.ret c1)
        else
        ruletype_checker_block_L0 n f l (i + 1) x70 c1.line c1.err
        else
        if decide (x.Kind = 2) then
        (chk (0 ≤ (1 : Int) ∧ (1 : Int) ≤ (x.Kids.length : Int) ∧ (x.Kids.length : Int) ≤ (x.Kids.length : Int))).bind fun _ =>
        (chk ((subL x.Kids (1 : Int) (x.Kids.length : Int)).length ≤ szMax)).bind fun _ =>
        (ruletype_checker_block_L3 f env (subL x.Kids (1 : Int) (x.Kids.length : Int)) 0 c1.line c1.err).bind fun t3 =>
        if t3.2.isSome then
        some (Fl.ret (⟨t3.1, t3.2⟩ : Ck))
        else
        ruletype_checker_block_L0 n f l (i + 1) env t3.1 t3.2
        else
        if c1.err.isSome then
        some (Fl.ret c1)
        else
        ruletype_checker_block_L0 n f l (i + 1) env c1.line c1.err) (if decide (y.Kind = 3) then
        (ruletype_declared n y.Text env).bind fun x61 =>
        if x61 then
        (ruletype_checker_fail c1' y (some 4)).bind fun x65 =>
        (ruletype_extended env y.Text u).bind fun x70 =>
        if x65.err.isSome then
        some (Fl.ret x65)
        else
        ruletype_checker_block_L0 n f k (i + 1) x70 x65.line x65.err
        else
        (ruletype_extended env y.Text u).bind fun x70 =>
        if c1'.err.isSome then
        some (Fl.ret c1')
        else
        ruletype_checker_block_L0 n f k (i + 1) x70 c1'.line c1'.err
        else
        if decide (y.Kind = 2) then
        (chk (0 ≤ (1 : Int) ∧ (1 : Int) ≤ (y.Kids.length : Int) ∧ (y.Kids.length : Int) ≤ (y.Kids.length : Int))).bind fun _ =>
        (chk ((subL y.Kids (1 : Int) (y.Kids.length : Int)).length ≤ szMax)).bind fun _ =>
        (ruletype_checker_block_L3 f env (subL y.Kids (1 : Int) (y.Kids.length : Int)) 0 c1'.line c1'.err).bind fun t3 =>
        if t3.2.isSome then
        some (Fl.ret (⟨t3.1, t3.2⟩ : Ck))
        else
        ruletype_checker_block_L0 n f k (i + 1) env t3.1 t3.2
        else
        if c1'.err.isSome then
        some (Fl.ret c1')
        else
        ruletype_checker_block_L0 n f k (i + 1) env c1'.line c1'.err) := fun c1 c1' u hq => by
      rw [hk, ht, h.len, hq.1]
      refine OR.ite (fun _ => ?_) fun _ => OR.ite (fun _ => ?_) fun _ => OR.ite (fun _ => .ss (.ret hq)) fun _ => ih env c1 c1' hq
      · refine OR.same fun dd => OR.ite (fun _ => ?_) fun _ => ?_
        · refine OR.bind (fail_rel hq hl 4 (by decide)) fun r r' hr => OR.same fun ee => ?_
          rw [hr.1]
          exact OR.ite (fun _ => .ss (.ret hr)) fun _ => ih ee r r' hr
        · exact OR.same fun ee => OR.ite (fun _ => .ss (.ret hq)) fun _ => ih ee c1 c1' hq
      · refine OR.same fun _ => ?_
        have hs : A2 (Rl b) (subL x.Kids (1 : Int) (x.Kids.length : Int)) (subL y.Kids (1 : Int) (x.Kids.length : Int)) := (h.drop _).take _
        rw [hs.len]
        refine OR.same fun _ => OR.bind (block_L3_rel hf 0 _ _ _ hs hq.mk') fun z z' hz => ?_
        have hz2 : z'.2 = z.2 := hz.1
        rw [hz2]
        have hz' : Cr b ⟨z.1, z.2⟩ ⟨z'.1, z.2⟩ := ⟨rfl, hz.2⟩
        exact OR.ite (fun _ => .ss (.ret hz')) fun _ => ih env ⟨z.1, z.2⟩ ⟨z'.1, z.2⟩ hz'
    rw [ruletype_checker_block_L0, ruletype_checker_block_L0, h.len]
    refine OR.ite (fun _ => ih env ⟨a, e⟩ ⟨a', e⟩ hc) fun _ => OR.ix h 0 fun q q' hq => OR.bind (cexpr_rel n q q' hq _ _ hc) fun r r' hr => ?_
    obtain ⟨r1, r2⟩ := hr
    rw [needs_eq hk]
    refine OR.same fun nd => ?_
    rw [r1, r2.1]
    refine OR.ite (fun _ => ?_) fun _ => ?_
    · refine OR.bind (fail_rel r2 hl 9 (by decide)) fun s s' hs => ?_
      have := tl s s' r.1 hs
      rw [hs.1]
      rw [hs.1, h.len] at this
      exact OR.ite (fun _ => .ss (.ret hs)) fun _ => this
    · have := tl r.2 r'.2 r.1 r2
      rw [r2.1, h.len] at this
      exact OR.ite (fun _ => .ss (.ret r2)) fun _ => this
theorem block_rel {b : Int} : ∀ (n : Nat) (l k : List M), A2 (Rl b) l k → ∀ env c c', Cr b c c' → OR (Cr b) (ruletype_checker_block n c l env) (ruletype_checker_block n c' k env)
  | 0, l, k, _, env, c, c', _ => .nn
  | n + 1, l, k, h, env, c, c', hc => by
    rw [ruletype_checker_block, ruletype_checker_block, h.len, hc.1]
    exact OR.same fun _ => OR.bind (block_L0_rel (fun u v w => block_rel n u v w) l k 0 env _ _ _ h hc.mk') fun s s' hs => hs.el (fun r r' hr => .ss hr) fun z z' hz => .ss hz.2
/-- What Check says of the tree with other lines. -/
inductive Qr (b : Int) : Int × Err → Int × Err → Prop
  | form : Qr b (0, some 2) (0, some 2)
  | good : Qr b (0, none) (0, none)
  | bad {l : Int} {e : Int} (h : e ≠ 2) : Qr b (l, some e) (IntKind.i64.wrap (l + b), some e)
theorem Check_rel {b : Int} {n : Nat} {x y : M} (h : Rl b x y) : OR (Qr b) (ruletype_Check n x) (ruletype_Check n y) := by
  unfold ruletype_Check
  rw [Valid_eq h]
  obtain ⟨hk, ht, hl, h⟩ := h
  refine OR.same fun v => OR.ite (fun _ => .ss .form) fun _ => ?_
  refine OR.bind (block_rel n _ _ h [] ⟨0, none⟩ ⟨0, none⟩ ⟨rfl, fun q => (by cases q), fun _ => ⟨rfl, rfl⟩, fun q => by cases q⟩) fun r r' hr => .ss ?_
  obtain ⟨l, e⟩ := r
  obtain ⟨l', e'⟩ := r'
  obtain ⟨h1, h2, h3, h4⟩ := hr
  simp only at h1 h2 h3 h4
  subst h1
  cases e' with
  | none => obtain ⟨rfl, rfl⟩ := h3 rfl; exact .good
  | some e => rw [h2 rfl]; exact .bad fun q => h4 (by rw [q])
end Rt
