/- Ruletype: the steps of an expression that is right. -/
import Derived.Test.YtdnelkmckpapgaaDoorRtN
import Derived.Test.YtdnelkmckpapgaaDoorRtW
set_option linter.unusedVariables false
set_option linter.unusedSimpArgs false
open Go Go.SL Go.Proofs Pl
namespace Rt
theorem cexpr_L0_inv {f : Ck → M → List Bd → Option (Int × Ck)} {env : List Bd} : ∀ (l : List M) (i : Nat) (y : List Int) (a : Int) (r : Fl (Int × Ck) (List Int × Int × Err)), ruletype_checker_expr_L0 f env l i y a none = some r →
    (∀ z, r = Fl.ret z → z.2.err ≠ none) ∧ ∀ z, r = Fl.go z → z.2.2 = none ∧ ∃ ts, z.1 = y ++ ts ∧ A2 (fun k t => ∃ a c, f ⟨a, none⟩ k env = some (t, c) ∧ c.err = none) l ts
  | [], i, y, a, r, h => by
    cases h
    exact ⟨fun z e => (by cases e), fun z e => by cases e; exact ⟨rfl, [], by simp, .nil⟩⟩
  | k :: l, i, y, a, r, h => by
    rw [ruletype_checker_expr_L0] at h
    obtain ⟨x, hx, h1⟩ := bnd h
    obtain ⟨_, h2⟩ := chkb h1
    cases q : x.2.err with
    | some e =>
      rw [q, if_pos (by simp)] at h2
      cases h2
      exact ⟨fun z e => (by cases e; rw [q]; simp), fun z e => by cases e⟩
    | none =>
      rw [q, if_neg (by simp)] at h2
      obtain ⟨g1, g2⟩ := cexpr_L0_inv l (i + 1) (y ++ [x.1]) x.2.line r h2
      refine ⟨g1, fun z hz => ?_⟩
      obtain ⟨e1, ts, e2, e3⟩ := g2 z hz
      exact ⟨e1, x.1 :: ts, by rw [e2]; simp, .cons ⟨a, x.2, by rw [hx], q⟩ e3⟩
def sums (ps : List (Int × Int)) : Int := (ps.map (·.2)).sum
theorem sums_cons (p : Int × Int) (ps : List (Int × Int)) : sums (p :: ps) = p.2 + sums ps := by simp [sums]
def Gp (d : Nat) (f : M → List Bd → Option (Int × Int)) (E : List Bd → Prop) (k : M) (p : Int × Int) : Prop := 0 ≤ p.2 ∧ p.2 ≤ 64 * (cnt d k : Int) ∧ ∀ e, E e → f k e = some p
theorem gp_sum {d : Nat} {f : M → List Bd → Option (Int × Int)} {E : List Bd → Prop} {l : List M} {ps : List (Int × Int)} (h : A2 (Gp d f E) l ps) : 0 ≤ sums ps ∧ sums ps ≤ 64 * (cntL d l : Int) := by
  induction h with
  | nil => simp [sums, cntL]
  | cons hp _ ih =>
    obtain ⟨h1, h2, _⟩ := hp
    rw [sums_cons, cntL_cons]
    omega
theorem steps_tail {d : Nat} {f : M → List Bd → Option (Int × Int)} {E : List Bd → Prop} {e : List Bd} (he : E e) : ∀ {l : List M} {ps : List (Int × Int)} (i : Nat) (y : List Int) (f0 s0 : Int), A2 (Gp d f E) l ps → 0 < i → y.length + l.length ≤ 1000 → 0 ≤ s0 → s0 + 64 * (cntL d l : Int) ≤ 100000000 →
    ruletype_steps_L0 f e l i y f0 s0 = some (y ++ ps.map (·.1), f0, s0 + sums ps)
  | [], _, i, y, f0, s0, .nil, _, _, _, _ => by simp [ruletype_steps_L0, sums]
  | k :: l, p :: ps, i, y, f0, s0, .cons hp t, hi, hy, h0, hs => by
    obtain ⟨h1, h2, h3⟩ := hp
    rw [cntL_cons] at hs
    simp only [List.length_cons] at hy
    have ih := steps_tail he (i + 1) (y ++ [p.1]) f0 (s0 + p.2) t (by omega) (by simp only [List.length_append, List.length_cons, List.length_nil]; omega) (by omega) (by omega)
    rw [ruletype_steps_L0, h3 e he, Option.bind_some, chk_bind (by simp only [lim, List.length_cons, List.length_nil]; omega), if_neg (by simp <;> omega), chk_bind (by constructor <;> omega), ih, sums_cons]
    simp only [List.map_cons, List.append_assoc, List.cons_append, List.nil_append]
    rw [Int.add_assoc]
def fst0 : List (Int × Int) → Int
  | [] => 0
  | p :: _ => p.2
theorem steps_head {d : Nat} {f : M → List Bd → Option (Int × Int)} {E : List Bd → Prop} {e : List Bd} (he : E e) {l : List M} {ps : List (Int × Int)} (h : A2 (Gp d f E) l ps) (hl : l.length ≤ 900) (hs : 64 * (cntL d l : Int) ≤ 100000000) :
    ruletype_steps_L0 f e l 0 [] 0 0 = some (ps.map (·.1), fst0 ps, sums ps) ∧ 0 ≤ fst0 ps ∧ fst0 ps ≤ sums ps := by
  cases h with
  | nil => exact ⟨rfl, by simp [fst0], by simp [fst0, sums]⟩
  | cons hp t =>
    rename_i k p l ps
    have hg := gp_sum t
    obtain ⟨h1, h2, h3⟩ := hp
    rw [cntL_cons] at hs
    simp only [List.length_cons] at hl
    have ih := steps_tail he 1 [p.1] p.2 p.2 t (by omega) (by simp only [List.length_cons, List.length_nil]; omega) (by omega) (by omega)
    rw [ruletype_steps_L0, h3 e he, Option.bind_some, chk_bind (by simp only [lim, List.length_cons, List.length_nil]; omega), if_pos (by simp), chk_bind (by constructor <;> omega)]
    rw [show (0 : Int) + p.2 = p.2 from by omega, show ([] : List Int) ++ [p.1] = [p.1] from rfl, show 0 + 1 = 1 from rfl, ih, sums_cons]
    exact ⟨rfl, h1, by show p.2 ≤ p.2 + sums ps; omega⟩
theorem call_t {c c0 : Ck} {x : M} {l : List Int} {t : Int} {c1 : Ck} (h : ruletype_checker_call c x l = some (t, c1)) : ∃ c2, ruletype_checker_call c0 x l = some (t, c2) := by
  unfold ruletype_checker_call at h ⊢
  obtain ⟨f, hf, h1⟩ := bnd h
  rw [hf, Option.bind_some]
  cases q : decide (f.2 = 0) with
  | true =>
    rw [q, if_pos rfl] at h1
    obtain ⟨u, _, h2⟩ := bnd h1
    cases h2
    rw [if_pos rfl]
    obtain ⟨v, hv⟩ := fail_ok c0 x (some 8)
    exact ⟨v, by rw [hv]; rfl⟩
  | false =>
    rw [q, if_neg (by simp)] at h1
    rw [if_neg (by simp)]
    obtain ⟨b, hb, h2⟩ := bnd h1
    rw [hb, Option.bind_some]
    cases b with
    | true =>
      rw [if_pos rfl] at h2
      obtain ⟨u, _, h3⟩ := bnd h2
      cases h3
      obtain ⟨v, hv⟩ := fail_ok c0 x (some 9)
      exact ⟨v, by rw [if_pos rfl, hv]; rfl⟩
    | false =>
      rw [if_neg (by simp)] at h2
      cases h2
      exact ⟨c0, if_neg (by simp)⟩
end Rt
