/- Ruletype: the checker as a plain function. -/
import Derived.Test.YtdnelkmckpapgaaDoorRtN
set_option linter.unusedVariables false
set_option linter.unusedSimpArgs false
open Go Go.SL Go.Proofs Pl
namespace Rt
/-! ### an error stays as it is -/
theorem fail_some {a e : Int} {x : M} {f : Err} : ruletype_checker_fail ⟨a, some e⟩ x f = some ⟨a, some e⟩ := rfl
theorem fail_new {a : Int} {x : M} {f : Err} : ruletype_checker_fail ⟨a, none⟩ x f = some ⟨x.Line, f⟩ := rfl
theorem cexpr_L0_same {f : Ck → M → List Bd → Option (Int × Ck)} {env : List Bd} {a e : Int} (hf : ∀ k r, f ⟨a, some e⟩ k env = some r → r.2 = ⟨a, some e⟩) : ∀ (l : List M) (i : Nat) (y : List Int) (r : Fl (Int × Ck) (List Int × Int × Err)), ruletype_checker_expr_L0 f env l i y a (some e) = some r →
    (∀ z, r = Fl.ret z → z.2 = ⟨a, some e⟩) ∧ ∀ z, r = Fl.go z → z.2.1 = a ∧ z.2.2 = some e
  | [], i, y, r, h => by
    cases h
    exact ⟨fun z q => (by cases q), fun z q => by cases q; exact ⟨rfl, rfl⟩⟩
  | k :: l, i, y, r, h => by
    rw [ruletype_checker_expr_L0] at h
    obtain ⟨x, hx, h1⟩ := bnd h
    obtain ⟨_, h2⟩ := chkb h1
    have hs := hf _ _ hx
    rw [hs, if_pos (by simp)] at h2
    cases h2
    exact ⟨fun z q2 => (by cases q2; rfl), fun z q => by cases q⟩
theorem call_same {a e : Int} {x : M} {l : List Int} {r : Int × Ck} (h : ruletype_checker_call ⟨a, some e⟩ x l = some r) : r.2 = ⟨a, some e⟩ := by
  unfold ruletype_checker_call at h
  obtain ⟨f, hf, h1⟩ := bnd h
  split at h1
  · rw [fail_some] at h1; cases h1; rfl
  · obtain ⟨b, hb, h2⟩ := bnd h1
    split at h2
    · rw [fail_some] at h2; cases h2; rfl
    · cases h2; rfl
theorem cexpr_same {env : List Bd} {a e : Int} : ∀ (n : Nat) (x : M) (r : Int × Ck), ruletype_checker_expr n ⟨a, some e⟩ x env = some r → r.2 = ⟨a, some e⟩
  | 0, x, r, h => by rw [ruletype_checker_expr] at h; cases h
  | n + 1, x, r, h => by
    rw [ruletype_checker_expr] at h
    obtain ⟨_, h1⟩ := chkb h
    obtain ⟨s, hs, h2⟩ := bnd h1
    obtain ⟨g1, g2⟩ := cexpr_L0_same (a := a) (e := e) (fun k r => cexpr_same n k r) x.Kids 0 [] s hs
    cases s with
    | ret z => rw [el_ret] at h2; cases h2; exact g1 _ rfl
    | go z =>
      obtain ⟨z1, z2, z3⟩ := z
      obtain ⟨k1, k2⟩ := g2 _ rfl
      simp only at k1 k2
      subst k1
      subst k2
      rw [el_go] at h2
      by_cases q20 : x.Kind = 20
      · rw [if_pos (by simpa using q20)] at h2; cases h2; rfl
      rw [if_neg (by simpa using q20)] at h2
      by_cases q21 : x.Kind = 21
      · rw [if_pos (by simpa using q21)] at h2; cases h2; rfl
      rw [if_neg (by simpa using q21)] at h2
      by_cases q22 : x.Kind = 22
      · rw [if_pos (by simpa using q22)] at h2; cases h2; rfl
      rw [if_neg (by simpa using q22)] at h2
      by_cases q23 : x.Kind = 23
      · rw [if_pos (by simpa using q23)] at h2
        obtain ⟨u, hu, h3⟩ := bnd h2
        split at h3
        · rw [fail_some] at h3; cases h3; rfl
        · cases h3; rfl
      rw [if_neg (by simpa using q23)] at h2
      by_cases q24 : x.Kind = 24
      · rw [if_pos (by simpa using q24)] at h2
        obtain ⟨u, hu, h3⟩ := bnd h2
        cases h3; exact call_same hu
      rw [if_neg (by simpa using q24)] at h2
      obtain ⟨u, hu, h3⟩ := bnd h2
      split at h3
      · rw [fail_some] at h3; cases h3; rfl
      · cases h3; rfl
theorem block_L0_same {n : Nat} {f : Ck → List M → List Bd → Option Ck} {a e : Int} : ∀ (l : List M) (i : Nat) (env : List Bd) (r : Fl Ck (List Bd × Int × Err)), ruletype_checker_block_L0 n f l i env a (some e) = some r →
    (∀ z, r = Fl.ret z → z = ⟨a, some e⟩) ∧ ∀ z, r = Fl.go z → z.2.1 = a ∧ z.2.2 = some e
  | [], i, env, r, h => by
    cases h
    exact ⟨fun z q => (by cases q), fun z q => by cases q; exact ⟨rfl, rfl⟩⟩
  | x :: l, i, env, r, h => by
    rw [ruletype_checker_block_L0] at h
    cases q : decide ((x.Kids.length : Int) = 0) with
    | true => rw [q, if_pos rfl] at h; exact block_L0_same l (i + 1) env r h
    | false =>
      rw [q, if_neg (by simp)] at h
      obtain ⟨k, hk, h1⟩ := bnd h
      obtain ⟨t, ht, h2⟩ := bnd h1
      obtain ⟨nd, _, h3⟩ := bnd h2
      have hs := cexpr_same n _ _ ht
      rw [hs, if_neg (by simp), if_pos (by simp)] at h3
      cases h3
      exact ⟨fun z q3 => (by cases q3; rfl), fun z q => by cases q⟩
theorem block_same : ∀ (n : Nat) (a e : Int) (l : List M) (env : List Bd) (r : Ck), ruletype_checker_block n ⟨a, some e⟩ l env = some r → r = ⟨a, some e⟩
  | 0, a, e, l, env, r, h => by rw [ruletype_checker_block] at h; cases h
  | n + 1, a, e, l, env, r, h => by
    rw [ruletype_checker_block] at h
    obtain ⟨_, h1⟩ := chkb h
    obtain ⟨s, hs, h2⟩ := bnd h1
    obtain ⟨g1, g2⟩ := block_L0_same l 0 env s hs
    cases s with
    | ret z => rw [el_ret] at h2; cases h2; exact g1 _ rfl
    | go z =>
      rw [el_go] at h2; cases h2
      obtain ⟨k1, k2⟩ := g2 z rfl
      rw [k1, k2]
/-! ### the plain function -/
abbrev Env := Str → Int
abbrev Fault := Int × Int
def base : Env := fun s => if pre s then 1 else 0
def ext (ρ : Env) (s : Str) (t : Int) : Env := fun q => if s = q then t else ρ q
def lkf (env : List Bd) : Env := fun s => lk s env
theorem lkf_nil : lkf [] = base := rfl
theorem lkf_snoc (env : List Bd) (s : Str) (t : Int) : lkf (env ++ [⟨s, t⟩]) = ext (lkf env) s t := by
  funext q; exact lk_snoc q env ⟨s, t⟩
def kidsE (f : M → Except Fault Int) : List M → Except Fault (List Int)
  | [] => .ok []
  | k :: l => match f k with
    | .error e => .error e
    | .ok t => match kidsE f l with
      | .error e => .error e
      | .ok ts => .ok (t :: ts)
noncomputable def fnc (s : Str) : Int × Int := (ruletype_function s).getD (0, 0)
noncomputable def opr (x : M) (ts : List Int) : Int := (ruletype_operator x ts).getD 0
noncomputable def tyN (ρ : Env) (x : M) (ts : List Int) : Except Fault Int :=
  if x.Kind = 20 then .ok 2
  else if x.Kind = 21 then .ok 1
  else if x.Kind = 22 then .ok 3
  else if x.Kind = 23 then (if ρ x.Text = 0 then .error (x.Line, 8) else .ok (ρ x.Text))
  else if x.Kind = 24 then (if (fnc x.Text).2 = 0 then .error (x.Line, 8) else if ts = [(fnc x.Text).1] then .ok (fnc x.Text).2 else .error (x.Line, 9))
  else if opr x ts = 0 then .error (x.Line, 9) else .ok (opr x ts)
noncomputable def tyE : Nat → Env → M → Except Fault Int
  | 0, _, _ => .error (0, 9)
  | d + 1, ρ, x => match kidsE (tyE d ρ) x.Kids with
    | .error e => .error e
    | .ok ts => tyN ρ x ts
theorem kidsE_len {f : M → Except Fault Int} : ∀ {l : List M} {ts : List Int}, kidsE f l = .ok ts → ts.length = l.length
  | [], ts, h => by cases h; rfl
  | k :: l, ts, h => by
    rw [kidsE] at h
    cases q : f k with
    | error e => rw [q] at h; cases h
    | ok t =>
      rw [q] at h
      simp only at h
      cases q2 : kidsE f l with
      | error e => rw [q2] at h; cases h
      | ok us => rw [q2] at h; cases h; simp [kidsE_len q2]
def Res (a : Int) (r : Except Fault Int) (t : Int) (c : Ck) : Prop := match r with
  | .ok v => t = v ∧ c = ⟨a, none⟩
  | .error e => c = ⟨e.1, some e.2⟩
theorem cexpr_L0_pure {f : Ck → M → List Bd → Option (Int × Ck)} {g : M → Except Fault Int} {env : List Bd} {a : Int} : ∀ (l : List M) (i : Nat) (y : List Int), (∀ k ∈ l, ∃ t c, f ⟨a, none⟩ k env = some (t, c) ∧ Res a (g k) t c) → y.length + l.length ≤ 1000 →
    ∃ r, ruletype_checker_expr_L0 f env l i y a none = some r ∧ match kidsE g l with
      | .ok ts => r = Fl.go (y ++ ts, a, none)
      | .error e => r = Fl.ret (0, ⟨e.1, some e.2⟩)
  | [], i, y, _, _ => ⟨_, rfl, by simp [kidsE]⟩
  | k :: l, i, y, h, hy => by
    simp only [List.length_cons] at hy
    obtain ⟨t, c, hr, hq⟩ := h k (by simp)
    rw [ruletype_checker_expr_L0, hr, Option.bind_some, chk_bind (by simp only [lim, List.length_cons, List.length_nil]; omega), kidsE]
    unfold Res at hq
    cases q : g k with
    | error e =>
      rw [q] at hq
      simp only at hq
      subst hq
      exact ⟨_, if_pos rfl, rfl⟩
    | ok v =>
      rw [q] at hq
      simp only at hq
      obtain ⟨rfl, rfl⟩ := hq
      simp only [Option.isSome_none, Bool.false_eq_true, if_false]
      obtain ⟨r, hr, h2⟩ := cexpr_L0_pure (f := f) (g := g) (env := env) (a := a) l (i + 1) (y ++ [t]) (fun k hk => h k (by simp [hk])) (by simp only [List.length_append, List.length_cons, List.length_nil]; omega)
      refine ⟨r, hr, ?_⟩
      cases q2 : kidsE g l with
      | error e => rw [q2] at h2; exact h2
      | ok ts => rw [q2] at h2; rw [h2]; simp
theorem fnc_eq (s : Str) : ruletype_function s = some (fnc s) := by
  obtain ⟨r, hr⟩ := function_ok s
  unfold fnc; rw [hr]; rfl
theorem opr_eq {x : M} {l : List Int} (h : l.length ≤ 1000) (h16 : x.Kind = 16 → l.length = 2) : ruletype_operator x l = some (opr x l) := by
  obtain ⟨r, hr⟩ := operator_ok h h16
  unfold opr; rw [hr]; rfl
theorem call_pure {a : Int} {x : M} {l : List Int} : ruletype_checker_call ⟨a, none⟩ x l = some ((fnc x.Text).2, if (fnc x.Text).2 = 0 then ⟨x.Line, some 8⟩ else if l = [(fnc x.Text).1] then ⟨a, none⟩ else ⟨x.Line, some 9⟩) := by
  unfold ruletype_checker_call
  rw [fnc_eq, Option.bind_some]
  by_cases q : (fnc x.Text).2 = 0
  · rw [if_pos (by simpa using q), fail_new, if_pos q]; rfl
  · rw [if_neg (by simpa using q), if_neg q]
    match l with
    | [] => rw [if_pos (by simp), Option.bind_some, if_pos rfl, fail_new, if_neg (by simp)]; rfl
    | [t] =>
      rw [if_neg (by simp), show ix [t] 0 = some t from rfl, Option.bind_some, Option.bind_some]
      by_cases q2 : t = (fnc x.Text).1
      · rw [if_neg (by simpa using q2), if_pos (by rw [q2])]
      · rw [if_pos (by simpa using q2), fail_new, if_neg (by simpa using q2)]; rfl
    | t :: u :: l => rw [if_pos (by simp; omega), Option.bind_some, if_pos rfl, fail_new, if_neg (by simp)]; rfl
theorem cexpr_pure {env : List Bd} (he : env.length ≤ 100000) {a : Int} : ∀ (d n m : Nat) (x : M), Ok d x → ruletree_expression m x = some true → d + 200000 ≤ n → ∃ t c, ruletype_checker_expr n ⟨a, none⟩ x env = some (t, c) ∧ Res a (tyE d (lkf env) x) t c
  | d + 1, 0, m, x, _, _, hn => by omega
  | d + 1, n + 1, m, x, h, hv, hn => by
    obtain ⟨h1, h2, h3⟩ := h
    obtain ⟨m', k, rfl, hk, k2, k3, k4⟩ := expression_inv hv
    obtain ⟨r, hr, hl⟩ := cexpr_L0_pure (f := ruletype_checker_expr n) (g := tyE d (lkf env)) (env := env) (a := a) x.Kids 0 [] (fun q hq => cexpr_pure he d n m' q (h3 q hq) (k4 q hq) (by omega)) (by simp <;> omega)
    rw [ruletype_checker_expr, chk_bind (by simp only [szMax]; omega), hr, Option.bind_some, tyE]
    cases q : kidsE (tyE d (lkf env)) x.Kids with
    | error e =>
      rw [q] at hl
      simp only at hl
      subst hl
      exact ⟨_, _, rfl, rfl⟩
    | ok ts =>
      rw [q] at hl
      simp only [List.nil_append] at hl
      subst hl
      have hlen := kidsE_len q
      simp only [el_go, tyN]
      by_cases q20 : x.Kind = 20
      · rw [if_pos (by simpa using q20), if_pos q20]; exact ⟨_, _, rfl, rfl, rfl⟩
      rw [if_neg (by simpa using q20), if_neg q20]
      by_cases q21 : x.Kind = 21
      · rw [if_pos (by simpa using q21), if_pos q21]; exact ⟨_, _, rfl, rfl, rfl⟩
      rw [if_neg (by simpa using q21), if_neg q21]
      by_cases q22 : x.Kind = 22
      · rw [if_pos (by simpa using q22), if_pos q22]; exact ⟨_, _, rfl, rfl, rfl⟩
      rw [if_neg (by simpa using q22), if_neg q22]
      by_cases q23 : x.Kind = 23
      · rw [if_pos (by simpa using q23), if_pos q23, lookup_eq he (by omega), Option.bind_some]
        by_cases q0 : lk x.Text env = 0
        · rw [if_pos (by simpa using q0), fail_new, Option.bind_some, if_pos (show lkf env x.Text = 0 from q0)]; exact ⟨_, _, rfl, rfl⟩
        · rw [if_neg (by simpa using q0), if_neg (show ¬ lkf env x.Text = 0 from q0)]; exact ⟨_, _, rfl, rfl, rfl⟩
      rw [if_neg (by simpa using q23), if_neg q23]
      by_cases q24 : x.Kind = 24
      · rw [if_pos (by simpa using q24), if_pos q24, call_pure, Option.bind_some]
        refine ⟨_, _, rfl, ?_⟩
        by_cases q0 : (fnc x.Text).2 = 0
        · rw [if_pos q0, if_pos q0]; rfl
        · rw [if_neg q0, if_neg q0]
          by_cases q1 : ts = [(fnc x.Text).1]
          · rw [if_pos q1, if_pos q1]; exact ⟨rfl, rfl⟩
          · rw [if_neg q1, if_neg q1]; rfl
      rw [if_neg (by simpa using q24), if_neg q24, opr_eq (by omega) fun h16 => by
        rcases operands_16 h16 hk with rfl | rfl
        · have := k3 (by omega); omega
        · exact absurd rfl k2]
      rw [Option.bind_some]
      by_cases q0 : opr x ts = 0
      · rw [if_pos (by simpa using q0), fail_new, Option.bind_some, if_pos q0]; exact ⟨_, _, rfl, rfl⟩
      · rw [if_neg (by simpa using q0), if_neg q0]; exact ⟨_, _, rfl, rfl, rfl⟩
/-! ### statements -/
def nds (k : Int) : Int := if k = 2 then 3 else if k = 4 then 1 else if k = 5 then 1 else if k = 7 then 1 else if k = 8 then 2 else if k = 9 then 2 else 0
theorem nds_eq (x : M) : ruletype_needs x = some (nds x.Kind) := by
  unfold ruletype_needs nds
  by_cases h1 : x.Kind = 2; · rw [if_pos (by simpa using h1), if_pos h1]
  rw [if_neg (by simpa using h1), if_neg h1]
  by_cases h2 : x.Kind = 4; · rw [if_pos (by simpa using h2), if_pos h2]
  rw [if_neg (by simpa using h2), if_neg h2]
  by_cases h3 : x.Kind = 5; · rw [if_pos (by simpa using h3), if_pos h3]
  rw [if_neg (by simpa using h3), if_neg h3]
  by_cases h4 : x.Kind = 7; · rw [if_pos (by simpa using h4), if_pos h4]
  rw [if_neg (by simpa using h4), if_neg h4]
  by_cases h5 : x.Kind = 8; · rw [if_pos (by simpa using h5), if_pos h5]
  rw [if_neg (by simpa using h5), if_neg h5]
  by_cases h6 : x.Kind = 9; · rw [if_pos (by simpa using h6), if_pos h6]
  rw [if_neg (by simpa using h6), if_neg h6]
def brn (k : M) : List M := if k.Kind = 12 then k.Kids else [k]
theorem brn_eq (k : M) : ruletype_branch k = some (brn k) := by
  unfold ruletype_branch brn
  by_cases h : k.Kind = 12
  · rw [if_pos (by simpa using h), if_pos h]
  · rw [if_neg (by simpa using h), if_neg h]
def foldS (g : Env → M → Except Fault Env) : Env → List M → Except Fault Env
  | ρ, [] => .ok ρ
  | ρ, x :: l => match g ρ x with
    | .error e => .error e
    | .ok ρ' => foldS g ρ' l
theorem foldS_append (g : Env → M → Except Fault Env) : ∀ (l k : List M) (ρ : Env), foldS g ρ (l ++ k) = match foldS g ρ l with
    | .error e => .error e
    | .ok ρ' => foldS g ρ' k
  | [], k, ρ => rfl
  | x :: l, k, ρ => by
    rw [List.cons_append, foldS, foldS]
    cases g ρ x with
    | error e => rfl
    | ok ρ' => exact foldS_append g l k ρ'
def brs (g : M → Except Fault Env) : List M → Option Fault
  | [] => none
  | k :: l => match g k with
    | .error e => some e
    | .ok _ => brs g l
noncomputable def stm : Nat → Env → M → Except Fault Env
  | 0, _, _ => .error (0, 9)
  | d + 1, ρ, x => match x.Kids with
    | [] => .ok ρ
    | k0 :: ks => match tyE d ρ k0 with
      | .error e => .error e
      | .ok t =>
        if nds x.Kind ≠ 0 ∧ t ≠ nds x.Kind then .error (x.Line, 9)
        else if x.Kind = 3 then (if ρ x.Text = 0 then .ok (ext ρ x.Text t) else .error (x.Line, 4))
        else if x.Kind = 2 then (match brs (fun k => foldS (stm d) ρ (brn k)) ks with
          | some e => .error e
          | none => .ok ρ)
        else .ok ρ
def fin (a : Int) (r : Except Fault Env) : Ck := match r with
  | .ok _ => ⟨a, none⟩
  | .error e => ⟨e.1, some e.2⟩
theorem L3_same {f : Ck → List M → List Bd → Option Ck} {env : List Bd} {a e : Int} (hs : ∀ l r, f ⟨a, some e⟩ l env = some r → r = ⟨a, some e⟩) : ∀ (l : List M) (i : Nat), (∀ k ∈ l, ∃ r, f ⟨a, some e⟩ (brn k) env = some r) → ruletype_checker_block_L3 f env l i a (some e) = some (a, some e)
  | [], i, _ => rfl
  | k :: l, i, h => by
    obtain ⟨r, hr⟩ := h k (by simp)
    have := hs _ _ hr
    rw [ruletype_checker_block_L3, brn_eq, Option.bind_some, hr, Option.bind_some, this]
    exact L3_same hs l (i + 1) fun q hq => h q (by simp [hq])
theorem L3_pure {f : Ck → List M → List Bd → Option Ck} {g : M → Except Fault Env} {env : List Bd} {a : Int} (hs : ∀ a e l r, f ⟨a, some e⟩ l env = some r → r = ⟨a, some e⟩) : ∀ (l : List M) (i : Nat), (∀ k ∈ l, f ⟨a, none⟩ (brn k) env = some (fin a (g k))) → (∀ k ∈ l, ∀ c, ∃ r, f c (brn k) env = some r) →
    ruletype_checker_block_L3 f env l i a none = some (match brs g l with
      | none => (a, none)
      | some e => (e.1, some e.2))
  | [], i, _, _ => rfl
  | k :: l, i, h, h' => by
    rw [ruletype_checker_block_L3, brn_eq, Option.bind_some, h k (by simp), Option.bind_some, brs]
    cases q : g k with
    | error e => exact L3_same (fun l r => hs _ _ l r) l (i + 1) fun q hq => h' q (by simp [hq]) _
    | ok ρ => exact L3_pure hs l (i + 1) (fun q hq => h q (by simp [hq])) fun q hq => h' q (by simp [hq])
theorem drop1 {α : Type} {x : α} {l : List α} : subL (x :: l) (1 : Int) (((x :: l).length : Nat) : Int) = l := by
  unfold subL
  rw [show ((1 : Int)).toNat = 1 from rfl, List.drop_succ_cons, List.drop_zero, List.take_of_length_le (by simp only [List.length_cons]; omega)]
set_option maxRecDepth 100000 in
theorem block_L0_pure {n d : Nat} {f : Ck → List M → List Bd → Option Ck} {a : Int} (hn : d + 200000 ≤ n)
    (hs : ∀ env a e l r, f ⟨a, some e⟩ l env = some r → r = ⟨a, some e⟩)
    (hf : ∀ (l : List M) (env : List Bd), (∀ x ∈ l, Gd d x) → l.length ≤ 700 → env.length + 701 * (d + 1) ≤ 90000 → f ⟨a, none⟩ l env = some (fin a (foldS (stm d) (lkf env) l)))
    (hx : ∀ (l : List M) (env : List Bd) (c : Ck), (∀ x ∈ l, Gd d x) → l.length ≤ 700 → env.length + 701 * (d + 1) ≤ 90000 → ∃ r, f c l env = some r) :
    ∀ (l : List M) (i : Nat) (env : List Bd), (∀ x ∈ l, Gd (d + 1) x) → env.length + l.length + 701 * (d + 1) ≤ 90000 →
      ∃ r, ruletype_checker_block_L0 n f l i env a none = some r ∧ match foldS (stm (d + 1)) (lkf env) l with
        | .ok ρ => ∃ env', r = Fl.go (env', a, none) ∧ lkf env' = ρ ∧ env'.length ≤ env.length + l.length
        | .error e => r = Fl.ret ⟨e.1, some e.2⟩
  | [], i, env, _, _ => ⟨_, rfl, env, rfl, rfl, by simp⟩
  | x :: l, i, env, hg, he => by
    simp only [List.length_cons] at he
    have hgl : ∀ x ∈ l, Gd (d + 1) x := fun q hq => hg q (by simp [hq])
    have rec_ : ∀ env', env'.length ≤ env.length + 1 → ∃ r, ruletype_checker_block_L0 n f l (i + 1) env' a none = some r ∧ match foldS (stm (d + 1)) (lkf env') l with
        | .ok ρ => ∃ env2, r = Fl.go (env2, a, none) ∧ lkf env2 = ρ ∧ env2.length ≤ env.length + (l.length + 1)
        | .error e => r = Fl.ret ⟨e.1, some e.2⟩ := fun env' h1 => by
      obtain ⟨r, hr, h2⟩ := block_L0_pure hn hs hf hx l (i + 1) env' hgl (by omega)
      refine ⟨r, hr, ?_⟩
      cases q : foldS (stm (d + 1)) (lkf env') l with
      | error e => rw [q] at h2; exact h2
      | ok ρ => rw [q] at h2; obtain ⟨e2, a1, a2, a3⟩ := h2; exact ⟨e2, a1, a2, by omega⟩
    obtain ⟨hok, m, hm⟩ := hg x (by simp)
    obtain ⟨m, rfl, hv0, hv2⟩ := stated_inv hm
    obtain ⟨o1, o2, o3⟩ := hok
    rw [ruletype_checker_block_L0, foldS]
    simp only [List.length_cons]
    cases hk : x.Kids with
    | nil =>
      rw [if_pos (by simp), stm, hk]
      exact rec_ env (by omega)
    | cons k0 ks =>
      have hk0 : k0 ∈ x.Kids := by rw [hk]; simp
      obtain ⟨t, c, ht, hR⟩ := cexpr_pure (env := env) (by omega) (a := a) d n m k0 (o3 k0 hk0) (hv0 k0 (by rw [hk]; rfl)) (by omega)
      rw [if_neg (by simp; omega), show ix (k0 :: ks) 0 = some k0 from rfl, Option.bind_some, ht, Option.bind_some, nds_eq, Option.bind_some, stm, hk]
      simp only
      unfold Res at hR
      cases q : tyE d (lkf env) k0 with
      | error e =>
        rw [q] at hR
        simp only at hR
        subst hR
        rw [if_neg (by simp), if_pos (by simp)]
        exact ⟨_, rfl, rfl⟩
      | ok v =>
        rw [q] at hR
        simp only at hR
        obtain ⟨rfl, rfl⟩ := hR
        simp only
        by_cases qn : nds x.Kind ≠ 0 ∧ t ≠ nds x.Kind
        · rw [if_pos (by simpa using qn), fail_new, Option.bind_some, if_pos (by simp), if_pos qn]
          exact ⟨_, rfl, rfl⟩
        · rw [if_neg (by simpa using qn), if_neg qn, if_neg (by simp)]
          by_cases q3 : x.Kind = 3
          · rw [if_pos (by simpa using q3), if_pos q3]
            unfold ruletype_declared
            rw [lookup_eq (by omega) (by omega), Option.bind_some, Option.bind_some, extended_eq (by omega)]
            by_cases q0 : lk x.Text env = 0
            · rw [if_neg (by simpa using q0), Option.bind_some, if_neg (by simp), if_pos (show lkf env x.Text = 0 from q0)]
              simp only
              rw [← lkf_snoc]
              exact rec_ _ (by simp)
            · rw [if_pos (by simpa using q0), fail_new, Option.bind_some, Option.bind_some, if_pos (by simp), if_neg (show ¬ lkf env x.Text = 0 from q0)]
              exact ⟨_, rfl, rfl⟩
          · rw [if_neg (by simpa using q3), if_neg q3]
            by_cases q2 : x.Kind = 2
            · obtain ⟨l2, hb⟩ := hv2 q2
              rw [hk] at l2 hb
              have hbr : ∀ k ∈ ks, (∀ q ∈ brn k, Gd d q) ∧ (brn k).length ≤ 700 := fun k hk1 => by
                have hk2 : k ∈ x.Kids := by rw [hk]; simp [hk1]
                obtain ⟨l', e1, e2, e3⟩ := branch_ok (o3 k hk2) ((hb k (by simpa using hk1)).imp (fun h => ⟨h.1, fun q hq => ⟨m, h.2 q hq⟩⟩) fun h => ⟨h.1, m, h.2⟩)
                rw [brn_eq] at e1
                cases e1
                exact ⟨e3, e2⟩
              have hkl : (k0 :: ks).length ≤ 700 := by rw [← hk]; exact o2
              rw [if_pos (by simpa using q2), if_pos q2, chk_bind (by simp only [List.length_cons] at l2 ⊢; omega), drop1, chk_bind (by simp only [szMax]; simp only [List.length_cons] at hkl; omega),
                L3_pure (g := fun k => foldS (stm d) (lkf env) (brn k)) (hs env) ks 0 (fun k hk1 => hf _ _ (hbr k hk1).1 (hbr k hk1).2 (by omega)) (fun k hk1 c => hx _ _ c (hbr k hk1).1 (hbr k hk1).2 (by omega)), Option.bind_some]
              cases brs (fun k => foldS (stm d) (lkf env) (brn k)) ks with
              | some e => rw [if_pos (by simp)]; exact ⟨_, rfl, rfl⟩
              | none => rw [if_neg (by simp)]; exact rec_ env (by omega)
            · rw [if_neg (by simpa using q2), if_neg q2, if_neg (by simp)]
              exact rec_ env (by omega)
set_option maxRecDepth 100000 in
theorem block_pure {a : Int} : ∀ (d n : Nat) (l : List M) (env : List Bd), (∀ x ∈ l, Gd d x) → l.length ≤ 700 → env.length + 701 * (d + 1) ≤ 90000 → d + 300000 ≤ n → ruletype_checker_block n ⟨a, none⟩ l env = some (fin a (foldS (stm d) (lkf env) l))
  | d, 0, l, env, _, _, _, hn => by omega
  | 0, n + 1, l, env, hg, hl, he, hn => by
    have : l = [] := by
      cases l with
      | nil => rfl
      | cons x l => exact (hg x (by simp)).1.elim
    subst this
    rw [ruletype_checker_block, chk_bind (by simp only [szMax]; simp)]; rfl
  | d + 1, n + 1, l, env, hg, hl, he, hn => by
    obtain ⟨r, hr, h2⟩ := block_L0_pure (n := n) (d := d) (a := a) (f := ruletype_checker_block n) (by omega) (fun env a e l r => block_same n a e l env r) (fun l' env' h1 h2 h3 => block_pure d n l' env' h1 h2 h3 (by omega)) (fun l' env' c' h1 h2 h3 => block_ok d n l' env' c' h1 h2 h3 (by omega)) l 0 env hg (by omega)
    rw [ruletype_checker_block, chk_bind (by simp only [szMax]; omega)]
    simp only
    rw [hr, Option.bind_some]
    cases q : foldS (stm (d + 1)) (lkf env) l with
    | error e => rw [q] at h2; simp only at h2; subst h2; rfl
    | ok ρ => rw [q] at h2; obtain ⟨e2, a1, a2, a3⟩ := h2; subst a1; rfl
noncomputable def chkR (d : Nat) (ys : List M) : Int × Err := match foldS (stm d) base ys with
  | .ok _ => (0, none)
  | .error e => (e.1, some e.2)
set_option maxRecDepth 100000 in
theorem Check_pure {n d : Nat} {y : M} {b : Bool} (h : Ok (d + 1) y) (hd : d ≤ 100) (hn : 400000 ≤ n) (hb : ruletree_Valid n y = some b) : ruletype_Check n y = some (if b = true then chkR d y.Kids else (0, some 2)) := by
  unfold ruletype_Check
  rw [hb, Option.bind_some]
  cases b with
  | false => rfl
  | true =>
    have hv := Valid_inv hb
    have := h.2.1
    rw [if_neg (by simp), block_pure d n y.Kids [] (fun k hk => ⟨h.2.2 k hk, n, hv k hk⟩) this (by simp only [List.length_nil]; omega) (by omega), Option.bind_some]
    unfold chkR
    rw [lkf_nil]
    cases foldS (stm d) base y.Kids <;> rfl
end Rt
