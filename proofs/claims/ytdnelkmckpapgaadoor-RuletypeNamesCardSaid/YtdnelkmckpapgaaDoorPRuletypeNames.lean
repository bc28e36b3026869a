import Derived.Test.YtdnelkmckpapgaaDoorRtAll
set_option linter.unusedVariables false
set_option linter.unusedSimpArgs false
open Go Go.SL Go.Proofs Pl Rt
namespace Rt
theorem awake_eq : law44_awake 400100 = some true := by decide +kernel
abbrev fresh : Str := [102, 114, 101, 115, 104, 95, 110, 97, 109, 101]
def freshM : M := ⟨23, fresh, [], 0⟩
theorem fresh_valid : ruletree_Valid 400100 (tagM freshM) = some true := by decide +kernel
theorem uses_L0 {f : N → Str → Option Bool} {s : Str} : ∀ (l : List N) (i : Nat), (∀ k ∈ l, ∃ b, f k s = some b) → ∃ r, law44_uses_L0 f s l i = some r
  | [], i, _ => ⟨_, rfl⟩
  | k :: l, i, h => by
    rw [law44_uses_L0]
    exact bind_ex (h k (by simp)) fun _ _ => ite_ex (fun _ => ⟨_, rfl⟩) fun _ => uses_L0 l (i + 1) fun k hk => h k (by simp [hk])
theorem uses_ok {s : Str} : ∀ (d n : Nat) (x : N), OkN d x → d + 1 ≤ n → ∃ b, law44_uses n x s = some b
  | 0, n, x, h, _ => h.elim
  | d + 1, 0, x, h, hn => by omega
  | d + 1, n + 1, x, h, hn => by
    obtain ⟨h1, h2, h3⟩ := h
    rw [law44_uses]
    refine ite_ex (fun _ => ⟨_, rfl⟩) fun _ => ?_
    rw [chk_bind (by simp only [szMax]; omega)]
    obtain ⟨r, hr⟩ := uses_L0 (f := law44_uses n) (s := s) x.Kids 0 fun c hc => uses_ok d n c (h3 c hc) (by omega)
    rw [hr, Option.bind_some]
    cases r <;> exact ⟨_, rfl⟩
theorem namesL0 : ∀ (l : List Bd2) (i : Nat) (y : List Bd), y.length + l.length ≤ 100000 → law44_RuletypeNames_L0 l i y = some (y ++ l.map cnv)
  | [], i, y, _ => by simp [law44_RuletypeNames_L0]
  | b :: l, i, y, h => by
    simp only [List.length_cons] at h
    rw [law44_RuletypeNames_L0, chk_bind (by simp only [lim, List.length_cons, List.length_nil]; omega), namesL0 l (i + 1) _ (by simp only [List.length_append, List.length_cons, List.length_nil]; omega)]; simp [cnv]
theorem valid_line {n : Nat} {l : List M} {a b : Int} (hn : 1 ≤ n) : ruletree_Valid n ⟨1, [], l, a⟩ = ruletree_Valid n ⟨1, [], l, b⟩ := by
  obtain ⟨m, rfl⟩ : ∃ m, n = m + 1 := ⟨n - 1, by omega⟩
  unfold ruletree_Valid
  rw [ruletree_small, ruletree_small]
def both (x : N) : N := ⟨16, [61, 61], [x, x], 0⟩
def bothM (y : M) : M := ⟨16, [61, 61], [y, y], 0⟩
theorem both_ok {d : Nat} {x : N} (h : OkN d x) : OkN (d + 1) (both x) := ⟨by simp [both], by simp [both], fun k hk => by simp [both] at hk; subst hk; exact h⟩
theorem both_cvd {d : Nat} {x : N} {y : M} (h : Cvd d x y) : Cvd (d + 1) (both x) (bothM y) := ⟨rfl, rfl, rfl, .cons h (.cons h .nil)⟩
theorem both_cnt {d : Nat} {x : N} : cntN (d + 1) (both x) = 1 + 2 * cntN d x := by
  rw [cntN_eq]
  simp only [both, cntNL, List.map_cons, List.map_nil, List.sum_cons, List.sum_nil]
  omega
end Rt
set_option maxRecDepth 100000 in
theorem law44_RuletypeNames_true (x : S_ref43_Node) (env : List S_ref44_Binding) (o0 : S_ref43_Node.ok x) (o1 : env.length ≤ szMax ∧ ∀ y0 ∈ env, S_ref44_Binding.ok y0) : ∃ n, law44_RuletypeNames n x env = some true := by
  refine ⟨400100, ?_⟩
  unfold law44_RuletypeNames
  rcases Large_ok (n := 400100) o0 (by omega) with hL | ⟨hL, hx⟩
  · rw [hL, Option.bind_some, if_pos (by simp), Option.bind_some, if_pos rfl, Option.bind_some, if_pos rfl, Option.bind_some, if_pos (by simp), Option.bind_some]
  · rw [hL, Option.bind_some, Option.bind_some]
    by_cases h0 : (env.length : Int) > 50
    · rw [if_pos (by simp; omega), Option.bind_some, if_pos rfl, Option.bind_some, if_pos rfl, Option.bind_some]
    · obtain ⟨u, hu⟩ := uses_ok (s := fresh) 40 400100 x hx (by omega)
      rw [if_neg (by simp; omega), hu, Option.bind_some, Option.bind_some]
      cases u with
      | true => rw [if_pos rfl, Option.bind_some, if_pos rfl, Option.bind_some]
      | false =>
        rw [if_neg (by simp), awake_eq, Option.bind_some, Option.bind_some, if_neg (by simp)]
        have cN := Large_cnt hL
        obtain ⟨y, hy, cy⟩ := Of_ok 40 400100 x hx (by omega)
        have yok := cy.ok hx
        have hc : cntN (41 + 1) (tag x) ≤ 10000 := by
          have : cntN (40 + 2) (tag x) = 2 + cntN 40 x := tag_cnt
          show cntN (40 + 2) (tag x) ≤ 10000
          omega
        obtain ⟨b, b1, b2⟩ := Valid_rel (n := 400100) (d := 41) (tag_ok hx) (tag_cvd cy) (by omega) (by omega) hc
        have hl : lkf ((env.map cnv).filter gd1) = lkf2 (env.filter gd2) := by
          rw [filter_cnv]; funext s; exact lk_map s _
        have hrg := rg_good env
        rw [← hl] at hrg
        rw [chk_bind (by simp only [szMax]; omega), namesL0 env 0 [] (by simp only [List.length_nil]; omega), Option.bind_some, List.nil_append, hy, Option.bind_some]
        have h1 := Of_pure (n := 400100) (d := 40) (env := env.map cnv) yok (by omega) (by rw [List.length_map]; omega) (by omega) b2
        cases b with
        | false => rw [h1]; rfl
        | true =>
          simp only [if_true] at h1
          cases q : tyE 40 (lkf ((env.map cnv).filter gd1)) y with
          | error e =>
            rw [q] at h1
            rw [h1]; rfl
          | ok t =>
            rw [q] at h1
            have h1 : ruletype_Of 400100 y (env.map cnv) = some (t, none) := h1
            have ht := tyE_rg hrg q
            have ht1 : 1 ≤ t ∧ t ≤ 3 := by rcases ht with rfl | rfl | rfl <;> omega
            have hg : gd1 (⟨fresh, t⟩ : Bd) = true := by simp [gd1, ht1.1, ht1.2]
            have hof : law43_Of 400100 (⟨23, fresh, [], 0⟩ : N) = some freshM := by
              obtain ⟨z, e, hz⟩ := Of_ok 1 400100 (⟨23, fresh, [], 0⟩ : N) ⟨by simp, by simp, fun k hk => by simp at hk⟩ (by omega)
              rw [e, Cvd.func hz (show Cvd 1 ⟨23, fresh, [], 0⟩ freshM from ⟨rfl, rfl, rfl, .nil⟩)]
            have h2 := Of_pure (n := 400100) (d := 40) (y := freshM) (env := env.map cnv ++ [(⟨fresh, t⟩ : Bd)]) (show Ok 40 freshM from ⟨by simp [freshM], by simp [freshM], fun k hk => by simp [freshM] at hk⟩) (by omega) (by simp; omega) (by omega) fresh_valid
            have hty : tyE 40 (lkf ((env.map cnv ++ [(⟨fresh, t⟩ : Bd)]).filter gd1)) freshM = .ok t := by
              rw [List.filter_append, show ([(⟨fresh, t⟩ : Bd)] : List Bd).filter gd1 = [(⟨fresh, t⟩ : Bd)] from by simp [List.filter_cons, hg], lkf_snoc, tyE]
              have he : ext (lkf ((env.map cnv).filter gd1)) fresh t freshM.Text = t := by
                unfold ext; exact if_pos rfl
              simp only [freshM, kidsE]
              simp only [freshM] at he
              unfold tyN
              simp only
              rw [if_neg (by omega), if_neg (by omega), if_neg (by omega), if_pos trivial, he, if_neg (by omega)]
            rw [hty] at h2
            have h2 : ruletype_Of 400100 freshM (env.map cnv ++ [(⟨fresh, t⟩ : Bd)]) = some (t, none) := h2
            rw [h1, Option.bind_some, if_neg (by simp), if_neg (by simp; omega), hof, Option.bind_some, chk_bind (by simp [lim]; omega), h2, Option.bind_some, if_neg (by simp), show law44_Program [(⟨7, [], [⟨16, [61, 61], [x, x], 0⟩], 0⟩ : N)] = some ⟨1, [], [⟨7, [], [both x], 0⟩], 1⟩ from rfl, Option.bind_some]
            have bo := both_ok hx
            have bc := both_cvd cy
            have po : OkN (42 + 1) ⟨1, [], [⟨7, [], [both x], 0⟩], 1⟩ := ⟨by simp, by simp, fun k hk => by
              simp at hk; subst hk
              exact ⟨by simp, by simp, fun k hk => by simp at hk; subst hk; exact bo⟩⟩
            have pc : Cvd (42 + 1) ⟨1, [], [⟨7, [], [both x], 0⟩], 1⟩ ⟨1, [], [⟨7, [], [bothM y], 0⟩], 1⟩ := ⟨rfl, rfl, rfl, .cons ⟨rfl, rfl, rfl, .cons bc .nil⟩ .nil⟩
            have pn : cntN (42 + 1) ⟨1, [], [⟨7, [], [both x], 0⟩], 1⟩ ≤ 10000 := by
              have : cntN 41 (both x) = 1 + 2 * cntN 40 x := both_cnt (d := 40) (x := x)
              rw [cntN_eq]
              simp only [cntNL, List.map_cons, List.map_nil, List.sum_cons, List.sum_nil]
              rw [cntN_eq]
              simp only [cntNL, List.map_cons, List.map_nil, List.sum_cons, List.sum_nil]
              omega
            obtain ⟨v, v1, v2⟩ := Valid_rel (n := 400100) (d := 42) po pc (by omega) (by omega) pn
            rw [v1, Option.bind_some]
            cases v with
            | false => rfl
            | true =>
              rw [valid_line (b := 0) (by omega)] at v2
              obtain ⟨y2, hy2, cy2⟩ := Of_ok 41 400100 (both x) bo (by omega)
              obtain rfl := Cvd.func cy2 bc
              have h3 := Of_pure (n := 400100) (d := 41) (y := bothM y) (env := env.map cnv) (bc.ok bo) (by omega) (by rw [List.length_map]; omega) (by omega) v2
              have hop : opr (bothM y) [t, t] = 3 := by
                unfold opr ruletype_operator
                simp [bothM, ix]
              have hty3 : tyE 41 (lkf ((env.map cnv).filter gd1)) (bothM y) = .ok 3 := by
                rw [tyE]
                simp only [show (bothM y).Kids = [y, y] from rfl, kidsE, q]
                rw [tyN_op (by simp [bothM]) (by simp [bothM]) (by simp [bothM]) (by simp [bothM]) (by simp [bothM]), hop]
                rfl
              rw [hty3] at h3
              rw [if_neg (by simp), show (⟨16, [61, 61], [x, x], 0⟩ : N) = both x from rfl, hy2, Option.bind_some, h3, Option.bind_some]
              rfl
