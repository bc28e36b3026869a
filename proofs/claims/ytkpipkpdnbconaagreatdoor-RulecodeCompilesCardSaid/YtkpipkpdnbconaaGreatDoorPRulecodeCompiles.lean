import Derived.Test.YtkpipkpdnbconaaGreatDoorRtAll
set_option linter.unusedVariables false
set_option linter.unusedSimpArgs false
open Go Go.SL Go.Proofs Pl Rt Rt.Rc
namespace Rt.Rc
theorem awake_eq : Jcz 400100 = some true := by decide +kernel
theorem ixn2 {l : List I} {i : Nat} (h : i < l.length) : ix (l.map cv) (i : Int) = some (cv l[i]) := by
  unfold ix
  rw [if_pos (by omega), show ((i : Nat) : Int).toNat = i by simp, List.getElem?_map, List.getElem?_eq_getElem h]
  rfl
theorem same_L0 {l : List I} : ∀ (m i : Nat), i + m = l.length → Jbs (l.map cv) (l.drop i) i = some (Fl.go ())
  | 0, i, h => by rw [List.drop_eq_nil_of_le (by omega)]; rfl
  | m + 1, i, h => by
    have hlt : i < l.length := by omega
    rw [List.drop_eq_getElem_cons hlt, Jbs, ixn2 hlt, Option.bind_some, if_neg (by simp [cv]), Option.bind_some, Option.bind_some, if_neg (by simp [cv]), Option.bind_some, Option.bind_some, if_neg (by simp [cv])]
    exact same_L0 m (i + 1) (by omega)
theorem same_eq {l : List I} (h : l.length ≤ 1000000) : Jcv l (l.map cv) = some true := by
  unfold Jcv
  rw [if_neg (by simp), chk_bind (by simp only [szMax]; omega)]
  have := same_L0 (l := l) l.length 0 (by omega)
  rw [List.drop_zero] at this
  rw [this, Option.bind_some, el_go]
end Rt.Rc
theorem Jb6 (x : Jc) (o0 : Jc.ok x) : ∃ n, JaZ n x = some true := by
  refine ⟨400100, ?_⟩
  unfold JaZ
  rcases Large_ok (n := 400100) o0 (by omega) with hL | ⟨hL, hx⟩
  · rw [hL, Option.bind_some, if_pos rfl, Option.bind_some, if_pos rfl, Option.bind_some]
  · rw [hL, Option.bind_some, if_neg (by simp), awake_eq, Option.bind_some, Option.bind_some, if_neg (by simp)]
    have cN := Large_cnt hL
    obtain ⟨y, hy, cy⟩ := Of_ok 40 400100 x hx (by omega)
    obtain ⟨b, b1, b2⟩ := Valid_rel (n := 400100) (d := 39) hx cy (by omega) (by omega) (Nat.le_trans cN (by omega))
    have hok := cy.ok hx
    have hcn : cntL 39 y.Kids ≤ 10000 := by
      rw [← cy.cnt, cnt_eq] at cN; omega
    rw [hy, Option.bind_some, Compile_pure (d := 39) hok (by omega) (by omega) hcn b2, Option.bind_some, Compile2_pure (d := 39) hx hok cy (by omega) (by omega) hcn b1 b2, Option.bind_some]
    cases b with
    | false => rfl
    | true =>
      simp only [if_true]
      cases q : foldS (stm 39) base y.Kids with
      | error e => simp [num_eq]; rfl
      | ok ρ =>
        simp only
        by_cases q2 : (prog 39 y.Kids).length ≤ 2048
        · rw [if_pos q2, if_pos q2]
          simp only
          rw [same_eq (by omega)]; rfl
        · rw [if_neg q2, if_neg q2]; rfl
