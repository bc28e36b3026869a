import Derived.Test.YtkpipkpdnbconaaGreatDoorRtAm
set_option linter.unusedVariables false
set_option linter.unusedSimpArgs false
open Go Go.SL Go.Proofs Pl Rt Rt.Rc
namespace Rt.Rc
theorem awake_eq : JbZ 400100 = some true := by decide +kernel
end Rt.Rc
theorem JbP (x : Jk) (o0 : Jk.ok x) : ∃ n, JaT n x = some true := by
 refine ⟨400100, ?_⟩
 unfold JaT
 rcases Large_ok (n := 400100) o0 (by omega) with hL | ⟨hL, hx⟩
 ·rw [hL, Option.bind_some, if_pos rfl, Option.bind_some, if_pos rfl, Option.bind_some]
 ·rw [hL, Option.bind_some, if_neg (by simp), awake_eq, Option.bind_some, Option.bind_some, if_neg (by simp)]
  have cN := Large_cnt hL
  obtain ⟨y, hy, cy⟩ := Of_ok 40 400100 x hx (by omega)
  obtain ⟨b, b2⟩ := Valid_ok (n := 400100) (cy.ok hx) (by omega)
  have hok := cy.ok hx
  have hcn : cntL 39 y.Kids ≤ 10000 := by
   rw [← cy.cnt, cnt_eq] at cN; omega
  rw [hy, Option.bind_some, Compile_pure (d := 39) hok (by omega) (by omega) hcn b2, Option.bind_some]
  cases b with
  | false => rfl
  | true =>
   simp only [if_true]
   have hC := Check_pure (d := 39) (n := 400100) hok (by omega) (by omega) b2
   unfold chkR at hC
   cases q : foldS (stm 39) base y.Kids with
   | error e => rfl
   | ok ρ =>
    simp only
    by_cases q2 : (prog 39 y.Kids).length ≤ 2048
    ·rw [if_pos q2]
     have hv := Valid_inv b2
     have hg : ∀ k ∈ y.Kids, Gd 39 k := fun k hk => ⟨hok.2.2 k hk, 400100, hv k hk⟩
     have hsm : cntL 39 y.Kids ≤ 511 := by
      have := Valid_small b2 40
      rw [cnt_eq] at this; omega
     have hS := prog_S (d := 39) (l := y.Kids) hok.2.2
     have hd := prog_depth q2 hsm hg q
     have hD := Depth_pure hS
     obtain ⟨g, eg⟩ := Option.isSome_iff_exists.1 hd
     rw [eg] at hD
     have hw := worst_pure 39 400100 y.Kids [] ρ hg hok.2.1 (by omega) (by simp only [List.length_nil]; omega) (by omega) q
     rw [lkf_nil] at hw
     have bd := foldW_bd (d := 39) (w := wS 39) (g := stm 39) y.Kids base fun q hq ρ => wS_bd 39 q (hok.2.2 q hq) ρ
     have hW : Jbb 400100 y = some (foldW (wS 39) (stm 39) base y.Kids + 1, none) := by
      unfold Jbb
      rw [hC, q]
      simp only [if_true, Option.bind_some, Option.isSome_none, Bool.false_eq_true, if_false]
      rw [hw, Option.bind_some, chk_bind (by constructor <;> omega)]
     have cmp := cL_foldW (n := 39) y.Kids base ρ (fun q hq => cst_wS 39 q (hg q hq)) q
     have l1 := long_eq (m := 1) (c := prog 39 y.Kids) (n := 400100) (by omega) q2 (by omega) prog_jumps
     have l33 := long_eq (m := 33) (c := prog 39 y.Kids) (n := 400100) (by omega) q2 (by omega) prog_jumps
     rw [prog_lw (by omega) hg q] at l1 l33
     have hp := plain_eq (l := prog 39 y.Kids) (by omega)
     rw [if_neg (by simp), hp, Option.bind_some, hD, Option.bind_some, if_neg (by simp), Option.bind_some, hW, Option.bind_some, if_pos (by simp), Option.bind_some, l1, Option.bind_some, Option.bind_some, if_pos (by simp; omega), Option.bind_some, l33, Option.bind_some, Option.bind_some]
     simp
     omega
    ·rw [if_neg q2]; rfl
