import Derived.Test.YtkpipkpdnbconaaGreatDoorRtAm
set_option linter.unusedVariables false
set_option linter.unusedSimpArgs false
open Go Go.SL Go.Proofs Pl Rt Rt.Rc
namespace Rt.Rc
theorem awake_eq : JbU 400100 = some true := by decide +kernel
theorem well_L0 : ∀ (l : List I) (i : Nat) (y z : Int), 0 ≤ y → y + l.length ≤ 1000000 → sto l y = some z → JX l i y = some (Fl.go z)
 | [], i, y, z, _, _, h => by cases h; rfl
 | x :: l, i, y, z, h0, h1, h => by
  simp only [List.length_cons] at h1
  rw [JX]
  rw [sto] at h
  by_cases q : x.Op = 4
  ·rw [if_pos q] at h
   by_cases q2 : x.N = y
   ·rw [if_pos q2] at h
    rw [if_pos (by simpa using q), if_neg (by simpa using q2), chk_bind (by constructor <;> omega)]
    exact well_L0 l (i + 1) (y + 1) z (by omega) (by omega) h
   ·rw [if_neg q2] at h; cases h
  ·rw [if_neg q] at h
   rw [if_neg (by simpa using q)]
   exact well_L0 l (i + 1) y z h0 (by omega) h
theorem Valid_kind {n : Nat} {x : M} (h : J9 n x = some true) : x.Kind = 1 := by
 unfold J9 at h
 split at h
 ·cases h
 ·rename_i q
  simp at q
  exact q.1
end Rt.Rc
theorem JbP (x : Jf) (o0 : Jf.ok x) : ∃ n, Ja2 n x = some true := by
 refine ⟨400100, ?_⟩
 unfold Ja2
 rcases Large_ok (n := 400100) o0 (by omega) with hL | ⟨hL, hx⟩
 ·rw [hL, Option.bind_some, if_pos rfl, Option.bind_some, if_pos rfl, Option.bind_some]
 ·rw [hL, Option.bind_some, if_neg (by simp), awake_eq, Option.bind_some, Option.bind_some, if_neg (by simp)]
  have cN := Large_cnt hL
  obtain ⟨y, hy, cy⟩ := Of_ok 40 400100 x hx (by omega)
  obtain ⟨b, b2⟩ := Valid_ok (n := 400100) (cy.ok hx) (by omega)
  have hok := cy.ok hx
  have hcn : cntL 39 y.Kids ≤ 10000 := by
   rw [← cy.cnt, cnt_eq] at cN; omega
  have lX := lets_top (n := 400100) hx cy (by omega) cN
  rw [hy, Option.bind_some, Compile_pure (d := 39) hok (by omega) (by omega) hcn b2, Option.bind_some, Option.bind_some, Check_pure (d := 39) hok (by omega) (by omega) b2, Option.bind_some]
  cases b with
  | false => rfl
  | true =>
   simp only [if_true]
   unfold chkR
   cases q : foldS (stm 39) base y.Kids with
   | error e => simp [num_eq]
   | ok ρ =>
    simp only
    by_cases q2 : (prog 39 y.Kids).length ≤ 2048
    ·rw [if_pos q2]
     have hv := Valid_inv b2
     have hg : ∀ k ∈ y.Kids, Gd 39 k := fun k hk => ⟨hok.2.2 k hk, 400100, hv k hk⟩
     have hsm : cntL 39 y.Kids ≤ 511 := by
      have := Valid_small b2 40
      rw [cnt_eq] at this; omega
     have hS := prog_S (d := 39) (l := y.Kids) hok.2.2
     have hd := prog_depth q2 hsm hg q
     have hD := Depth_pure hS
     rw [if_neg (by simp), plain_eq (l := prog 39 y.Kids) (by omega), Option.bind_some, hD, Option.bind_some, Check45_pure hS, if_pos hd]
     obtain ⟨g, eg⟩ := Option.isSome_iff_exists.1 hd
     rw [eg]
     simp only
     rw [if_neg (by simp), Option.bind_some, Option.bind_some, if_neg (by simp), chk_bind (by simp only [szMax]; omega), well_L0 _ 0 0 _ (by omega) (by omega) (prog_sto hg q), Option.bind_some, el_go, lX, Option.bind_some]
     have e : nlt 40 y = nltL 39 y.Kids := by
      have := Valid_kind b2
      rw [nlt_eq, if_neg (by omega)]; omega
     rw [e]; simp
    ·rw [if_neg q2, if_pos (by simp), if_pos (by simp)]
     rfl
