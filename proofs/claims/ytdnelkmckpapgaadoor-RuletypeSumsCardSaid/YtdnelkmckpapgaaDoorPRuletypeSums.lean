import Derived.Test.YtdnelkmckpapgaaDoorRtJ
set_option linter.unusedVariables false
set_option linter.unusedSimpArgs false
open Go Go.SL Go.Proofs Pl Rt
namespace Rt
theorem awake_eq : law44_awake 400100 = some true := by decide +kernel
end Rt
theorem law44_RuletypeSums_true (a b : S_ref43_Node) (o0 : S_ref43_Node.ok a) (o1 : S_ref43_Node.ok b) : ∃ n, law44_RuletypeSums n a b = some true := by
  refine ⟨400100, ?_⟩
  unfold law44_RuletypeSums
  rcases Large_ok (n := 400100) o0 (by omega) with hA | ⟨hA, xA⟩
  · rw [hA, Option.bind_some, if_pos rfl, Option.bind_some, if_pos rfl, Option.bind_some, if_pos rfl, Option.bind_some, if_pos rfl, Option.bind_some]
  rcases Large_ok (n := 400100) o1 (by omega) with hB | ⟨hB, xB⟩
  · rw [hA, Option.bind_some, if_neg (by simp), hB, Option.bind_some, Option.bind_some, if_pos rfl, Option.bind_some, if_pos rfl, Option.bind_some, if_neg (by simp), Option.bind_some]
  rw [hA, Option.bind_some, if_neg (by simp), hB, Option.bind_some, Option.bind_some, if_neg (by simp), awake_eq, Option.bind_some, Option.bind_some, if_neg (by simp)]
  have cA := Large_cnt hA
  have cB := Large_cnt hB
  obtain ⟨_, lA, kA⟩ := xA
  obtain ⟨_, lB, kB⟩ := xB
  rw [cntN_eq] at cA cB
  obtain ⟨ya, eA, aA⟩ := Of_top (n := 400100) (l := a.Kids) (by omega) kA (by omega)
  obtain ⟨yb, eB, aB⟩ := Of_top (n := 400100) (l := b.Kids) (by omega) kB (by omega)
  obtain ⟨yc, eC, aC⟩ := Of_top (n := 400100) (l := a.Kids ++ b.Kids) (by rw [List.length_append]; omega) (fun k hk => (List.mem_append.1 hk).elim (kA k) (kB k)) (by omega)
  obtain rfl := cvdL_func aC (aA.append aB)
  have okA : ∀ k ∈ ya, Ok 39 k := fun k hk => by obtain ⟨q, hq, hc⟩ := aA.mem k hk; exact hc.ok (kA q hq)
  have okB : ∀ k ∈ yb, Ok 39 k := fun k hk => by obtain ⟨q, hq, hc⟩ := aB.mem k hk; exact hc.ok (kB q hq)
  have nA := cvdL_cnt aA
  have nB := cvdL_cnt aB
  have mA := aA.len
  have mB := aB.len
  obtain ⟨r1, h1, g1⟩ := Worst_top (n := 400100) (ys := ya) (by omega) okA (by omega) (by omega)
  obtain ⟨r2, h2, g2⟩ := Worst_top (n := 400100) (ys := yb) (by omega) okB (by omega) (by omega)
  obtain ⟨r3, h3, g3⟩ := Worst_top (n := 400100) (ys := ya ++ yb) (by rw [List.length_append]; omega) (fun k hk => (List.mem_append.1 hk).elim (okA k) (okB k)) (by rw [cntL_append]; omega) (by omega)
  rw [chk_bind (by simp only [lim]; omega), chk_bind (by simp only [lim]; omega)]
  unfold law44_Program
  simp only [Option.bind_some]
  rw [eA, Option.bind_some, h1, Option.bind_some, eB, Option.bind_some, h2, Option.bind_some, eC, Option.bind_some, h3, Option.bind_some]
  cases q1 : r1.2 with
  | some e => rw [if_pos (by simp)]
  | none =>
  cases q2 : r2.2 with
  | some e => rw [if_pos (by simp)]
  | none =>
  cases q3 : r3.2 with
  | some e => rw [if_pos (by simp)]
  | none =>
  rw [if_neg (by simp)]
  obtain ⟨w1, a1, b1, c1, d1⟩ := g1 q1
  obtain ⟨w2, a2, b2, c2, d2⟩ := g2 q2
  obtain ⟨w3, a3, b3, c3, d3⟩ := g3 q3
  obtain ⟨e1, f1, i1, l1⟩ := d1 0 [] 0 (Ev.refl _) (by simp) (by omega) (by omega)
  obtain ⟨e2, f2, i2, l2⟩ := d2 (0 + ya.length) e1 (0 + w1) i1 (by simp at l1; omega) (by omega) (by omega)
  obtain ⟨e3, f3, i3, l3⟩ := d3 0 [] 0 (Ev.refl _) (by simp) (by omega) (by omega)
  rw [worst_append ya yb 0 [] 0 _ _ f1, f2] at f3
  have hw : 0 + w1 + w2 = 0 + w3 := by
    have := Option.some.inj f3
    exact congrArg Prod.snd this
  rw [chk_bind (by constructor <;> omega), chk_bind (by constructor <;> omega)]
  have t1 : r3.1 = r1.1 + r2.1 - 1 := by omega
  have t2 : r1.1 > (a.Kids.length : Int) := by omega
  have t3 : r2.1 > (b.Kids.length : Int) := by omega
  simp [t1, t2, t3]
