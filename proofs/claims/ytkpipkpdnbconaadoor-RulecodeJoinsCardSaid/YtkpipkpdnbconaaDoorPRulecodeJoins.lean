import Derived.Test.YtkpipkpdnbconaaDoorRtAll
set_option linter.unusedVariables false
set_option linter.unusedSimpArgs false
open Go Go.SL Go.Proofs Pl Rt Rt.Rc
namespace Rt.Rc
theorem awake_eq : Jbr 400100 = some true := by decide +kernel
theorem ixg {α : Type} {l : List α} {i : Nat} (h : i < l.length) : ix l (i : Int) = some l[i] := ixn h
theorem joins_L0 {A B : List I} (hA : A.length ≤ 2048) (hB : (B ++ [haltI]).length ≤ 2048) (hbd : ∀ i ∈ B ++ [haltI], isJ i = true → 0 ≤ i.N ∧ i.N ≤ 10000000) : ∀ (m i : Nat), i + m = (A ++ shL A.length (B ++ [haltI])).length →
    JM (A ++ [haltI], none) (B ++ [haltI], none) ((A ++ shL A.length (B ++ [haltI])).drop i) i = some (Fl.go ())
  | 0, i, h => by rw [List.drop_eq_nil_of_le (by omega)]; rfl
  | m + 1, i, h => by
    have hlt : i < (A ++ shL A.length (B ++ [haltI])).length := by omega
    have e1 : ((A ++ [haltI]).length : Int) - 1 = (A.length : Int) := by simp
    rw [List.drop_eq_getElem_cons hlt, JM]
    simp only [e1]
    by_cases q : i < A.length
    · have h1 : i < (A ++ [haltI]).length := by simp; omega
      have e2 : (A ++ shL A.length (B ++ [haltI]))[i] = A[i] := List.getElem_append_left q
      have e3 : (A ++ [haltI])[i] = A[i] := List.getElem_append_left q
      rw [if_pos (by simpa using q), ixg h1, Option.bind_some, e2, e3, if_neg (by simp)]
      exact joins_L0 hA hB hbd m (i + 1) (by omega)
    · have hj : i - A.length < (B ++ [haltI]).length := by simp only [List.length_append, shL_len] at hlt ⊢; omega
      have e2 : (A ++ shL A.length (B ++ [haltI]))[i] = shI A.length (B ++ [haltI])[i - A.length] := by
        rw [List.getElem_append_right (by omega)]
        unfold shL
        rw [List.getElem_map]
      have e4 : ((i : Int) - (A.length : Int)) = ((i - A.length : Nat) : Int) := by omega
      rw [if_neg (by simpa using q), chk_bind (by constructor <;> omega), e4, ixg hj, Option.bind_some, e2]
      have hm : (B ++ [haltI])[i - A.length] ∈ B ++ [haltI] := List.getElem_mem hj
      generalize (B ++ [haltI])[i - A.length] = z at hm
      have hjz : (decide (z.Op = 9) || decide (z.Op = 10)) = isJ z := rfl
      rw [hjz]
      cases qj : isJ z with
      | true =>
        have hb := hbd z hm qj
        have es : shI A.length z = ⟨z.Op, z.N + A.length, z.S⟩ := by unfold shI; rw [if_pos qj]
        rw [if_pos rfl, chk_bind (by constructor <;> omega), es, if_neg (by simp)]
        exact joins_L0 hA hB hbd m (i + 1) (by omega)
      | false =>
        have es : shI A.length z = z := by unfold shI; rw [if_neg (by simp [qj])]
        rw [if_neg (by simp), es, if_neg (by simp)]
        exact joins_L0 hA hB hbd m (i + 1) (by omega)
end Rt.Rc
theorem Jbj (a b : Jd) (o0 : Jd.ok a) (o1 : Jd.ok b) : ∃ n, JaN n a b = some true := by
  refine ⟨400100, ?_⟩
  unfold JaN
  rcases Large_ok (n := 400100) o0 (by omega) with hA | ⟨hA, xA⟩
  · rw [hA, Option.bind_some, if_pos rfl, Option.bind_some, if_pos rfl, Option.bind_some, if_pos rfl, Option.bind_some, if_pos rfl, Option.bind_some, if_pos rfl, Option.bind_some, if_pos rfl, Option.bind_some]
  rcases Large_ok (n := 400100) o1 (by omega) with hB | ⟨hB, xB⟩
  · rw [hA, Option.bind_some, if_neg (by simp), hB, Option.bind_some, Option.bind_some, if_pos rfl, Option.bind_some, if_pos rfl, Option.bind_some, if_pos rfl, Option.bind_some, if_neg (by simp), Option.bind_some, if_pos rfl, Option.bind_some]
  have cA := Large_cnt hA
  have cB := Large_cnt hB
  obtain ⟨za, _, ca⟩ := Of_ok 40 400100 a xA (by omega)
  obtain ⟨zb, _, cb⟩ := Of_ok 40 400100 b xB (by omega)
  have lA := lets_top (n := 400100) xA ca (by omega) cA
  have lB := lets_top (n := 400100) xB cb (by omega) cB
  have nA := nlt_le 40 za
  have nB := nlt_le 40 zb
  rw [ca.cnt] at nA
  rw [cb.cnt] at nB
  rw [hA, Option.bind_some, if_neg (by simp), hB, Option.bind_some, Option.bind_some, if_neg (by simp), lA, Option.bind_some, lB, Option.bind_some, chk_bind (by constructor <;> omega), Option.bind_some]
  by_cases q0 : nlt 40 za + nlt 40 zb > 0
  · have e : decide (((nlt 40 za : Int) + (nlt 40 zb : Int)) > 0) = true := by simp; omega
    rw [e, if_pos rfl, Option.bind_some, if_pos rfl, Option.bind_some]
    first | rfl | simp [chk_bind, e]
  have e : decide (((nlt 40 za : Int) + (nlt 40 zb : Int)) > 0) = false := by simp; omega
  rw [e, if_neg (by simp), awake_eq, Option.bind_some, Option.bind_some, if_neg (by simp)]
  have na : NL 40 za := nlt_0 (by omega)
  have nb : NL 40 zb := nlt_0 (by omega)
  have okza := ca.ok xA
  have na' := NL.up okza na
  obtain ⟨_, lA', kA⟩ := xA
  obtain ⟨_, lB', kB⟩ := xB
  obtain ⟨ya, eA, aA⟩ := Of_top (n := 400100) (l := a.Kids) (by omega) kA (by omega)
  obtain ⟨yb, eB, aB⟩ := Of_top (n := 400100) (l := b.Kids) (by omega) kB (by omega)
  obtain ⟨yc, eC, aC⟩ := Of_top (n := 400100) (l := a.Kids ++ b.Kids) (by rw [List.length_append]; omega) (fun k hk => (List.mem_append.1 hk).elim (kA k) (kB k)) (by omega)
  obtain rfl := cvdL_func aC (aA.append aB)
  obtain rfl := cvdL_func aA ca.2.2.2
  have okA : ∀ k ∈ za.Kids, Ok 39 k := fun k hk => by obtain ⟨q, hq, hc⟩ := aA.mem k hk; exact hc.ok (kA q hq)
  have okB : ∀ k ∈ yb, Ok 39 k := fun k hk => by obtain ⟨q, hq, hc⟩ := aB.mem k hk; exact hc.ok (kB q hq)
  have mA := aA.len
  have mB := aB.len
  obtain ⟨r1, h1, g1⟩ := Compile_top (n := 400100) (ys := za.Kids) (by omega) okA (by omega)
  obtain ⟨r2, h2, g2⟩ := Compile_top (n := 400100) (ys := yb) (by omega) okB (by omega)
  obtain ⟨r3, h3, g3⟩ := Compile_top (n := 400100) (ys := za.Kids ++ yb) (by rw [List.length_append]; omega) (fun k hk => (List.mem_append.1 hk).elim (okA k) (okB k)) (by omega)
  rw [chk_bind (by simp only [List.length_nil, lim]; omega), chk_bind (by simp only [List.nil_append, lim]; omega), List.nil_append]
  unfold JaJ
  simp only [Option.bind_some]
  rw [eA, Option.bind_some, h1, Option.bind_some, eB, Option.bind_some, h2, Option.bind_some, eC, Option.bind_some, h3, Option.bind_some]
  obtain ⟨p1, f1⟩ := r1
  obtain ⟨p2, f2⟩ := r2
  obtain ⟨p3, f3⟩ := r3
  cases f1 with
  | some e => rw [if_pos (by simp)]
  | none =>
  cases f2 with
  | some e => rw [if_pos (by simp)]
  | none =>
  cases f3 with
  | some e => rw [if_pos (by simp)]
  | none =>
  rw [if_neg (by simp)]
  obtain ⟨i1, s1, _⟩ := g1 rfl
  obtain ⟨i2, s2, _⟩ := g2 rfl
  obtain ⟨i3, s3, _⟩ := g3 rfl
  simp only at i1 i2 i3
  subst i1 i2 i3
  have hp := prog_append (d := 39) (l := za.Kids) (m := yb) fun x hx => NL.kid na' hx
  have e1 : prog 39 za.Kids = (foldC (cS 39) (fun _ => none) 0 0 za.Kids).1 ++ [haltI] := rfl
  have e2 : prog 39 yb = (foldC (cS 39) (fun _ => none) 0 0 yb).1 ++ [haltI] := rfl
  have hbd : ∀ i ∈ (foldC (cS 39) (fun _ => none) 0 0 yb).1 ++ [haltI], isJ i = true → 0 ≤ i.N ∧ i.N ≤ 10000000 := by
    have hb := foldC_bd (g := cS 39) yb (fun _ => none) 0 0 fun q _ σ z b => cS_bd 39 q σ z b
    rw [e2] at s2
    exact (hb.append (Bd.one rfl)).le (by omega)
  rw [e1] at s1 ⊢
  rw [e2] at s2 hp ⊢
  rw [hp] at s3 ⊢
  generalize (foldC (cS 39) (fun _ => none) 0 0 za.Kids).1 = A at *
  generalize (foldC (cS 39) (fun _ => none) 0 0 yb).1 = B at *
  have sA : A.length ≤ 2047 := by simp at s1; omega
  have sB : B.length ≤ 2047 := by simp at s2; omega
  rw [if_neg (by simp; omega), chk_bind (by simp only [List.length_append, List.length_singleton]; constructor <;> omega), chk_bind (by simp only [List.length_append, List.length_singleton]; constructor <;> omega), Option.bind_some, if_neg (by simp [shL_len] <;> omega), chk_bind (by simp only [List.length_append, List.length_singleton]; constructor <;> omega), chk_bind (by simp only [szMax]; omega)]
  have hj := joins_L0 (A := A) (B := B) (by omega) s2 hbd (A ++ shL A.length (B ++ [haltI])).length 0 (by omega)
  rw [List.drop_zero] at hj
  rw [hj, Option.bind_some, el_go]
