import Derived.Test.YtiaaooopklhobaaGreatDoorRtAll
import Derived.KernelRfl
set_option linter.unusedVariables false
set_option linter.unusedSimpArgs false
set_option maxRecDepth 100000
open Go Go.SL Go.Proofs Pl Vary Rt Rt.Rv
namespace Tn
theorem qrs : JdD NN = some true := by decide +kernel
/-- A plan is the same as itself. -/
theorem qhc {a b : Js} (h : a = b) (h1 : a.Ao.length ≤ 100) (h2 : a.Vary.length ≤ 100) (h3 : a.Ah.length ≤ 100) : JW a b = some true := by
  subst h
  exact qm6 (Nat.le_trans h1 (by simp [qa7])) (Nat.le_trans h2 (by simp [qa7])) (Nat.le_trans h3 (by simp [qa7]))
theorem qno {p q : Js} (h : JW p q = some true) : ((if (none : Err).isNone = true then (JW p q).bind fun x167 => some x167 else some false).bind fun x168 => some x168) = some true := by
  rw [h]; rfl
end Tn
open Tn
theorem JdH (path text : Str) (n' : Int) (what : UInt8) (o0 : path.length ≤ qa7) (o1 : text.length ≤ qa7) (o2 : InK .u16 n') (o3 : True) : ∃ n, Jcp n path text n' what = some true := by
  refine ⟨NN, ?_⟩
  obtain ⟨v, hv1, hv, vne⟩ := qla o0
  obtain ⟨w, hw1, hw, wne⟩ := qla o1
  have vl := hv.l
  have wl := hw.l
  have hn0 : 0 ≤ n' ∧ n' ≤ 65535 := by simp only [InK] at o2; omega
  have a0 : 0 ≤ Int.tmod n' 10 := Int.tmod_nonneg _ hn0.1
  have a1 : Int.tmod n' 10 < 10 := Int.tmod_lt_of_pos _ (by decide)
  have d0 : 0 ≤ Int.tdiv n' 10 ∧ Int.tdiv n' 10 ≤ 65535 := by rw [Int.tdiv_eq_ediv_of_nonneg hn0.1]; omega
  have b0 : 0 ≤ Int.tmod (Int.tdiv n' 10) 10 := Int.tmod_nonneg _ d0.1
  have b1 : Int.tmod (Int.tdiv n' 10) 10 < 10 := Int.tmod_lt_of_pos _ (by decide)
  unfold Jcp
  rw [qrs, qul, qum (by simp), hv1, qul, hw1, qul]
  iterate 14 rw [qak (by simp [lim]; omega)]
  rw [qak (by simp only [InK]; omega), qak ⟨by decide, by simp only [InK]; omega⟩, qak (by simp only [InK]; omega), qak (by simp [lim]), qak (by simp [lim])]
  have hk : Int.tmod (what.toNat : Int) 8 = ((what.toNat % 8 : Nat) : Int) := by rw [Int.tmod_eq_emod_of_nonneg (by omega)]; omega
  have hk8 : what.toNat % 8 < 8 := Nat.mod_lt _ (by decide)
  rw [hk]
  generalize what.toNat % 8 = k at hk8
  clear hk
  have go : ∀ {s : Str} {p : Js} {F : (Option JI × Int × Err) → Option Bool} {G : (Js × Err) → Option Bool} {o : Option Str}, o = some s → (∃ d, qbc NN [(⟨hA, 0, s⟩ : JJ)] = some (some d, 0, none) ∧ qar NN d rq = some (p, none)) → (∀ d, F (some d, 0, none) = (qar NN d rq).bind G) → G (p, none) = some true → (o.bind fun x => (qbc NN [(⟨hA, 0, x⟩ : JJ)]).bind F) = some true := by
    intro s p F G o ho ⟨d, hdd, hp⟩ hF hG
    rw [ho, qul, hdd, qul, hF, hp, qul, hG]
  rcases k with _ | _ | _ | _ | _ | _ | _ | _ | k
  · refine go rfl (qtk hv vne) (fun d => rfl) ?_
    dsimp only
    rw [qun (by decide), qak (by simp [lim]; omega)]
    exact qno (qhc rfl (by simp [qcu]) (by simp [qcu]) (by simp [qcu]))
  · refine go rfl (qtl hv vne) (fun d => rfl) ?_
    dsimp only
    rw [qum (by decide), qun (by decide)]
    exact qno (qhc rfl (by simp [qcu]) (by simp [qcu]) (by simp [qcu]))
  · refine go rfl (qtn hv hw) (fun d => rfl) ?_
    dsimp only
    rw [qum (by decide), qum (by decide), qun (by decide), qak (by simp [lim]; omega), qak (by simp [lim])]
    exact qno (qhc rfl (by simp [qcu]) (by simp [qcu]) (by simp [qcu]))
  · refine go rfl (qto hv vne) (fun d => rfl) ?_
    dsimp only
    rw [qum (by decide), qum (by decide), qum (by decide), qun (by decide)]
    exact qno (qhc rfl (by simp [qcu]) (by simp [qcu]) (by simp [qcu]))
  · refine go rfl (qtp hv vne hw wne) (fun d => rfl) ?_
    dsimp only
    rw [qum (by decide), qum (by decide), qum (by decide), qum (by decide), qun (by decide), sbl]
    by_cases q : w = v
    · subst q
      rw [qum (by simp), qun (by simp), qun rfl]
      exact qno (qhc rfl (by simp [qcu]) (by simp [qcu]) (by simp [qcu]))
    · rw [qum q]
      by_cases q2 : v < w
      · rw [qum (by simp [q2]), qum (by simpa using fun e : v = w => q e.symm), (qnc (List.not_lt.1 fun k => List.lt_asymm q2 k)).1]
        exact qno (qhc rfl (by simp [qcu]) (by simp [qcu]) (by simp [qcu]))
      · rw [qun (by simp [q2]; exact fun e => q e.symm), qum (by simpa using fun e : v = w => q e.symm), (qnc (List.not_lt.1 q2)).2]
        exact qno (qhc rfl (by simp [qcu]) (by simp [qcu]) (by simp [qcu]))
  · refine go rfl (qts a0 a1 b0 b1) (fun d => rfl) ?_
    dsimp only
    rw [qum (by decide), qum (by decide), qum (by decide), qum (by decide), qum (by decide), qun (by decide), qak (by constructor <;> omega), qak (by constructor <;> omega), qak ⟨by decide, by simp only [InK]; omega⟩, qak (by constructor <;> omega), qak (by constructor <;> omega)]
    exact qno (qhc rfl (by simp) (by simp) (by simp))
  · refine go rfl qtq (fun d => rfl) ?_
    dsimp only
    rw [qum (by decide), qum (by decide), qum (by decide), qum (by decide), qum (by decide), qum (by decide), qun (by decide)]
    exact qno (qhc rfl (by simp) (by simp) (by simp))
  · refine go rfl qtr (fun d => rfl) ?_
    dsimp only
    rw [qum (by decide), qum (by decide), qum (by decide), qum (by decide), qum (by decide), qum (by decide), qum (by decide)]
    exact qno (qhc rfl (by simp) (by simp) (by simp))
  · omega
