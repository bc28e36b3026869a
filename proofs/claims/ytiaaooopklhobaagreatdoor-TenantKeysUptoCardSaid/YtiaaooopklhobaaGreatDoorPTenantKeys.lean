import Derived.Test.YtiaaooopklhobaaGreatDoorRtAll
import Derived.KernelRfl
set_option linter.unusedVariables false
set_option linter.unusedSimpArgs false
set_option maxRecDepth 100000
open Go Go.SL Go.Proofs Pl
namespace Tn
theorem qkp : Jc4 10000 = some true := by decide +kernel
theorem qml : ∀ (f : List Jc) (i : Nat) (y : Int), (∀ e ∈ f, Jc.ok e) → 0 ≤ y → y + 2000000000 * f.length ≤ 4611686018427387904 → Jba f i y = some (y + (tf f : Int))
  | [], i, y, _, _, _ => by rw [Jba]; simp [tf]
  | e :: f, i, y, h, h0, h1 => by
    have he := h e (by simp)
    simp only [Jc.ok, qe0, List.length_cons] at he h1
    rw [Jba, qao (by constructor <;> omega), qao (by constructor <;> omega), qao (by constructor <;> omega), qml f (i + 1) _ (fun x hx => h x (by simp [hx])) (by omega) (by omega)]
    simp only [tf]
    congr 1; omega
theorem qpx {f : List Jc} (h : f.length ≤ qe0) (h' : ∀ e ∈ f, Jc.ok e) : Jdi f = some (tf f : Int) := by
  simp only [qe0] at h
  unfold Jdi
  rw [qao (by simp only [qbg]; omega), qml f 0 0 h' (by omega) (by omega), qsn]
  simp
end Tn
open Tn
theorem JdA (one two : Jx) (f : List Jc) (o0 : Jx.ok one) (o1 : Jx.ok two) (o2 : f.length ≤ qe0 ∧ ∀ y0 ∈ f, Jc.ok y0) : ∃ n, Jch n one two f = some true := by
  refine ⟨10000, ?_⟩
  obtain ⟨t0, _, _, _, a0, _, ⟨_, v0⟩, _⟩ := o0
  obtain ⟨t1, _, _, _, a1, _, _, _⟩ := o1
  obtain ⟨_, p0, q0, _⟩ := a0
  obtain ⟨_, p1, q1, _⟩ := a1
  simp only [qe0] at p0 q0 p1 q1 v0
  unfold Jch
  by_cases c0 : (one.Vary.length : Int) > 20
  · rw [qsp (by simpa using c0)]; simp only [qsn, if_true, qkp]
  rw [qso (by simpa using c0), qao (by constructor <;> omega), qao (by constructor <;> omega), qao (by constructor <;> omega), qsn]
  by_cases c1 : ((((one.Cache.Ae.length : Int) + (two.Cache.Ae.length : Int)) + (one.Cache.Af.length : Int)) + (two.Cache.Af.length : Int)) > 4000
  · rw [qsp (by simpa using c1)]; simp only [qsn, if_true, qkp]
  rw [qso (by simpa using c1), qpx o2.1 o2.2, qsn, qsn]
  by_cases c2 : (tf f : Int) > 4000
  · rw [qsp (by simpa using c2)]; simp only [qsn, if_true, qkp]
  rw [qso (by simpa using c2), qkp, qsn, qsn, qsn, qso (by simp)]
  obtain ⟨b0, h0, k0⟩ := qkz (n := 10000) (a := one.Cache) (by omega) (by decide)
  obtain ⟨b1, h1, k1⟩ := qkz (n := 10000) (a := two.Cache) (by omega) (by decide)
  rw [h0, qsn]
  cases b0 with
  | false => rfl
  | true =>
    rw [qso (by simp), h1, qsn]
    cases b1 with
    | false => rfl
    | true =>
      have e0 := qk0 h0 (k0 rfl) t0 (by omega)
      have e1 := qk0 h1 (k1 rfl) t1 (by omega)
      have l0 : (bse one).length ≤ 6000 := by
        have h2 := (k0 rfl).2.1
        have h3 : (Go.Lib.itoa one.Tenant).length ≤ 21 := Go.Lib.itoa_length_le _ t0.1 t0.2
        unfold bse tgt
        split <;> simp only [List.length_append, List.length_cons] <;> omega
      have iff : decide (bse one = bse two) = (decide (one.Tenant = two.Tenant) && (decide (one.Cache.An = two.Cache.An) && (decide (one.Cache.Ae = two.Cache.Ae) && (decide (one.Cache.Af = two.Cache.Af) && (one.Cache.HasQuery == two.Cache.HasQuery))))) := by
        rw [Bool.eq_iff_iff]
        simp only [Bool.and_eq_true, decide_eq_true_eq, beq_iff_eq]
        constructor
        · exact qp2 (k0 rfl) (k1 rfl)
        · rintro ⟨g1, g2, g3, g4, g5⟩
          unfold bse tgt
          rw [g1, g2, g3, g4, g5]
      have ek : tenant_Key 10000 one f = if decide ((one.Vary.length : Int) = 0) then some (bse one) else (vary_Key one.Vary f).bind fun x17 => (chk ((bse one ++ ([32] : Str)).length + x17.length ≤ lim)).bind fun _ => some ((bse one ++ ([32] : Str)) ++ x17) := by
        unfold tenant_Key
        rw [e0, qsn, qsn, qao (by simp only [lim, List.length_singleton]; omega)]
      rw [qsn, qsn, qso (by simp), e0, qsn, e1, qsn, qso (by rw [iff]; simp), qsn, ek]
      by_cases c3 : one.Vary.length = 0
      · rw [qso (fun h => by have := of_decide_eq_true h; omega), qsp (decide_eq_true (by omega)), qsn]; simp
      · obtain ⟨r, r1, r2⟩ := qp4 (f := f) (l := one.Vary) (by omega) (by omega) v0
        rw [qsp (decide_eq_true (by omega)), qso (fun h => by have := of_decide_eq_true h; omega), r1, qsn, qao (by simp only [lim, List.length_singleton]; omega), qao (by simp only [lim, List.length_append, List.length_singleton]; omega), qsn, qao (by simp only [lim, List.length_append, List.length_singleton]; omega), qsn]
        simp
