import Derived.Test.YtiaaooopklhobaaGreatDoorRtAll
import Derived.KernelRfl
set_option linter.unusedVariables false
set_option linter.unusedSimpArgs false
set_option maxRecDepth 100000
open Go Go.SL Go.Proofs Pl
namespace Tn
def hA : Str := [97, 46, 101, 120, 97, 109, 112, 108, 101]
def hAE : Str := [65, 46, 69, 120, 97, 109, 112, 108, 101]
def qnb : Str := [104, 111, 115, 116]
def qnc : List Jf := [⟨12, 0, []⟩]
def qoz (t : Int) : JE := ⟨[(hA, ⟨t, qnc⟩)]⟩
def fH : List Jc := [⟨qnb, hAE⟩]
def zP : Jz := ⟨0, 0, 0, zAd, zAd, [], [], [], false, false⟩
theorem qkf : Jc2 10000 = some true := by decide +kernel
theorem qnd : Jcg hA = some (hA, none) := by decide +kernel
theorem qrj (t : Int) (h0 : 0 ≤ t) (h1 : t < 16) : ∃ k, qdf 10000 [(⟨[97, 46, 101, 120, 97, 109, 112, 108, 101], t, []⟩ : J3)] = some (some (qoz t), k, none) := by
  obtain ⟨m, rfl⟩ := Int.eq_ofNat_of_zero_le h0
  have hm : m < 16 := by omega
  clear h0 h1
  refine ⟨0, ?_⟩
  rcases m with _ | _ | _ | _ | _ | _ | _ | _ | _ | _ | _ | _ | _ | _ | _ | _ | m
  all_goals first | omega | kernel_rfl
theorem qrc : JcI fH qnb = some [hAE] := by decide +kernel
theorem qrd : qco hAE = some hA := by decide +kernel
theorem qrk (m h p q : Str) : JdI 10000 qnc ⟨m, h, p, q, fH⟩ 10000 = some (⟨p, q, [], [], [], -1, 0, 1, false, false⟩, none) := by kernel_rfl
theorem upH : qcg 10000 fH [] = some [] := by kernel_rfl
theorem qpy {a : Jl} {hs vs ts : _} {x y z : Int} {b c : Bool} (l1 : a.Ae.length + a.Af.length ≤ 5000) (h : a.HasQuery = false → a.Af = []) : qcf a (⟨a.Ae, a.Af, hs, vs, ts, x, y, z, b, c⟩ : Jp) = some (tgt a) := by
  unfold qcf tgt
  cases q : a.HasQuery with
  | true =>
    have : ((if decide (a.Af ≠ ([] : Str)) then some true else some (true && decide (a.Af = a.Af))) : Option Bool) = some true := by split <;> simp
    rw [this, qrn, qrp rfl, qrp rfl, qa9 (by simp only [lim, List.length_singleton]; omega), qa9 (by simp only [lim, List.length_append, List.length_singleton]; omega)]
    simp
  | false =>
    have e := h q
    dsimp only
    rw [e, qro (by simp), qrn, qro (by simp), qro (by simp)]
def pln (t : Int) (a : Jl) (p : Bool) : Jz := ⟨t, -1, 0, a, a, [], [], [], p, false⟩
theorem qo0 {m tg : Str} {t : Int} {a : Jl} {e : Int} (hl : tg.length ≤ 5000) (h : prs hA tg = (a, some e)) : qa2 10000 (qoz t) ⟨m, tg, fH⟩ = some (zP, some 27) := by
  unfold qa2
  rw [show ([104, 111, 115, 116] : Str) = qnb from rfl, qrc, qrn, qro (by simp), show ix [hAE] 0 = some hAE from rfl, qrn, qrd, qrn, show mget (qoz t).sites hA = some ⟨t, qnc⟩ from by unfold qoz; rw [qb9, qrp rfl], qro (by simp), qf1 qnd (by decide) hl (by decide), qrn, h]; rfl
theorem qne {m tg : Str} {t : Int} {a : Jl} (hl : tg.length ≤ 5000) (h : prs hA tg = (a, none)) : qa2 10000 (qoz t) ⟨m, tg, fH⟩ = some (pln t a (decide (m ≠ [71, 69, 84]) && decide (m ≠ [72, 69, 65, 68])), none) := by
  obtain ⟨h1, h2, h3, h4, h5, h6⟩ := qp9 h
  have l1 : a.Ae.length + a.Af.length ≤ 1024 := by
    unfold txl at h4
    cases q : a.HasQuery with
    | true => rw [q, qrp rfl] at h4; omega
    | false => rw [q, qro (by simp)] at h4; rw [h5 q]; simp only [List.length_nil]; omega
  have l2 : (tgt a).length ≤ 5000 := by
    unfold tgt
    split
    · simp only [List.length_append, List.length_cons]; omega
    · omega
  unfold qa2
  rw [show ([104, 111, 115, 116] : Str) = qnb from rfl, qrc, qrn, qro (by simp), show ix [hAE] 0 = some hAE from rfl, qrn, qrd, qrn, show mget (qoz t).sites hA = some ⟨t, qnc⟩ from by unfold qoz; rw [qb9, qrp rfl], qro (by simp), qf1 qnd (by decide) hl (by decide), qrn, h, qro (by simp)]
  dsimp only [Option.getD]
  rw [qrk, qrn, qro (by simp)]
  dsimp only
  rw [qpy (by omega) h5, qrn, qf1 qnd (by decide) l2 (by decide), qrn, h6, qro (by simp), show Jby [] = some [] from by decide +kernel, qrn, show qft [] = some [] from by decide +kernel, qrn, upH, qrn, show qdp [] = some [] from by decide +kernel, qrn, show qc6 10000 [] = some [] from by decide +kernel, qrn, qro (by simp)]
  by_cases q : (decide (m ≠ ([71, 69, 84] : Str)) && decide (m ≠ ([72, 69, 65, 68] : Str))) = true
  · rw [qrp q, qrn, q]; rfl
  · rw [qro q, show JcI fH ([97, 117, 116, 104, 111, 114, 105, 122, 97, 116, 105, 111, 110] : Str) = some [] from by decide +kernel, qrn, qrn, Bool.eq_false_iff.2 q]; rfl
end Tn
open Tn
theorem Jdw (tenants : UInt8) (target : Str) (method : UInt8) (o0 : True) (o1 : target.length ≤ qbh) (o2 : True) : ∃ n, Jb2 n tenants target method = some true := by
  refine ⟨10000, ?_⟩
  unfold Jb2
  by_cases q : (target.length : Int) > 2000
  · rw [qrp (by simpa using q), qrn, qrp rfl, qkf]; rfl
  rw [qro (by simpa using q), qkf, qrn, qrn, qro (by simp)]
  obtain ⟨m, hm, hp⟩ : ∃ m, ix ([([71, 69, 84] : Str), ([72, 69, 65, 68] : Str), ([80, 79, 83, 84] : Str)]) ((method % (3 : UInt8)).toNat : Int) = some m ∧ (decide (m ≠ ([71, 69, 84] : Str)) && decide (m ≠ ([72, 69, 65, 68] : Str))) = decide (m = ([80, 79, 83, 84] : Str)) := by
    have h3 : (method % (3 : UInt8)).toNat < 3 := by rw [UInt8.toNat_mod]; exact Nat.mod_lt _ (by decide)
    generalize (method % (3 : UInt8)).toNat = k at h3
    rcases k with _ | _ | _ | k
    · exact ⟨_, rfl, by decide⟩
    · exact ⟨_, rfl, by decide⟩
    · exact ⟨_, rfl, by decide⟩
    · omega
  have t0 : 0 ≤ Int.tmod (tenants.toNat : Int) 16 := Int.tmod_nonneg _ (by omega)
  have t1 : Int.tmod (tenants.toNat : Int) 16 < 16 := Int.tmod_lt_of_pos _ (by decide)
  generalize Int.tmod (tenants.toNat : Int) 16 = t at t0 t1
  obtain ⟨k, hk⟩ := qrj t t0 t1
  rw [hm, qrn, hk, qrn]
  dsimp only [Option.elim]
  rw [qro (by simp), show ([97, 46, 101, 120, 97, 109, 112, 108, 101] : Str) = hA from rfl, qf1 qnd (by decide) (by omega) (by decide)]
  rw [show ([(⟨([104, 111, 115, 116] : Str), ([65, 46, 69, 120, 97, 109, 112, 108, 101] : Str)⟩ : Jc)]) = fH from rfl]
  rcases hpr : prs hA target with ⟨a, _ | e⟩
  · rw [qne (by omega) hpr, qrn, qrn, qro (by simp), hp]
    simp [pln, chk]
    try decide
  · rw [qo0 (by omega) hpr, qrn, qrn, qrp (by simp), show Jc3 (zP, (some 27 : Err)).1 = some true from by decide +kernel, qrn, qrp rfl, show Jeq (zP, (some 27 : Err)).2 27 = some true from by decide +kernel]; rfl
