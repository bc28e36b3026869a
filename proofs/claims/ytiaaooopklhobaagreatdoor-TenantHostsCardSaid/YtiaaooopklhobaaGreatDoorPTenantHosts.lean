import Derived.Test.YtiaaooopklhobaaGreatDoorR
import Derived.Test.YtiaaooopklhobaaGreatDoorPlain
import Derived.KernelRfl
set_option linter.unusedVariables false
set_option linter.unusedSimpArgs false
set_option maxRecDepth 100000
open Go Go.SL Go.Proofs Pl
namespace Tn
def hA : Str := [97, 46, 101, 120, 97, 109, 112, 108, 101]
def hB : Str := [98, 46, 101, 120, 97, 109, 112, 108, 101]
def hBX : Str := [66, 46, 69, 88, 65, 77, 80, 76, 69]
def qil : Str := [104, 111, 115, 116]
def qow : List Jf := [⟨12, 0, []⟩]
def dir : JE := ⟨[(hA, ⟨0, qow⟩), (hB, ⟨1, qow⟩)]⟩
def fh (s : Str) : Jc := ⟨qil, s⟩
def req (l : List Jc) : JJ := ⟨[71, 69, 84], [47], l⟩
def adr (s : Str) : Jq := ⟨s, [47], [], false⟩
def qpx (t : Int) (s : Str) : Jz := ⟨t, -1, 0, adr s, adr s, [], [], [], false, false⟩
def zA : Jq := ⟨[], [], [], false⟩
def zP : Jz := ⟨0, 0, 0, zA, zA, [], [], [], false, false⟩
theorem qjx : Jc4 10000 = some true := by decide +kernel
theorem qox : qdf 10000 [(⟨[97, 46, 101, 120, 97, 109, 112, 108, 101], 0, []⟩ : JT), (⟨[98, 46, 101, 120, 97, 109, 112, 108, 101], 1, []⟩ : JT)] = some (some dir, 0, none) := by kernel_rfl
theorem ixg {α : Type} {l : List α} {i : Nat} (h : i < l.length) : ix l (i : Int) = some l[i] := by
  unfold ix; rw [if_pos (by omega), Int.toNat_natCast, List.getElem?_eq_getElem h]
theorem qm4 : ∀ (l : List Str) (i : Nat) (y : Int), ∃ t, J8 l i y = some t
  | [], i, y => ⟨_, rfl⟩
  | x :: l, i, y => qm4 l (i + 1) _
theorem qm5 : ∀ (l : List Str) (i : Nat) (y : Int), (∀ x ∈ l, x.length ≤ qbd) → 0 ≤ y → y + 140737488351232 * l.length ≤ 4611686018427387904 → ∃ t, J8 l i y = some t ∧ y ≤ t ∧ ∀ x ∈ l, (x.length : Int) ≤ t - y
  | [], i, y, _, _, _ => ⟨_, rfl, Int.le_refl _, fun x hx => by cases hx⟩
  | x :: l, i, y, h, h0, h1 => by
    have hx := h x (by simp)
    simp only [qbd, List.length_cons] at hx h1
    have e : IntKind.i64.wrap (y + (x.length : Int)) = y + (x.length : Int) := qei (by simp only [InK]; omega)
    obtain ⟨t, t1, t2, t3⟩ := qm5 l (i + 1) (y + (x.length : Int)) (fun z hz => h z (by simp [hz])) (by omega) (by omega)
    refine ⟨t, by rw [J8, e, t1], by omega, fun z hz => ?_⟩
    rcases List.mem_cons.1 hz with rfl | hz
    · omega
    · have := t3 z hz; omega
theorem qli : ∀ (k i : Nat) (s : Str), i + k ≤ s.length → ∃ r, tenant_lower_L0 k i s = some r
  | 0, i, s, _ => ⟨_, rfl⟩
  | k + 1, i, s, h => by
    have hi : i < s.length := by omega
    rw [tenant_lower_L0, ixg hi, Option.bind_some, Option.bind_some]
    split
    · exact qli k (i + 1) _ (by rw [List.length_set]; omega)
    · exact qli k (i + 1) s (by omega)
theorem qml {s : Str} (h : s.length ≤ 100000) : ∃ r, qbo s = some r := by
  obtain ⟨r, hr⟩ := qli s.length 0 s (by omega)
  unfold qbo
  rw [qdq (by simp only [lim]; omega), qdq (by constructor <;> omega), Int.toNat_natCast, hr]
  exact ⟨r, rfl⟩
theorem qm6 : ∀ (l : List Str) (i : Nat) (y : List Jc), y.length + l.length ≤ 1000 → JM l i y = some (y ++ l.map fh)
  | [], i, y, _ => by rw [JM]; simp
  | x :: l, i, y, h => by
    simp only [List.length_cons] at h
    rw [JM, qdq (by simp only [lim, List.length_singleton]; omega), qm6 l (i + 1) _ (by simp only [List.length_append, List.length_singleton]; omega)]
    simp [fh, qil]
theorem qpy : JaR qil = some qil := by decide +kernel
theorem qm7 : ∀ (l : List Str) (i : Nat) (y : List Str), y.length + l.length ≤ 1000 → Jba qil (l.map fh) i y = some (y ++ l)
  | [], i, y, _ => by rw [List.map_nil, Jba]; simp
  | x :: l, i, y, h => by
    simp only [List.length_cons] at h
    rw [List.map_cons, Jba, show (fh x).Name = qil from rfl, qpy, Option.bind_some, if_pos (by simp), qdq (by simp only [lim, List.length_singleton]; omega), qm7 l (i + 1) _ (by simp only [List.length_append, List.length_singleton]; omega)]
    simp [fh]
theorem qjy {l : List Str} (h : l.length ≤ 10) : JbU (l.map fh) qil = some l := by
  unfold JbU
  rw [qpy, Option.bind_some, qdq (by simp only [List.length_map, qbd]; omega), qm7 l 0 [] (by simp only [List.length_nil]; omega)]; rfl
theorem qmm {l : List Str} (h : l.length ≤ 10) (h1 : l.length ≠ 1) : qas 10000 dir (req (l.map fh)) = some (zP, some 8) := by
  unfold qas
  rw [show (req (l.map fh)).Ao = l.map fh from rfl, show ([104, 111, 115, 116] : Str) = qil from rfl, qjy h, Option.bind_some, if_pos (by simp; omega)]; rfl
theorem qpk {h : Str} (hl : qbo h = some hA) : qas 10000 dir (req [fh h]) = some (qpx 0 hA, none) := by
  unfold qas
  rw [show JbU (req [fh h]).Ao ([104, 111, 115, 116] : Str) = some [h] from qjy (l := [h]) (by simp), Option.bind_some, if_neg (by simp), show ix [h] 0 = some h from rfl, Option.bind_some, hl, Option.bind_some]
  kernel_rfl
theorem qpl {h : Str} (hl : qbo h = some hB) : qas 10000 dir (req [fh h]) = some (qpx 1 hB, none) := by
  unfold qas
  rw [show JbU (req [fh h]).Ao ([104, 111, 115, 116] : Str) = some [h] from qjy (l := [h]) (by simp), Option.bind_some, if_neg (by simp), show ix [h] 0 = some h from rfl, Option.bind_some, hl, Option.bind_some]
  kernel_rfl
theorem qoy {h r : Str} (hl : qbo h = some r) (h1 : r ≠ hA) (h2 : r ≠ hB) : qas 10000 dir (req [fh h]) = some (zP, some 8) := by
  unfold qas
  have hg : mget dir.sites r = none := by
    unfold dir
    rw [qcb, if_neg (fun e => h1 e.symm), qcb, if_neg (fun e => h2 e.symm)]; rfl
  rw [show JbU (req [fh h]).Ao ([104, 111, 115, 116] : Str) = some [h] from qjy (l := [h]) (by simp), Option.bind_some, if_neg (by simp), show ix [h] 0 = some h from rfl, Option.bind_some, hl, Option.bind_some, hg, if_pos (by simp)]; rfl
theorem qn0 {h : Str} (hh : h.length ≤ 100000) : ∃ p e, qas 10000 dir (req [fh h]) = some (p, e) ∧ (e = none ∨ e = some 8) := by
  obtain ⟨r, hr⟩ := qml hh
  by_cases q1 : r = hA
  · subst q1; exact ⟨_, _, qpk hr, .inl rfl⟩
  by_cases q2 : r = hB
  · subst q2; exact ⟨_, _, qpl hr, .inl rfl⟩
  exact ⟨_, _, qoy hr q1 q2, .inr rfl⟩
end Tn
open Tn
theorem JdA (hosts : List Str) (o0 : hosts.length ≤ qbd ∧ ∀ y0 ∈ hosts, y0.length ≤ qbd) : ∃ n, Jb4 n hosts = some true := by
  refine ⟨10000, ?_⟩
  by_cases cA : hosts = [hA]
  · subst cA; kernel_rfl
  by_cases cB : hosts = [hB]
  · subst cB; kernel_rfl
  by_cases cX : hosts = [hBX]
  · subst cX; kernel_rfl
  unfold Jb4
  obtain ⟨t, ht⟩ := qm4 hosts 0 0
  rw [qdq o0.1, ht, Option.bind_some]
  by_cases q : (decide (t > 2000) || decide ((hosts.length : Int) > 10)) = true
  · rw [if_pos q, Option.bind_some, if_pos rfl, qjx]; rfl
  have hl : hosts.length ≤ 10 := by
    simp only [Bool.or_eq_true, decide_eq_true_eq, not_or] at q; omega
  rw [if_neg q, qjx, Option.bind_some, Option.bind_some, if_neg (by simp), qox, Option.bind_some]
  dsimp only [Option.elim]
  rw [if_neg (by simp), qdq o0.1, qm6 hosts 0 [] (by simp only [List.length_nil]; omega), Option.bind_some, List.nil_append]
  rw [show qa5 (⟨([71, 69, 84] : Str), ([47] : Str), hosts.map fh⟩ : JJ) = some (zP, some 3) from rfl, Option.bind_some]
  rw [show JcG (zP, (some 3 : Err)).2 3 = some true from by decide +kernel, Option.bind_some, if_neg (by simp), show qa8 = some [] from rfl, Option.bind_some, Option.bind_some, if_neg (by simp)]
  rw [show (⟨([71, 69, 84] : Str), ([47] : Str), hosts.map fh⟩ : JJ) = req (hosts.map fh) from rfl]
  by_cases h1 : hosts.length = 1
  · obtain ⟨h, rfl⟩ : ∃ h, hosts = [h] := List.length_eq_one_iff.1 h1
    have nA : h ≠ [97, 46, 101, 120, 97, 109, 112, 108, 101] := fun e => cA (by rw [e]; rfl)
    have nB : h ≠ [98, 46, 101, 120, 97, 109, 112, 108, 101] := fun e => cB (by rw [e]; rfl)
    have nX : h ≠ [66, 46, 69, 88, 65, 77, 80, 76, 69] := fun e => cX (by rw [e]; rfl)
    obtain ⟨t', u1, u2, u3⟩ := qm5 [h] 0 0 o0.2 (Int.le_refl _) (by simp)
    have ht2 : t' = t := by rw [ht] at u1; exact (Option.some.inj u1).symm
    have hh := u3 h (by simp)
    have hq : ¬ t > 2000 := fun e => q (by simp [e])
    obtain ⟨p, e, hd, he⟩ := qn0 (h := h) (by omega)
    rw [show req ([h].map fh) = req [fh h] from rfl, hd, Option.bind_some, if_pos (by simp), show ix [h] 0 = some h from rfl, Option.bind_some, if_neg (by simpa using nA), Option.bind_some, Option.bind_some, if_neg (by simpa using nB), Option.bind_some, Option.bind_some, decide_eq_false nX, Option.bind_some, Option.bind_some, if_neg (by simp), if_neg (by simp)]
    rcases he with rfl | rfl
    · rfl
    · rw [if_neg (by simp), show JcG (p, (some 8 : Err)).2 8 = some true from by show JcG (some 8) 8 = some true; decide +kernel]; rfl
  · rw [qmm hl h1, Option.bind_some, if_neg (by simp; omega), Option.bind_some, if_neg (by simp), if_pos (by simp; omega), show Jc5 (zP, (some 8 : Err)).1 = some true from by kernel_rfl, Option.bind_some, if_pos rfl, show JcG (zP, (some 8 : Err)).2 8 = some true from by show JcG (some 8) 8 = some true; decide +kernel]; rfl
