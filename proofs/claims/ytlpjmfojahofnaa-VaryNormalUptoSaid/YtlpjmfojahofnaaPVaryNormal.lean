import Derived.Test.YtlpjmfojahofnaaVaryI
set_option linter.unusedVariables false
set_option linter.unusedSimpArgs false
open Go Go.SL Go.Proofs Pl Vary
namespace Vary
/-! ### more blanks -/
def sp1 (c : UInt8) : Str := if decide ((c.toNat : Int) = 32) then [c, 9, 32] else [c]
def spc (s : Str) : Str := [32] ++ s.flatMap sp1 ++ [9]
theorem sp1_len (c : UInt8) : (sp1 c).length ≤ 3 := by unfold sp1; split <;> simp
theorem spf_len : ∀ (s : Str), (s.flatMap sp1).length ≤ 3 * s.length
  | [] => Nat.zero_le _
  | c :: s => by
    have := spf_len s; have := sp1_len c
    simp only [List.flatMap_cons, List.length_append, List.length_cons]; omega
theorem spc_len (s : Str) : (spc s).length ≤ 3 * s.length + 2 := by
  have := spf_len s
  unfold spc; simp only [List.length_append, List.length_cons, List.length_nil]; omega
theorem spaced_L0 {s : Str} (hs : s.length ≤ 1000000) : ∀ (r : Str) (i : Nat) (y : Str), s.drop i = r → y.length + 3 * r.length ≤ 1000000000 → law16_spaced_L0 s r i y = some (y ++ r.flatMap sp1)
  | [], i, y, _, _ => by simp [law16_spaced_L0]
  | c :: r, i, y, hd, h => by
    simp only [List.length_cons] at h
    obtain ⟨hd', hi, e⟩ := sub_one hd
    have hc := sp1_len c
    have ih := spaced_L0 hs r (i + 1) (y ++ sp1 c) hd' (by simp only [List.length_append]; omega)
    rw [List.flatMap_cons, ← List.append_assoc, ← ih, law16_spaced_L0, e, chk_bind (by omega), chk_bind (by simp only [lim, List.length_cons, List.length_nil]; omega)]
    by_cases k : (c.toNat : Int) = 32
    · rw [if_pos (by simpa using k), chk_bind (by simp only [lim, List.length_append, List.length_cons, List.length_nil]; omega), show sp1 c = [c] ++ [9, 32] from by unfold sp1; rw [if_pos (by simpa using k)]; rfl, List.append_assoc]
    · rw [if_neg (by simpa using k), show sp1 c = [c] from by unfold sp1; rw [if_neg (by simpa using k)]]
theorem spaced_eq {s : Str} (h : s.length ≤ 1000000) : law16_spaced s = some (spc s) := by
  have := spf_len s
  unfold law16_spaced
  rw [chk_bind (by simp only [szMax]; omega), spaced_L0 h s 0 [32] rfl (by simp <;> omega), Option.bind_some, chk_bind (by simp only [lim, List.length_append, List.length_cons, List.length_nil]; omega)]; rfl
theorem nst_b {p : Str × Bool} {c : UInt8} (h : isB c = true) : nst p c = (p.1, true) := by unfold nst; rw [if_pos h]
theorem fold_sp : ∀ (s : Str) (p : Str × Bool), (s.flatMap sp1).foldl nst p = s.foldl nst p
  | [], p => rfl
  | c :: s, p => by
    rw [List.flatMap_cons, List.foldl_append, List.foldl_cons, fold_sp s]
    congr 1
    unfold sp1
    by_cases k : (c.toNat : Int) = 32
    · have hb : isB c = true := by unfold isB; simp [k]
      rw [if_pos (by simpa using k)]
      simp only [List.foldl_cons, List.foldl_nil]
      rw [nst_b hb, nst_b (by decide), nst_b (by decide)]
    · rw [if_neg (by simpa using k)]; rfl
theorem fold_nb : ∀ (s : Str) , (s.foldl nst ([], true)).1 = (s.foldl nst ([], false)).1
  | [] => rfl
  | c :: s => by
    rw [List.foldl_cons, List.foldl_cons]
    by_cases h : isB c = true
    · rw [nst_b h, nst_b h]
    · have e : nst ([], true) c = nst ([], false) c := by
        unfold nst
        rw [if_neg h, if_neg h]
        rfl
      rw [e]
theorem norm_spc (s : Str) : norm (spc s) = norm s := by
  unfold norm spc
  rw [List.foldl_append, List.foldl_append, fold_sp, List.foldl_cons, List.foldl_nil, nst_b (by decide), List.foldl_cons, List.foldl_nil, nst_b (by decide)]
  exact fold_nb s
def spf (f : List RF) : List RF := f.map fun x => ⟨x.Name, spc x.Value⟩
theorem tot_spf : ∀ (f : List RF), tot (spf f) ≤ 3 * tot f
  | [] => Nat.zero_le _
  | x :: f => by
    have h1 := tot_spf f; have h2 := spc_len x.Value
    show tot (⟨x.Name, spc x.Value⟩ :: spf f) ≤ _
    rw [tot_cons, tot_cons]; simp only; omega
theorem vals_spf (n : Str) : ∀ (f : List RF), vals (spf f) n = (vals f n).map spc
  | [] => rfl
  | x :: f => by
    show vals (⟨x.Name, spc x.Value⟩ :: spf f) n = _
    rw [vals_cons, vals_cons, vals_spf n f, List.map_append]
    congr 1
    split <;> rfl
theorem key_spf (names : List Str) (f : List RF) : key names (spf f) = key names f := by
  rw [key_same]
  intro n _
  have e : ((vals f n).map spc).map norm = (vals f n).map norm := by
    rw [List.map_map]; exact List.map_congr_left fun x _ => norm_spc x
  unfold Same jv
  rw [vals_spf, e]
  simp
theorem spf_L0 : ∀ (l : List RF) (i : Nat) (y : List RF), tot l ≤ 100000 → y.length + l.length ≤ 1000000 → law16_VaryNormal_L0 l i y = some (y ++ spf l)
  | [], i, y, _, _ => by simp [law16_VaryNormal_L0, spf]
  | x :: l, i, y, h, hy => by
    rw [tot_cons] at h
    simp only [List.length_cons] at hy
    have ih := spf_L0 l (i + 1) (y ++ [⟨x.Name, spc x.Value⟩]) (by omega) (by simp only [List.length_append, List.length_cons, List.length_nil]; omega)
    rw [law16_VaryNormal_L0, spaced_eq (by omega), Option.bind_some, chk_bind (by simp only [lim, List.length_cons, List.length_nil]; omega), ih]
    simp [spf]
/-! ### one field more -/
theorem lowB_idem (c : UInt8) : lowB (lowB c) = lowB c := by
  have h : ∀ i : Fin 256, lowB (lowB (UInt8.ofNat i.val)) = lowB (UInt8.ofNat i.val) := by decide +kernel
  have := h ⟨c.toNat, c.toNat_lt⟩
  simpa using this
theorem low_idem (s : Str) : low (low s) = low s := by
  unfold low
  rw [List.map_map]
  exact List.map_congr_left fun c _ => lowB_idem c
def more (f : List RF) (a v : Str) : List RF := f ++ [⟨low a, v⟩]
theorem tot_more (f : List RF) (a v : Str) : tot (more f a v) = tot f + (a.length + v.length + 2) := by
  unfold more tot low; simp
theorem ffs_more (f : List RF) (a v : Str) : ffs (more f a v) = ffs f ++ [⟨low a, v⟩] := by unfold ffs more; simp
theorem add_eq {f : List RF} {a v : Str} (hf : f.length ≤ 1000000) (ha : a.length ≤ 1000000) : field_Add (ffs f) a v = some (ffs (more f a v)) := by
  have hl : (ffs f).length = f.length := by simp [ffs]
  unfold field_Add slices_Clone_quaysidefieldField
  rw [chk_bind (by simp only [lim, List.length_nil, hl]; omega), Option.bind_some, List.nil_append, show slices_Clip_quaysidefieldField_tk (ffs f) = some (ffs f) from rfl, Option.bind_some, flower (by omega), Option.bind_some,
    chk_bind (by simp only [lim, List.length_cons, List.length_nil, hl]; omega), ffs_more]
theorem vals_more (f : List RF) (a v n : Str) : vals (more f a v) n = vals f n ++ (if decide (low a = low n) then [v] else []) := by
  unfold more
  induction f with
  | nil => rw [List.nil_append, vals_cons]; simp only [low_idem]; simp [vals]
  | cons x f ih => rw [List.cons_append, vals_cons, vals_cons, ih, List.append_assoc]
theorem has_L0 {a : Str} (ha : a.length ≤ 1000000) : ∀ (l : List Str) (i : Nat), sumL l ≤ 100000 → law16_has_L0 a l i = some (if l.any (fun n => decide (low n = low a)) then Fl.ret true else Fl.go ())
  | [], i, _ => rfl
  | n :: l, i, h => by
    rw [sumL_cons] at h
    rw [law16_has_L0]
    unfold ref02_Of
    rw [rlower (by show n.length ≤ _; omega), Option.bind_some, rlower (by omega), Option.bind_some, Option.bind_some, List.any_cons]
    by_cases k : low n = low a
    · simp [k]
    · rw [if_neg (by simpa using k), has_L0 ha l (i + 1) (by omega)]
      simp [k]
theorem has_eq {a : Str} (ha : a.length ≤ 1000000) {l : List Str} (h : sumL l ≤ 100000) : law16_has l a = some (l.any fun n => decide (low n = low a)) := by
  have := sumL_len l
  unfold law16_has
  rw [chk_bind (by simp only [szMax]; omega), has_L0 ha l 0 h, Option.bind_some]
  cases l.any fun n => decide (low n = low a) <;> rfl
theorem key_more {names : List Str} {f : List RF} {a v : Str} (h : (names.any fun n => decide (low n = low a)) = false) : key names (more f a v) = key names f := by
  rw [key_same]
  intro n hn
  have h1 : low a ≠ low n := fun e => by
    have := List.any_eq_false.1 h n hn
    simp at this; exact this e.symm
  unfold Same jv
  rw [vals_more, if_neg (by simpa using h1), List.append_nil]
  exact ⟨Iff.rfl, rfl⟩
theorem jn_snoc_len : ∀ (l : List Str) (x : Str), l ≠ [] → (jn l [44]).length < (jn (l ++ [x]) [44]).length
  | a :: r, x, _ => by
    rw [List.cons_append, jn_cons, jn_cons, List.length_append, List.length_append, jt_len, jt_len, sumL_append, sumL_cons]; omega
theorem key_other {names : List Str} {f : List RF} {a v : Str} (ha : a ∈ names) : key names (more f a v) ≠ key names f := by
  intro e
  obtain ⟨h1, h2⟩ := (key_same names).1 e a ha
  unfold jv at h2
  rw [vals_more, if_pos (by simp)] at h1 h2
  have hne : vals f a ≠ [] := fun q => by have := h1.2 q; simp at this
  have := jn_snoc_len ((vals f a).map norm) (norm v) (by simpa using hne)
  rw [List.map_append, List.map_cons, List.map_nil] at h2
  rw [h2] at this
  exact absurd this (Nat.lt_irrefl _)
end Vary
theorem law16_VaryNormal_true (names : List Str) (f : List RF) (at' : UInt8) (o0 : names.length ≤ szUp ∧ ∀ y0 ∈ names, y0.length ≤ szUp) (o1 : f.length ≤ szUp ∧ ∀ y0 ∈ f, S_ref02_Field.ok y0) (o2 : True) : ∃ n, law16_VaryNormal n names f at' = some true := by
  refine ⟨5, ?_⟩
  unfold law16_VaryNormal
  rw [long_eq o0.1 o0.2, Option.bind_some, large_eq o1, Option.bind_some]
  by_cases h1 : sumL names > 500
  · rw [if_pos (by simpa using h1), Option.bind_some, if_pos rfl, Option.bind_some, if_pos rfl, Option.bind_some, if_pos (by simpa using h1), Option.bind_some]
  · rw [if_neg (by simpa using h1), Option.bind_some]
    by_cases h2 : tot f > 3000
    · rw [if_pos (by simpa using h2), Option.bind_some, if_pos rfl, Option.bind_some, if_neg (by simpa using h1), Option.bind_some]
      simp [h2]
    · have hsl := sumL_len names
      have htl := tot_len f
      have ht3 := tot_spf f
      have htl3 := tot_len (spf f)
      rw [if_neg (by simpa using h2), awake5, Option.bind_some, Option.bind_some, if_neg (by simp), chk_bind (by simp only [szMax]; omega), spf_L0 f 0 [] (by omega) (by simp <;> omega), Option.bind_some, List.nil_append, fields_eq o1.1, Option.bind_some,
        fkey (by omega) (by omega), Option.bind_some, fields_eq (by omega), Option.bind_some, fkey (by omega) (by omega), Option.bind_some, key_spf, if_neg (by simp), Option.bind_some]
      have hA : ∀ a v : Str, a.length ≤ 500 → v.length ≤ 100 → vary_Key names (ffs (more f a v)) = some (key names (more f a v)) := fun a v ha hv => fkey (by omega) (by rw [tot_more]; omega)
      rw [add_eq (by omega) (by simp), Option.bind_some, hA _ _ (by simp) (by simp), Option.bind_some]
      have hx : ∀ a v : Str, a.length ≤ 500 → ((if decide (key names (more f a v) ≠ key names f) = true then (law16_has names a).bind fun x67 => some (!x67) else some false)) = some false := fun a v ha => by
        by_cases k : key names (more f a v) = key names f
        · rw [if_neg (by simpa using k)]
        · rw [if_pos (by simpa using k), has_eq (by omega) (by omega), Option.bind_some]
          cases q : names.any fun n => decide (low n = low a) with
          | true => rfl
          | false => exact absurd (key_more q) k
      rw [hx _ _ (by simp), Option.bind_some, if_neg (by simp)]
      by_cases h0 : names.length = 0
      · have : names = [] := List.length_eq_zero_iff.1 h0
        subst this
        rw [if_pos (by simp)]; rfl
      · rw [if_neg (by simpa using h0), chk_bind (by omega)]
        have hi : at'.toNat % names.length < names.length := Nat.mod_lt _ (by omega)
        have hix : ix names (Int.tmod (at'.toNat : Int) (names.length : Int)) = some names[at'.toNat % names.length] := by
          have e : Int.tmod (at'.toNat : Int) (names.length : Int) = ((at'.toNat % names.length : Nat) : Int) := by
            rw [Int.tmod_eq_emod_of_nonneg (by omega)]; simp
          rw [e]
          unfold ix
          rw [if_pos (by omega), Int.toNat_natCast, List.getElem?_eq_getElem hi]
        have hm : names[at'.toNat % names.length] ∈ names := List.getElem_mem hi
        have hlen := sumL_mem hm
        rw [hix, Option.bind_some, Option.bind_some, add_eq (by omega) (by omega), Option.bind_some, hA _ _ (by omega) (by simp), Option.bind_some]
        have := key_other (f := f) (v := ([97, 110, 111, 116, 104, 101, 114, 32, 118, 97, 108, 117, 101] : Str)) hm
        simp [this]
