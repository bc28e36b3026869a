/- What the calls of package fanout do to a stream; the relation of two streams of which one reader sees the same. -/
import Derived.Test.YtpmdpondlmkojaaFanout
set_option linter.unusedVariables false
set_option linter.unusedSimpArgs false
open Go Go.SL Go.Proofs
namespace Fanout
structure Inv (s : Fs) : Prop where
  off : ∀ k v, mget s.offsets k = some v → 0 ≤ v ∧ v ≤ s.data.length
  len : s.data.length ≤ 65536
  lim : s.limit = 65536
def Rel (id : Int) (a b : Fs) : Prop := a.limit = b.limit ∧ a.state = b.state ∧ a.data = b.data ∧ mget a.offsets id = mget b.offsets id
def attS (s : Fs) (k v : Int) : Fs := if (mget s.offsets k).isSome then s else if v < 0 ∨ v > s.data.length then s else ⟨s.limit, s.state, s.data, mset s.offsets k v⟩
def readS (s : Fs) (k mx : Int) : Str × Int × Err × Fs := match mget s.offsets k with
  | none => ([], 0, some 3, s)
  | some a => if s.state = 3 then ([], 3, none, s) else (outF s a mx, if s.state = 2 ∧ a + (outF s a mx).length = s.data.length then 2 else 1, none, ⟨s.limit, s.state, s.data, mset s.offsets k (a + (outF s a mx).length)⟩)
def detS (s : Fs) (k : Int) : Fs := ⟨s.limit, s.state, s.data, mdel s.offsets k⟩
def endS (s : Fs) (st : Int) : Fs := if s.state = 1 then ⟨s.limit, st, s.data, s.offsets⟩ else s
def wrS (s : Fs) (b : Str) : Fs := if s.state = 1 then (if (s.data.length + b.length : Int) > s.limit then s else ⟨s.limit, s.state, s.data ++ b, s.offsets⟩) else s
theorem att_eq (s : Fs) (k v : Int) : ∃ e, fanout_Stream_Attach s k v = some (e, attS s k v) := by
  rw [attach_eq]; unfold attS
  split
  · exact ⟨_, rfl⟩
  · split <;> exact ⟨_, rfl⟩
theorem rd_eq {s : Fs} (h : Inv s) (k mx : Int) : fanout_Stream_Read s k mx = some (readS s k mx) := by
  unfold readS
  cases hg : mget s.offsets k with
  | none => exact read_none s k mx hg
  | some a =>
    simp only
    by_cases h3 : s.state = 3
    · rw [if_pos h3]; exact read_ab s k mx a hg h3
    · rw [if_neg h3]; exact read_eq s k mx a hg h3 (h.off k a hg) (by have := h.len; omega)
theorem end_eq (s : Fs) : ∃ e, fanout_Stream_End s = some (e, endS s 2) := by
  unfold fanout_Stream_End endS
  rw [open_eq]
  by_cases h : s.state = 1
  · rw [if_pos h, if_pos h]; exact ⟨_, rfl⟩
  · rw [if_neg h, if_neg h]; exact ⟨_, rfl⟩
theorem abort_eq (s : Fs) : ∃ e, fanout_Stream_Abort s = some (e, endS s 3) := by
  unfold fanout_Stream_Abort endS
  rw [open_eq]
  by_cases h : s.state = 1
  · rw [if_pos h, if_pos h]; exact ⟨_, rfl⟩
  · rw [if_neg h, if_neg h]; exact ⟨_, rfl⟩
theorem wr_eq {s : Fs} (h : Inv s) (b : Str) (hb : b.length ≤ 3000) : ∃ e, fanout_Stream_Write s b = some (e, wrS s b) := by
  unfold wrS
  by_cases hs : s.state = 1
  · rw [if_pos hs, write_eq s b (by have := h.len; omega) hs]
    split <;> exact ⟨_, rfl⟩
  · rw [if_neg hs, write_no s b hs]; exact ⟨_, rfl⟩
theorem inv_att {s : Fs} (h : Inv s) (k v : Int) : Inv (attS s k v) := by
  unfold attS
  split
  · exact h
  · split
    · exact h
    · rename_i hv
      refine ⟨fun j u hu => ?_, h.len, h.lim⟩
      rw [mget_mset] at hu
      split at hu
      · cases hu; simp only; omega
      · exact h.off j u hu
theorem inv_read {s : Fs} (h : Inv s) (k mx : Int) : Inv (readS s k mx).2.2.2 := by
  unfold readS
  cases hg : mget s.offsets k with
  | none => exact h
  | some a =>
    simp only
    split
    · exact h
    · have h1 := h.off k a hg
      have h2 := outF_len s a mx h1
      refine ⟨fun j u hu => ?_, h.len, h.lim⟩
      simp only at hu ⊢
      rw [mget_mset] at hu
      split at hu
      · cases hu; omega
      · exact h.off j u hu
theorem inv_det {s : Fs} (h : Inv s) (k : Int) : Inv (detS s k) := by
  refine ⟨fun j u hu => ?_, h.len, h.lim⟩
  unfold detS at hu
  simp only at hu
  rw [mget_mdel] at hu
  split at hu
  · cases hu
  · exact h.off j u hu
theorem inv_end {s : Fs} (h : Inv s) (st : Int) : Inv (endS s st) := by
  unfold endS; split
  · exact ⟨h.off, h.len, h.lim⟩
  · exact h
theorem inv_wr {s : Fs} (h : Inv s) (b : Str) : Inv (wrS s b) := by
  unfold wrS
  split
  · split
    · exact h
    · rename_i hg
      have hl := h.lim
      refine ⟨fun j u hu => ?_, ?_, hl⟩
      · have := h.off j u hu
        simp only [List.length_append]; omega
      · simp only [List.length_append]; omega
  · exact h
theorem rel_refl (id : Int) (a : Fs) : Rel id a a := ⟨rfl, rfl, rfl, rfl⟩
theorem rel_trans {id : Int} {a b c : Fs} (h : Rel id a b) (k : Rel id b c) : Rel id a c := ⟨h.1.trans k.1, h.2.1.trans k.2.1, h.2.2.1.trans k.2.2.1, h.2.2.2.trans k.2.2.2⟩
theorem other_att {id k : Int} (hk : k ≠ id) (s : Fs) (v : Int) : Rel id (attS s k v) s := by
  unfold attS
  split
  · exact rel_refl _ _
  · split
    · exact rel_refl _ _
    · exact ⟨rfl, rfl, rfl, by simp only; rw [mget_mset, if_neg hk]⟩
theorem other_read {id k : Int} (hk : k ≠ id) (s : Fs) (mx : Int) : Rel id (readS s k mx).2.2.2 s := by
  unfold readS
  cases mget s.offsets k with
  | none => exact rel_refl _ _
  | some a =>
    simp only
    split
    · exact rel_refl _ _
    · exact ⟨rfl, rfl, rfl, by simp only; rw [mget_mset, if_neg hk]⟩
theorem other_det {id k : Int} (hk : k ≠ id) (s : Fs) : Rel id (detS s k) s := ⟨rfl, rfl, rfl, by unfold detS; simp only; rw [mget_mdel, if_neg hk]⟩
theorem same_att {id : Int} {a b : Fs} (h : Rel id a b) (v : Int) : Rel id (attS a id v) (attS b id v) := by
  obtain ⟨al, ast, ad, ao⟩ := a; obtain ⟨bl, bst, bd, bo⟩ := b
  obtain ⟨h1, h2, h3, h4⟩ := h
  simp only at h1 h2 h3 h4; subst h1 h2 h3
  unfold attS
  simp only [h4]
  split
  · exact ⟨rfl, rfl, rfl, h4⟩
  · split
    · exact ⟨rfl, rfl, rfl, h4⟩
    · exact ⟨rfl, rfl, rfl, by simp only [mget_mset, if_true]⟩
theorem same_read {id : Int} {a b : Fs} (h : Rel id a b) (mx : Int) : (readS a id mx).1 = (readS b id mx).1 ∧ (readS a id mx).2.1 = (readS b id mx).2.1 ∧ (readS a id mx).2.2.1 = (readS b id mx).2.2.1 ∧ Rel id (readS a id mx).2.2.2 (readS b id mx).2.2.2 := by
  obtain ⟨al, ast, ad, ao⟩ := a; obtain ⟨bl, bst, bd, bo⟩ := b
  obtain ⟨h1, h2, h3, h4⟩ := h
  simp only at h1 h2 h3 h4; subst h1 h2 h3
  unfold readS
  simp only [h4]
  cases mget bo id with
  | none => exact ⟨rfl, rfl, rfl, rfl, rfl, rfl, h4⟩
  | some v =>
    simp only [outF]
    split
    · exact ⟨rfl, rfl, rfl, rfl, rfl, rfl, h4⟩
    · exact ⟨rfl, rfl, rfl, rfl, rfl, rfl, by simp only [mget_mset, if_true]⟩
theorem same_det {id : Int} {a b : Fs} (h : Rel id a b) : Rel id (detS a id) (detS b id) :=
  ⟨h.1, h.2.1, h.2.2.1, by unfold detS; simp only [mget_mdel, if_true]⟩
theorem same_end {id : Int} {a b : Fs} (h : Rel id a b) (st : Int) : Rel id (endS a st) (endS b st) := by
  obtain ⟨h1, h2, h3, h4⟩ := h
  unfold endS
  rw [h2]
  split
  · exact ⟨h1, rfl, h3, h4⟩
  · exact ⟨h1, h2, h3, h4⟩
theorem same_wr {id : Int} {a b : Fs} (h : Rel id a b) (x : Str) : Rel id (wrS a x) (wrS b x) := by
  obtain ⟨h1, h2, h3, h4⟩ := h
  unfold wrS
  rw [h1, h2, h3]
  split
  · split
    · exact ⟨h1, h2, h3, h4⟩
    · exact ⟨rfl, rfl, rfl, h4⟩
  · exact ⟨h1, h2, h3, h4⟩
end Fanout
