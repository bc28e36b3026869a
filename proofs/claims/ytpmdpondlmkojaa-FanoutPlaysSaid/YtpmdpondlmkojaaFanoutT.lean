/- Each call keeps the two streams alike, and answers the same. -/
import Derived.Test.YtpmdpondlmkojaaFanoutR
set_option linter.unusedVariables false
set_option linter.unusedSimpArgs false
open Go Go.SL Go.Proofs Fanout Pl
namespace Fanout
theorem asc_put {A B : List Rd} {id at_ : Int} (h : AscR (A ++ B)) (hA : ∀ r ∈ A, r.ID < id) (hB : ∀ r ∈ B, id < r.ID) : AscR (A ++ ⟨id, at_⟩ :: B) := by
  have hp := List.pairwise_append.1 h
  refine List.pairwise_append.2 ⟨hp.1, List.pairwise_cons.2 ⟨fun r hr => hB r hr, hp.2.1⟩, fun a ha b hb => ?_⟩
  rcases List.mem_cons.1 hb with rfl | hb
  · exact hA a ha
  · exact hp.2.2 a ha b hb
theorem asc_del {A B : List Rd} {r : Rd} (h : AscR (A ++ r :: B)) : AscR (A ++ B) := by
  have hp := List.pairwise_append.1 h
  exact List.pairwise_append.2 ⟨hp.1, (List.pairwise_cons.1 hp.2.1).2, fun a ha b hb => hp.2.2 a ha b (by simp [hb])⟩
theorem sub_head {A B : List Rd} : subL (A ++ B) (0 : Int) (A.length : Int) = A := by
  unfold subL; simp
theorem sub_tail {A B : List Rd} : subL (A ++ B) (A.length : Int) ((A ++ B).length : Int) = B := by
  unfold subL
  simp only [Int.toNat_natCast, List.drop_left, List.length_append]
  exact List.take_of_length_le (by omega)
theorem sub_tail1 {A B : List Rd} {r : Rd} : subL (A ++ r :: B) ((A.length : Int) + 1) ((A ++ r :: B).length : Int) = B := by
  have e : A ++ r :: B = (A ++ [r]) ++ B := by simp
  have e2 : ((A.length : Int) + 1) = (((A ++ [r]).length : Nat) : Int) := by simp
  rw [e, e2]; exact sub_tail
theorem get_put {A B : List Rd} {id at_ : Int} (hA : ∀ r ∈ A, r.ID < id) (k : Int) : getA (A ++ ⟨id, at_⟩ :: B) k = if id = k then some at_ else getA (A ++ B) k := by
  rw [getA_append, getA_append, getA_cons]
  by_cases h : id = k
  · rw [if_pos h, if_pos h, getA_none (fun r hr => by have := hA r hr; omega)]; rfl
  · rw [if_neg h, if_neg h]
theorem get_mid {A B : List Rd} {r : Rd} {id : Int} (hr : r.ID = id) (hA : ∀ x ∈ A, x.ID < id) : getA (A ++ r :: B) id = some r.At := by
  rw [getA_append, getA_cons, if_pos hr, getA_none (fun x hx => by have := hA x hx; omega)]; rfl
theorem get_out {A B : List Rd} {id : Int} (hA : ∀ x ∈ A, x.ID < id) (hB : ∀ x ∈ B, id < x.ID) : getA (A ++ B) id = none :=
  getA_none fun x hx => by
    rcases List.mem_append.1 hx with h | h
    · have := hA x h; omega
    · have := hB x h; omega
theorem get_skip {A B : List Rd} {r : Rd} {k : Int} (h : r.ID ≠ k) : getA (A ++ r :: B) k = getA (A ++ B) k := by
  rw [getA_append, getA_append, getA_cons, if_neg h]
section
variable {m n : Nat} {s : Fs} {r : S_ref28_Stream}
theorem PR.up (h : PR m s r) : PR (m + 1) s r := ⟨h.lim, h.l1, h.st, h.st3, h.dat, h.len, h.nd, h.asc, h.get, h.off, Nat.le_succ_of_le h.cnt⟩
theorem PR.dlen (h : PR m s r) : s.data.length ≤ 65536 := by have := h.len; have := h.lim; have := h.l1; omega
/-- Attach. -/
theorem PR.att (h : PR m s r) (hm : m ≤ 900) (hn : n = 1000) (id a : Int) : ∃ (e : Err) (c : Int) (s' : Fs) (r' : S_ref28_Stream), fanout_Stream_Attach s id a = some (e, s') ∧ ref28_Attach n r id a = some (r', c) ∧ base_Num e = some c ∧ PR (m + 1) s' r' := by
  have hl9 : r.Readers.length < n := by have := h.cnt; omega
  have hl : r.Readers.length ≤ 1000 := by omega
  have hdl := h.dlen
  rw [attach_eq]
  unfold ref28_Attach
  rcases around id r.Readers h.asc with ⟨A, B, e, hA, hB, ht⟩ | ⟨A, x, B, e, hA, hx, hB, ht⟩
  · rw [place_no e hB ht hl9 hl, Option.bind_some]
    have hg : mget s.offsets id = none := by rw [h.get, e]; exact get_out hA hB
    simp only [hg, Option.isSome_none, Bool.false_eq_true, if_false]
    by_cases ha : a < 0 ∨ a > s.data.length
    · refine ⟨some 1, 1, s, r, by rw [if_pos ha], ?_, rfl, h.up⟩
      rw [if_pos (by rw [h.dat] at ha; simpa using ha)]
    · have hab : A.length + B.length ≤ 1000 := by rw [e] at hl; simpa using hl
      refine ⟨none, 0, ⟨s.limit, s.state, s.data, mset s.offsets id a⟩, ⟨r.Limit, r.State, r.Data, A ++ ⟨id, a⟩ :: B⟩, by rw [if_neg ha], ?_, rfl, ?_⟩
      · rw [if_neg (by rw [h.dat] at ha; simpa using ha), e]
        rw [sub_head, sub_tail]
        rw [chk_bind (by simp only [List.length_append]; omega), chk_bind (by simp only [Go.SL.lim]; omega), chk_bind (by simp only [List.length_cons, List.length_nil, Go.SL.lim]; omega), chk_bind (by simp only [List.length_append]; omega), chk_bind (by simp only [List.length_append, List.length_cons, List.length_nil, Go.SL.lim]; omega)]
        simp
      · refine ⟨h.lim, h.l1, h.st, h.st3, h.dat, h.len, h.nd.mset _ _, asc_put (e ▸ h.asc) hA hB, fun k => ?_, fun k v hv => ?_, ?_⟩
        · simp only [mget_mset]
          rw [get_put hA, h.get, e]
        · simp only [mget_mset] at hv
          split at hv
          · cases hv; simp only; omega
          · exact h.off k v hv
        · have := h.cnt; rw [e] at this; simp at this ⊢; omega
  · rw [place_yes e hx ht hl9 hl, Option.bind_some]
    have hg : mget s.offsets id = some x.At := by rw [h.get, e]; exact get_mid hx hA
    simp only [hg, Option.isSome_some, if_true]
    exact ⟨some 4, 4, s, r, rfl, rfl, rfl, h.up⟩
/-- Detach. -/
theorem PR.det (h : PR m s r) (hm : m ≤ 900) (hn : n = 1000) (id : Int) : ∃ (b : Bool) (s' : Fs) (r' : S_ref28_Stream), fanout_Stream_Detach s id = some (b, s') ∧ ref28_Detach n r id = some (r', b) ∧ PR (m + 1) s' r' := by
  have hl9 : r.Readers.length < n := by have := h.cnt; omega
  have hl : r.Readers.length ≤ 1000 := by omega
  have hdet : fanout_Stream_Detach s id = some ((mget s.offsets id).isSome, ⟨s.limit, s.state, s.data, mdel s.offsets id⟩) := rfl
  rw [hdet]
  unfold ref28_Detach
  have off : ∀ k v, mget (mdel s.offsets id) k = some v → 0 ≤ v ∧ v ≤ s.data.length := fun k v hv => by
    rw [mget_mdel] at hv
    split at hv
    · cases hv
    · exact h.off k v hv
  rcases around id r.Readers h.asc with ⟨A, B, e, hA, hB, ht⟩ | ⟨A, x, B, e, hA, hx, hB, ht⟩
  · rw [place_no e hB ht hl9 hl, Option.bind_some]
    have hg : mget s.offsets id = none := by rw [h.get, e]; exact get_out hA hB
    refine ⟨false, ⟨s.limit, s.state, s.data, mdel s.offsets id⟩, r, by rw [hg]; rfl, rfl, ⟨h.lim, h.l1, h.st, h.st3, h.dat, h.len, h.nd.mdel _, h.asc, fun k => ?_, off, Nat.le_succ_of_le h.cnt⟩⟩
    simp only [mget_mdel]
    split
    · rename_i q; rw [← q, e]; exact (get_out hA hB).symm
    · exact h.get k
  · rw [place_yes e hx ht hl9 hl, Option.bind_some]
    have hg : mget s.offsets id = some x.At := by rw [h.get, e]; exact get_mid hx hA
    have hab : A.length + B.length ≤ 1000 := by rw [e] at hl; simp at hl; omega
    refine ⟨true, ⟨s.limit, s.state, s.data, mdel s.offsets id⟩, ⟨r.Limit, r.State, r.Data, A ++ B⟩, by rw [hg]; rfl, ?_, ⟨h.lim, h.l1, h.st, h.st3, h.dat, h.len, h.nd.mdel _, asc_del (e ▸ h.asc), fun k => ?_, off, ?_⟩⟩
    · simp only [if_true]
      rw [e, sub_head, sub_tail1]
      rw [chk_bind (by simp only [List.length_append, List.length_cons]; omega), chk_bind (by simp only [List.length_nil, Go.SL.lim]; omega), chk_bind (by constructor <;> omega), chk_bind (by simp only [List.length_append, List.length_cons]; omega), chk_bind (by simp only [List.nil_append, Go.SL.lim]; omega)]
      simp
    · simp only [mget_mdel]
      split
      · rename_i q; rw [← q]; exact (get_out hA hB).symm
      · rename_i q; rw [h.get, e, get_skip (by rw [hx]; exact q)]
    · have := h.cnt; rw [e] at this; simp at this ⊢; omega
theorem PR.wr (h : PR m s r) (b : Str) (hb : b.length ≤ 3000) : ∃ (e : Err) (c : Int) (s' : Fs) (r' : S_ref28_Stream), fanout_Stream_Write s b = some (e, s') ∧ ref28_Write r b = some (r', c) ∧ base_Num e = some c ∧ PR (m + 1) s' r' := by
  have hdl := h.dlen
  have hd := h.dat
  have hlm := h.lim
  by_cases hs : s.state = 1
  · have hw := write_eq s b (by omega) hs
    have hr : ref28_Write r b = (if decide (((r.Data.length : Int) + (b.length : Int)) > r.Limit) = true then some (r, 5) else some (⟨r.Limit, r.State, r.Data ++ b, r.Readers⟩, 0)) := by
      unfold ref28_Write
      rw [if_neg (by rw [← h.st]; simpa using hs), chk_bind (by rw [← hd]; constructor <;> omega), chk_bind (by rw [← hd]; simp only [List.length_nil, Go.SL.lim]; omega), chk_bind (by rw [← hd]; simp only [List.nil_append, Go.SL.lim]; omega)]
      rfl
    by_cases hg : (s.data.length + b.length : Int) > s.limit
    · rw [if_pos hg] at hw
      refine ⟨some 5, 5, s, r, hw, ?_, rfl, h.up⟩
      rw [hr, if_pos (by rw [← hd, ← hlm]; simpa using hg)]
    · rw [if_neg hg] at hw
      refine ⟨none, 0, _, ⟨r.Limit, r.State, r.Data ++ b, r.Readers⟩, hw, ?_, rfl, ⟨hlm, h.l1, h.st, h.st3, by simp only [hd], ?_, h.nd, h.asc, h.get, fun k v hv => ?_, Nat.le_succ_of_le h.cnt⟩⟩
      · rw [hr, if_neg (by rw [← hd, ← hlm]; simpa using hg)]
      · simp only [List.length_append]; push_cast; omega
      · have := h.off k v hv; simp only [List.length_append]; push_cast; omega
  · refine ⟨some 6, 6, s, r, write_no s b hs, ?_, rfl, h.up⟩
    unfold ref28_Write
    rw [if_pos (by rw [← h.st]; simpa using hs)]
theorem PR.fin (h : PR m s r) (t : Int) (ht : t = 2 ∨ t = 3) {e : Err} {s' : Fs} (he : (if s.state = 1 then some ((none : Err), (⟨s.limit, t, s.data, s.offsets⟩ : Fs)) else some (some 6, s)) = some (e, s')) :
    ∃ (c : Int) (r' : S_ref28_Stream), ref28_Close r t = some (r', c) ∧ base_Num e = some c ∧ PR (m + 1) s' r' := by
  unfold ref28_Close
  by_cases hs : s.state = 1
  · rw [if_pos hs] at he
    cases he
    rw [if_neg (by rw [← h.st]; simpa using hs)]
    exact ⟨0, _, rfl, rfl, ⟨h.lim, h.l1, rfl, .inr ht, h.dat, h.len, h.nd, h.asc, h.get, h.off, Nat.le_succ_of_le h.cnt⟩⟩
  · rw [if_neg hs] at he
    cases he
    rw [if_pos (by rw [← h.st]; simpa using hs)]
    exact ⟨6, r, rfl, rfl, h.up⟩
theorem end_if (s : Fs) : fanout_Stream_End s = if s.state = 1 then some ((none : Err), (⟨s.limit, 2, s.data, s.offsets⟩ : Fs)) else some (some 6, s) := by
  unfold fanout_Stream_End; rw [open_eq]
  by_cases h : s.state = 1
  · rw [if_pos h, if_pos h]; rfl
  · rw [if_neg h, if_neg h]; rfl
theorem abort_if (s : Fs) : fanout_Stream_Abort s = if s.state = 1 then some ((none : Err), (⟨s.limit, 3, s.data, s.offsets⟩ : Fs)) else some (some 6, s) := by
  unfold fanout_Stream_Abort; rw [open_eq]
  by_cases h : s.state = 1
  · rw [if_pos h, if_pos h]; rfl
  · rw [if_neg h, if_neg h]; rfl
/-- Read. -/
theorem PR.rd (h : PR m s r) (hm : m ≤ 900) (hn : n = 1000) (id mx : Int) : ∃ (o : Str) (q : Int) (e : Err) (c : Int) (s' : Fs) (r' : S_ref28_Stream), fanout_Stream_Read s id mx = some (o, q, e, s') ∧ ref28_Read n r id mx = some (r', o, q, c) ∧ base_Num e = some c ∧ PR (m + 1) s' r' := by
  have hl9 : r.Readers.length < n := by have := h.cnt; omega
  have hl : r.Readers.length ≤ 1000 := by omega
  have hdl := h.dlen
  unfold ref28_Read
  rcases around id r.Readers h.asc with ⟨A, B, e, hA, hB, ht⟩ | ⟨A, x, B, e, hA, hx, hB, ht⟩
  · rw [place_no e hB ht hl9 hl, Option.bind_some]
    have hg : mget s.offsets id = none := by rw [h.get, e]; exact get_out hA hB
    exact ⟨[], 0, some 3, 3, s, r, read_none s id mx hg, rfl, rfl, h.up⟩
  · rw [place_yes e hx ht hl9 hl, Option.bind_some]
    have hg : mget s.offsets id = some x.At := by rw [h.get, e]; exact get_mid hx hA
    simp only [Bool.not_true, Bool.false_eq_true, if_false]
    by_cases h3 : s.state = 3
    · rw [if_pos (by rw [← h.st]; simpa using h3)]
      exact ⟨[], 3, none, 0, s, r, read_ab s id mx x.At hg h3, rfl, rfl, h.up⟩
    · rw [if_neg (by rw [← h.st]; simpa using h3)]
      have ho := h.off id x.At hg
      have hrd := read_eq s id mx x.At hg h3 ho (by omega)
      have hA1 : A.length < r.Readers.length := by rw [e]; simp
      have hix : ix r.Readers (A.length : Int) = some x := by unfold ix; rw [if_pos (by omega), e]; simp
      have hix2 : ix (([] : List S_ref28_Reader) ++ r.Readers) (A.length : Int) = some x := by rw [List.nil_append]; exact hix
      have hd : r.Data = s.data := h.dat.symm
      generalize hto : (min (s.data.length : Int) (x.At + (max 0 (min mx 65536)))) = to
      have hto1 : x.At ≤ to ∧ to ≤ s.data.length := by omega
      have hol : x.At + ((outF s x.At mx).length : Int) = to := by
        unfold outF
        simp only [List.length_take, List.length_drop]
        omega
      have hos : subL s.data x.At to = outF s x.At mx := by
        show (s.data.drop x.At.toNat).take (to - x.At).toNat = (s.data.drop x.At.toNat).take mx.toNat
        rw [List.take_eq_take_iff]
        simp only [List.length_drop]; omega
      rw [hol] at hrd
      have hset : ((([] : List S_ref28_Reader) ++ r.Readers).set ((A.length : Int)).toNat (⟨x.ID, to⟩ : S_ref28_Reader)) = A ++ ⟨id, to⟩ :: B := by
        rw [List.nil_append, e, Int.toNat_natCast, List.set_append_right _ _ (Nat.le_refl _)]; simp [hx]
      have pr : PR (m + 1) ⟨s.limit, s.state, s.data, mset s.offsets id to⟩ ⟨r.Limit, r.State, r.Data, A ++ ⟨id, to⟩ :: B⟩ := by
        refine ⟨h.lim, h.l1, h.st, h.st3, h.dat, h.len, h.nd.mset _ _, asc_put (asc_del (e ▸ h.asc)) hA hB, fun k => ?_, fun k v hv => ?_, ?_⟩
        · simp only [mget_mset]
          rw [get_put hA, h.get, e]
          by_cases q : id = k
          · rw [if_pos q, if_pos q]
          · rw [if_neg q, if_neg q, get_skip (by rw [hx]; exact q)]
        · simp only [mget_mset] at hv
          split at hv
          · cases hv; simp only; omega
          · exact h.off k v hv
        · have := h.cnt; rw [e] at this; simp at this ⊢; omega
      rw [hix, Option.bind_some, chk_bind (by constructor <;> omega), chk_bind (by simp only [List.length_nil, Go.SL.lim]; omega), hix2, Option.bind_some, hd, hto, hset, hos]
      rw [hd] at pr
      by_cases hc : s.state = 2 ∧ to = s.data.length
      · rw [if_pos hc] at hrd
        rw [if_pos (by rw [← h.st]; simpa using hc), chk_bind (by omega)]
        exact ⟨_, 2, none, 0, _, _, hrd, rfl, rfl, pr⟩
      · rw [if_neg hc] at hrd
        rw [if_neg (by rw [← h.st]; simpa using hc), chk_bind (by omega)]
        exact ⟨_, 1, none, 0, _, _, hrd, rfl, rfl, pr⟩
end
end Fanout
