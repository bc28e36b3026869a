/- Plain facts about the mirrors of package fanout. -/
import Derived.Test.YtpmdpondlmkojaaG1
set_option linter.unusedVariables false
set_option linter.unusedSimpArgs false
open Go Go.SL Go.Proofs
namespace Fanout
abbrev Fs := S_fanout_Stream
/-- What a reader gets. -/
def outF (s : Fs) (a mx : Int) : Str := (s.data.drop a.toNat).take mx.toNat
theorem outF_len (s : Fs) (a mx : Int) (h : 0 ≤ a ∧ a ≤ s.data.length) : a + (outF s a mx).length ≤ s.data.length := by
  unfold outF; simp; omega
theorem sub_out (s : Fs) (a mx : Int) (h : 0 ≤ a ∧ a ≤ s.data.length) (hm : 0 < mx) : subL s.data a (a + min mx ((s.data.length : Int) - a)) = outF s a mx := by
  have e : (a + min mx ((s.data.length : Int) - a) - a).toNat = min mx.toNat (s.data.length - a.toNat) := by omega
  show (s.data.drop a.toNat).take _ = _
  rw [e]; unfold outF
  rw [List.take_eq_take_iff]; simp
theorem open_eq (s : Fs) : fanout_Stream_open s = some (if s.state = 1 then none else some 6) := by
  unfold fanout_Stream_open
  by_cases h : s.state = 1 <;> simp [h]
theorem write_eq (s : Fs) (b : Str) (hl : s.data.length + b.length ≤ 1000000) (hs : s.state = 1) :
    fanout_Stream_Write s b = if (s.data.length + b.length : Int) > s.limit then some (some 5, s) else some (none, ⟨s.limit, s.state, s.data ++ b, s.offsets⟩) := by
  have h1 : InI ((s.data.length : Int) + (b.length : Int)) := by constructor <;> omega
  have h2 : s.data.length + b.length ≤ lim := by simp only [lim]; omega
  unfold fanout_Stream_Write
  rw [open_eq, if_pos hs, chk_t h1, chk_t h2]
  simp only [Option.bind_some, Option.isSome_none, Bool.false_eq_true, if_false, decide_eq_true_eq]
theorem write_no (s : Fs) (b : Str) (hs : s.state ≠ 1) : fanout_Stream_Write s b = some (some 6, s) := by
  unfold fanout_Stream_Write
  rw [open_eq, if_neg hs]
  rfl
theorem read_none (s : Fs) (id mx : Int) (h : mget s.offsets id = none) : fanout_Stream_Read s id mx = some ([], 0, some 3, s) := by
  unfold fanout_Stream_Read
  simp [h]
theorem read_ab (s : Fs) (id mx a : Int) (h : mget s.offsets id = some a) (h3 : s.state = 3) : fanout_Stream_Read s id mx = some ([], 3, none, s) := by
  unfold fanout_Stream_Read
  simp [h, h3]
theorem read_eq (s : Fs) (id mx a : Int) (hg : mget s.offsets id = some a) (h3 : s.state ≠ 3) (h : 0 ≤ a ∧ a ≤ s.data.length) (hl : s.data.length ≤ 1000000) :
    fanout_Stream_Read s id mx = some (outF s a mx, if s.state = 2 ∧ a + (outF s a mx).length = s.data.length then 2 else 1, none, ⟨s.limit, s.state, s.data, mset s.offsets id (a + (outF s a mx).length)⟩) := by
  have hol := outF_len s a mx h
  have c1 : InI ((s.data.length : Int) - a) := by constructor <;> omega
  have c2 : InI (a + min mx ((s.data.length : Int) - a)) ∨ mx ≤ 0 := by
    by_cases hm : 0 < mx
    · left; constructor <;> omega
    · right; omega
  have c5 : InI (a + (outF s a mx).length) := by constructor <;> omega
  have c6 : InI (a + 0) := by constructor <;> omega
  unfold fanout_Stream_Read
  simp only [hg, Option.isSome_some, Bool.not_true, Bool.false_eq_true, if_false, Option.getD_some, h3, decide_false, decide_eq_true_eq]
  by_cases hm : 0 < mx
  · have c4 : (outF s a mx).length ≤ lim := by simp only [lim]; omega
    have c3 : 0 ≤ a ∧ a ≤ a + min mx ((s.data.length : Int) - a) ∧ a + min mx ((s.data.length : Int) - a) ≤ (s.data.length : Int) := by omega
    rw [if_pos hm, chk_t c1, chk_t (c2.resolve_right (by omega)), chk_t c3, sub_out s a mx h hm, chk_t c4]
    simp only [Option.bind_some]
    rw [chk_t c5]
    simp only [Option.bind_some, Bool.and_eq_true, decide_eq_true_eq]
    split <;> simp_all
  · have e : outF s a mx = [] := by unfold outF; rw [show mx.toNat = 0 by omega]; rfl
    rw [if_neg hm, e]
    simp only [Option.bind_some, List.length_nil, Int.natCast_zero]
    rw [chk_t c6]
    simp only [Option.bind_some, Bool.and_eq_true, decide_eq_true_eq, List.length_nil, Int.natCast_zero]
    split <;> simp_all
theorem attach_eq (s : Fs) (id a : Int) : fanout_Stream_Attach s id a = some (if (mget s.offsets id).isSome then (some 4, s) else if a < 0 ∨ a > s.data.length then (some 1, s) else (none, ⟨s.limit, s.state, s.data, mset s.offsets id a⟩)) := by
  unfold fanout_Stream_Attach
  by_cases h : (mget s.offsets id).isSome <;> simp [h]
  split <;> rfl
theorem awake_eq : law28_awake = some true := by decide +kernel
end Fanout
