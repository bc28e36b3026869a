/- A script of calls on a stream. -/
import Derived.Test.YtpmdpondlmkojaaFanoutL
import Derived.Test.YtpmdpondlmkojaaPlain
set_option linter.unusedVariables false
set_option linter.unusedSimpArgs false
open Go Go.SL Go.Proofs Fanout Pl
namespace Fanout
def playS (s : Fs) (x : S_law28_Step) : Fs :=
  let w : Int := ((x.What % (12 : UInt8)).toNat : Int)
  if w = 3 then attS s x.ID x.N else if w = 4 then attS s x.ID x.N
  else if w = 5 then (readS s x.ID x.N).2.2.2 else if w = 6 then (readS s x.ID x.N).2.2.2 else if w = 7 then (readS s x.ID x.N).2.2.2 else if w = 8 then (readS s x.ID x.N).2.2.2
  else if w = 9 then detS s x.ID else if w = 10 then endS s 2 else if w = 11 then endS s 3 else wrS s x.Data
theorem bnd_eq {α β : Type} {o : Option (α × β)} {b : β} (h : ∃ e, o = some (e, b)) : (o.bind fun x => some x.2) = some b := by
  obtain ⟨e, rfl⟩ := h; rfl
theorem play_eq {s : Fs} (h : Inv s) (x : S_law28_Step) (hx : x.Data.length ≤ 3000) : law28_play s x = some (playS s x) := by
  unfold law28_play playS
  simp only [decide_eq_true_eq]
  generalize ((x.What % (12 : UInt8)).toNat : Int) = w
  have ha := bnd_eq (att_eq s x.ID x.N)
  have hr : ((fanout_Stream_Read s x.ID x.N).bind fun x30 => some x30.2.2.2) = some (readS s x.ID x.N).2.2.2 := by rw [rd_eq h]; rfl
  have hd : ((fanout_Stream_Detach s x.ID).bind fun x36 => some x36.2) = some (detS s x.ID) := rfl
  have he := bnd_eq (end_eq s)
  have hb := bnd_eq (abort_eq s)
  have hw := bnd_eq (wr_eq h x.Data hx)
  repeat' split
  all_goals first | exact ha | exact hr | exact hd | exact he | exact hb | exact hw
theorem inv_play {s : Fs} (h : Inv s) (x : S_law28_Step) : Inv (playS s x) := by
  unfold playS
  simp only
  repeat' split
  all_goals first | exact inv_att h _ _ | exact inv_read h _ _ | exact inv_det h _ | exact inv_end h _ | exact inv_wr h _
theorem len_read (s : Fs) (k mx : Int) : (readS s k mx).2.2.2.offsets.length ≤ s.offsets.length + 1 := by
  unfold readS
  cases mget s.offsets k with
  | none => exact Nat.le_succ _
  | some a =>
    simp only
    split
    · exact Nat.le_succ _
    · exact length_mset _ _ _
theorem len_att (s : Fs) (k v : Int) : (attS s k v).offsets.length ≤ s.offsets.length + 1 := by
  unfold attS
  split
  · exact Nat.le_succ _
  · split
    · exact Nat.le_succ _
    · exact length_mset _ _ _
theorem len_end (s : Fs) (t : Int) : (endS s t).offsets.length ≤ s.offsets.length + 1 := by
  unfold endS; split <;> exact Nat.le_succ _
theorem len_wr (s : Fs) (b : Str) : (wrS s b).offsets.length ≤ s.offsets.length + 1 := by
  unfold wrS; split
  · split <;> exact Nat.le_succ _
  · exact Nat.le_succ _
theorem len_play (s : Fs) (x : S_law28_Step) : (playS s x).offsets.length ≤ s.offsets.length + 1 := by
  unfold playS
  simp only
  repeat' split
  all_goals first | exact len_att _ _ _ | exact len_read _ _ _ | exact Nat.le_succ_of_le (length_mdel _ _) | exact len_end _ _ | exact len_wr _ _
theorem readers_eq {s : Fs} (h : s.offsets.length ≤ 1000) : fanout_Stream_Readers s = some (sortI (keys s.offsets)) := by
  unfold fanout_Stream_Readers
  refine perms_eq fun l hl => ?_
  have hlen : l.length ≤ 1000 := by rw [hl.length_eq]; exact h
  rw [mfold_filter (fun _ => true) (·.1) s.offsets 2000 (fun e s he hs => ?_) l [] (fun e he => hl.mem_iff.1 he) (by simp; omega)]
  · have hf : l.filter (fun _ => true) = l := List.filter_eq_self.2 fun _ _ => rfl
    simp only [Option.bind_some, List.nil_append, hf]
    rw [sortIM_t (by simp only [List.length_map, lim]; omega)]
    simp only [Option.bind_some]
    rw [sortI_congr (hl.map _)]; rfl
  · unfold fanout_Stream_Readers_L0
    rw [chk_bind (by simp only [List.length_cons, List.length_nil, lim]; omega)]; rfl
end Fanout
