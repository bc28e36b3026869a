import Derived.Test.YtpmdpondlmkojaaFanoutL
import Derived.Test.YtpmdpondlmkojaaR
set_option linter.unusedVariables false
set_option linter.unusedSimpArgs false
open Go Go.SL Go.Proofs Fanout
def playS (s : Fs) (x : S_law28_Step) : Fs :=
  let w : Int := ((x.What % (12 : UInt8)).toNat : Int)
  if w = 3 then attS s x.ID x.N else if w = 4 then attS s x.ID x.N
  else if w = 5 then (readS s x.ID x.N).2.2.2 else if w = 6 then (readS s x.ID x.N).2.2.2 else if w = 7 then (readS s x.ID x.N).2.2.2 else if w = 8 then (readS s x.ID x.N).2.2.2
  else if w = 9 then detS s x.ID else if w = 10 then endS s 2 else if w = 11 then endS s 3 else wrS s x.Data
theorem bnd_eq {α β : Type} {o : Option (α × β)} {b : β} (h : ∃ e, o = some (e, b)) : (o.bind fun x => some x.2) = some b := by
  obtain ⟨e, rfl⟩ := h; rfl
theorem play_eq {s : Fs} (h : Inv s) (x : S_law28_Step) (hx : x.Data.length ≤ 3000) : law28_play s x = some (playS s x) := by
  unfold law28_play playS
  simp only [decide_eq_true_eq]
  generalize ((x.What % (12 : UInt8)).toNat : Int) = w
  have ha := bnd_eq (att_eq s x.ID x.N)
  have hr : ((fanout_Stream_Read s x.ID x.N).bind fun x30 => some x30.2.2.2) = some (readS s x.ID x.N).2.2.2 := by rw [rd_eq h]; rfl
  have hd : ((fanout_Stream_Detach s x.ID).bind fun x36 => some x36.2) = some (detS s x.ID) := rfl
  have he := bnd_eq (end_eq s)
  have hb := bnd_eq (abort_eq s)
  have hw := bnd_eq (wr_eq h x.Data hx)
  repeat' split
  all_goals first | exact ha | exact hr | exact hd | exact he | exact hb | exact hw
theorem inv_play {s : Fs} (h : Inv s) (x : S_law28_Step) : Inv (playS s x) := by
  unfold playS
  simp only
  repeat' split
  all_goals first | exact inv_att h _ _ | exact inv_read h _ _ | exact inv_det h _ | exact inv_end h _ | exact inv_wr h _
theorem rel_other {id : Int} {x : S_law28_Step} (hk : x.ID ≠ id) (h3 : ((x.What % (12 : UInt8)).toNat : Int) ≥ 3) (h9 : ((x.What % (12 : UInt8)).toNat : Int) ≤ 9) (s : Fs) : Rel id (playS s x) s := by
  unfold playS
  simp only
  generalize ((x.What % (12 : UInt8)).toNat : Int) = w at *
  repeat' split
  all_goals first | exact other_att hk _ _ | exact other_read hk _ _ | exact other_det hk _ | (exfalso; omega)
theorem rel_same {id : Int} {x : S_law28_Step} (hk : x.ID = id ∨ ¬ (((x.What % (12 : UInt8)).toNat : Int) ≥ 3 ∧ ((x.What % (12 : UInt8)).toNat : Int) ≤ 9)) {a b : Fs} (h : Rel id a b) : Rel id (playS a x) (playS b x) := by
  unfold playS
  simp only
  generalize ((x.What % (12 : UInt8)).toNat : Int) = w at *
  rcases hk with rfl | hk
  · repeat' split
    all_goals first | exact same_att h _ | exact (same_read h _).2.2.2 | exact same_det h | exact same_end h _ | exact same_wr h _
  · repeat' split
    all_goals first | (exfalso; omega) | exact same_end h _ | exact same_wr h _
theorem alone_L0 (id : Int) : ∀ (l : List S_law28_Step) (i : Nat) (a b : Fs), Inv a → Inv b → Rel id a b → (∀ x ∈ l, x.Data.length ≤ 3000) → ∃ a' b', law28_FanoutAlone_L0d id l i a b = some (Fl.go (a', b')) ∧ Rel id a' b' := by
  intro l
  induction l with
  | nil => intro i a b _ _ h _; exact ⟨a, b, rfl, h⟩
  | cons x l ih =>
    intro i a b ia ib h hx
    have hx0 := hx x (by simp)
    have hx' : ∀ y ∈ l, y.Data.length ≤ 3000 := fun y hy => hx y (by simp [hy])
    rw [law28_FanoutAlone_L0d]
    by_cases ho : x.ID ≠ id ∧ ((x.What % (12 : UInt8)).toNat : Int) ≥ 3 ∧ ((x.What % (12 : UInt8)).toNat : Int) ≤ 9
    · obtain ⟨a', b', q1, q2⟩ := ih (i + 1) (playS a x) b (inv_play ia x) ib (rel_trans (rel_other ho.1 ho.2.1 ho.2.2 a) h) hx'
      refine ⟨a', b', ?_, q2⟩
      simp only [ho.1, ho.2.1, ho.2.2, decide_true, if_true, Option.bind_some, ne_eq, not_false_eq_true, play_eq ia x hx0]
      exact q1
    · have hc : ((if decide (x.ID ≠ id) = true then some (decide (((x.What % (12 : UInt8)).toNat : Int) ≥ 3)) else some false).bind fun x55 => if x55 = true then some (decide (((x.What % (12 : UInt8)).toNat : Int) ≤ 9)) else some false) = some false := by
        by_cases h1 : x.ID = id
        · simp [h1]
        · by_cases h3 : ((x.What % (12 : UInt8)).toNat : Int) ≥ 3
          · have h9 : ¬ ((x.What % (12 : UInt8)).toNat : Int) ≤ 9 := fun h => ho ⟨h1, h3, h⟩
            simp only [h1, h3, h9, ne_eq, not_false_eq_true, decide_true, decide_false, if_true, Option.bind_some]
          · simp only [h1, h3, ne_eq, not_false_eq_true, decide_true, decide_false, if_true, Option.bind_some, Bool.false_eq_true, if_false]
      have hk : x.ID = id ∨ ¬ (((x.What % (12 : UInt8)).toNat : Int) ≥ 3 ∧ ((x.What % (12 : UInt8)).toNat : Int) ≤ 9) := by
        by_cases h1 : x.ID = id
        · exact .inl h1
        · exact .inr fun h => ho ⟨h1, h⟩
      rw [← Option.bind_assoc, hc, Option.bind_some, if_neg (by simp)]
      by_cases hr : ((x.What % (12 : UInt8)).toNat : Int) ≥ 5 ∧ ((x.What % (12 : UInt8)).toNat : Int) ≤ 8
      · have hid : x.ID = id := hk.resolve_right fun hn => hn ⟨by omega, by omega⟩
        obtain ⟨e1, e2, e3, e4⟩ := same_read h x.N
        rw [← hid] at e1 e2 e3 e4
        rw [← hid] at h
        obtain ⟨a', b', q1, q2⟩ := ih (i + 1) (readS a x.ID x.N).2.2.2 (readS b x.ID x.N).2.2.2 (inv_read ia _ _) (inv_read ib _ _) (hid ▸ e4) hx'
        refine ⟨a', b', ?_, q2⟩
        have hn : ∀ e : Err, ∃ n, base_Num e = some n := fun e => by
          unfold base_Num; cases e <;> simp
        obtain ⟨nn, hnn⟩ := hn (readS b x.ID x.N).2.2.1
        simp only [hr.1, hr.2, decide_true, if_true, Option.bind_some, rd_eq ia, rd_eq ib, e1, e2, e3, ne_eq, not_true, decide_false, Bool.false_eq_true, if_false, hnn, base_Bytes, Bool.not_true]
        exact q1
      · obtain ⟨a', b', q1, q2⟩ := ih (i + 1) (playS a x) (playS b x) (inv_play ia x) (inv_play ib x) (rel_same hk h) hx'
        refine ⟨a', b', ?_, q2⟩
        have hc2 : (if decide (((x.What % (12 : UInt8)).toNat : Int) ≥ 5) = true then some (decide (((x.What % (12 : UInt8)).toNat : Int) ≤ 8)) else some false) = some false := by
          by_cases h5 : ((x.What % (12 : UInt8)).toNat : Int) ≥ 5
          · have h8 : ¬ ((x.What % (12 : UInt8)).toNat : Int) ≤ 8 := fun h => hr ⟨h5, h⟩
            simp only [h5, h8, decide_true, decide_false, if_true]
          · simp only [h5, decide_false, Bool.false_eq_true, if_false]
        rw [hc2, Option.bind_some, if_neg (by simp), play_eq ia x hx0, Option.bind_some, play_eq ib x hx0, Option.bind_some]
        exact q1
theorem law28_FanoutAlone_true (script : List S_law28_Step) (id : Int) (o0 : script.length ≤ szMax ∧ ∀ y0 ∈ script, S_law28_Step.ok y0) (o1 : InK .i64 id) : law28_FanoutAlone script id = some true := by
  unfold law28_FanoutAlone
  rw [awake_eq]
  have hd : ∀ x ∈ script, x.Data.length ≤ szMax := fun x hx => (o0.2 x hx).2.2.2.1
  rcases large_eq script o0.1 hd with hL | ⟨hL, hl, hx⟩
  · rw [hL]; rfl
  · have hn : fanout_New 65536 = some (some ⟨65536, 1, [], []⟩, none) := rfl
    have hi : Inv ⟨65536, 1, [], []⟩ := ⟨fun k v h => by simp at h, by simp, rfl⟩
    obtain ⟨a, b, h1, h2⟩ := alone_L0 id script 0 ⟨65536, 1, [], []⟩ ⟨65536, 1, [], []⟩ hi hi (rel_refl _ _) hx
    rw [hL, hn]
    rw [Option.bind_some, if_neg (by simp), Option.bind_some, Option.bind_some, if_neg (by simp), Option.bind_some]
    show ((chk (script.length ≤ szMax)).bind _) = _
    rw [chk_t o0.1, Option.bind_some]
    show ((law28_FanoutAlone_L0d id script 0 ⟨65536, 1, [], []⟩ ⟨65536, 1, [], []⟩).bind _) = _
    rw [h1, Option.bind_some]
    show some (decide ((a.data.length : Int) = (b.data.length : Int))) = some true
    rw [h2.2.2.1]
    simp
