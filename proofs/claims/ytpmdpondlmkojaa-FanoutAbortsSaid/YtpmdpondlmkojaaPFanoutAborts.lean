import Derived.Test.YtpmdpondlmkojaaFanoutP
import Derived.Test.YtpmdpondlmkojaaR
set_option linter.unusedVariables false
set_option linter.unusedSimpArgs false
open Go Go.SL Go.Proofs Fanout Pl
theorem aborts_L0 : ∀ (l : List S_law28_Step) (i m : Nat) {s : Fs}, Inv s → s.offsets.length ≤ m → (∀ x ∈ l, x.Data.length ≤ 3000) → ∃ s', law28_FanoutAborts_L0b l i s = some s' ∧ Inv s' ∧ s'.offsets.length ≤ m + l.length
  | [], i, m, s, h, hm, _ => ⟨s, by rw [law28_FanoutAborts_L0b], h, by simpa using hm⟩
  | x :: l, i, m, s, h, hm, hx => by
    obtain ⟨s', e, h', hl⟩ := aborts_L0 l (i + 1) (m + 1) (inv_play h x) (Nat.le_trans (len_play s x) (by omega)) (fun y hy => hx y (by simp [hy]))
    refine ⟨s', ?_, h', by simp only [List.length_cons]; omega⟩
    rw [law28_FanoutAborts_L0b, play_eq h x (hx x (by simp))]; exact e
theorem aborts_L2 {s : Fs} (h3 : s.state = 3) : ∀ (l : List Int) (i : Nat), (∀ k ∈ l, (mget s.offsets k).isSome = true) → law28_FanoutAborts_L2b l i s = some (.go s)
  | [], i, _ => by rw [law28_FanoutAborts_L2b]
  | k :: l, i, hk => by
    obtain ⟨a, ha⟩ := Option.isSome_iff_exists.1 (hk k (by simp))
    rw [law28_FanoutAborts_L2b, read_ab s k 100 a ha h3]
    simp only [Option.bind_some, Option.isSome_none, List.length_nil, Int.natCast_zero, ne_eq, not_true_eq_false, decide_false, Bool.or_self, Bool.false_eq_true, if_false]
    exact aborts_L2 h3 l (i + 1) fun j hj => hk j (by simp [hj])
theorem is_eq (n : Int) (h : n ≠ 0) : base_Is (some n) n = some true := by
  unfold base_Is base_Num; simp [h]
theorem law28_FanoutAborts_true (script : List S_law28_Step) (ids : S__2_int) (o0 : script.length ≤ szMax ∧ ∀ y0 ∈ script, S_law28_Step.ok y0) (o1 : S__2_int.ok ids) : law28_FanoutAborts script ids = some true := by
  unfold law28_FanoutAborts
  rcases large_eq script o0.1 (fun x hx => (o0.2 x hx).2.2.2.1) with hL | ⟨hL, h80, hd⟩
  · simp [hL]
  rw [hL, Option.bind_some, if_neg (by decide), awake_eq, Option.bind_some, Option.bind_some]
  have hn : fanout_New 65536 = some (some ⟨65536, 1, [], []⟩, none) := rfl
  simp only [Bool.not_true, Bool.false_eq_true, if_false]
  rw [hn, Option.bind_some]
  simp only [Option.elim, Option.isSome_none, Bool.false_eq_true, if_false]
  obtain ⟨s, e, hi, hlen⟩ := aborts_L0 script 0 0 (s := ⟨65536, 1, [], []⟩) ⟨fun k v h => (by simp at h), by simp, rfl⟩ (by simp) hd
  rw [chk_bind o0.1, e, Option.bind_some]
  by_cases h1 : s.state = 1
  · have ha : fanout_Stream_Abort s = some (none, ⟨s.limit, 3, s.data, s.offsets⟩) := by unfold fanout_Stream_Abort; rw [open_eq, if_pos h1]; rfl
    rw [ha, Option.bind_some]
    simp only [Option.isSome_none, Bool.false_eq_true, if_false]
    have hd2 : ∀ (t : Fs) (k : Int), fanout_Stream_Detach t k = some ((mget t.offsets k).isSome, ⟨t.limit, t.state, t.data, mdel t.offsets k⟩) := fun _ _ => rfl
    rw [hd2, Option.bind_some, attach_eq]
    simp only [mget_mdel, if_true, Option.isSome_none, Bool.false_eq_true, if_false]
    rw [if_neg (by omega), Option.bind_some]
    simp only [Option.isSome_none, Bool.false_eq_true, if_false]
    rw [write_no _ _ (show (3 : Int) ≠ 1 by decide), Option.bind_some, is_eq 6 (by decide), Option.bind_some]
    have he : ∀ (t : Fs), t.state = 3 → fanout_Stream_End t = some (some 6, t) ∧ fanout_Stream_Abort t = some (some 6, t) := fun t ht => by
      unfold fanout_Stream_End fanout_Stream_Abort
      rw [open_eq, if_neg (by omega)]
      exact ⟨rfl, rfl⟩
    simp only [Bool.not_true, Bool.false_eq_true, if_false]
    rw [(he _ rfl).1, Option.bind_some, is_eq 6 (by decide), Option.bind_some]
    simp only [Bool.not_true, Bool.false_eq_true, if_false]
    rw [(he _ rfl).2, Option.bind_some, is_eq 6 (by decide), Option.bind_some]
    simp only [Bool.not_true, Bool.false_eq_true, if_false]
    have hl2 : (mset (mdel s.offsets ids.f0) ids.f0 0).length ≤ 200 := by
      have q1 := length_mset (mdel s.offsets ids.f0) ids.f0 (0 : Int)
      have q2 := length_mdel s.offsets ids.f0
      omega
    rw [readers_eq (by simp only; omega), Option.bind_some]
    have hk : (sortI (keys (mset (mdel s.offsets ids.f0) ids.f0 (0 : Int)))).length ≤ 200 := by rw [sortI_len]; unfold keys; rw [List.length_map]; exact hl2
    rw [chk_bind (by simp only [List.length_cons, List.length_nil, lim]; omega), chk_bind (by simp only [List.length_append, List.length_cons, List.length_nil, szMax]; omega), aborts_L2 rfl]
    · rfl
    · intro k hk
      rcases List.mem_append.1 hk with hk | hk
      · exact mem_keys.1 (mem_sortI.1 hk)
      · simp at hk; subst hk; simp only [mget_mset, if_true]; rfl
  · have ha : fanout_Stream_Abort s = some (some 6, s) := by unfold fanout_Stream_Abort; rw [open_eq, if_neg h1]; rfl
    have he : fanout_Stream_End s = some (some 6, s) := by unfold fanout_Stream_End; rw [open_eq, if_neg h1]; rfl
    rw [ha, Option.bind_some]
    simp only [Option.isSome_some, if_true]
    rw [is_eq 6 (by decide), Option.bind_some, if_pos rfl, he, Option.bind_some, is_eq 6 (by decide), Option.bind_some, if_pos rfl, write_no s _ h1, Option.bind_some, is_eq 6 (by decide)]
    rfl
