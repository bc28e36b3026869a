import Derived.Test.YtpmdpondlmkojaaFanout
import Derived.Test.YtpmdpondlmkojaaR
set_option linter.unusedVariables false
set_option linter.unusedSimpArgs false
open Go Go.SL Go.Proofs Fanout
theorem law28_FanoutCopies_true (data : Str) (atZ : UInt8) (o0 : data.length ≤ maxLen ∧ ∀ y0 ∈ data, True) (o1 : True) : law28_FanoutCopies data atZ = some true := by
  unfold law28_FanoutCopies
  rw [awake_eq]
  by_cases hg : (data.length : Int) = 0 ∨ (data.length : Int) > 1000
  · have : (decide ((data.length : Int) = 0) || decide ((data.length : Int) > 1000)) = true := by simpa using hg
    simp only [this, if_true, Option.bind_some]
  · have hf : (decide ((data.length : Int) = 0) || decide ((data.length : Int) > 1000)) = false := by simpa using hg
    have h1 : 0 < data.length ∧ data.length ≤ 1000 := by omega
    have hn : fanout_New 65536 = some (some ⟨65536, 1, [], []⟩, none) := rfl
    have hl : ([] : Str).length + data.length ≤ lim := by simp only [lim, List.length_nil]; omega
    have hz : ((data.length : Nat) : Int) ≠ 0 := by omega
    have hix : ∃ x, ix data (Int.tmod (atZ.toNat : Int) (data.length : Int)) = some x := by
      have e : Int.tmod (atZ.toNat : Int) (data.length : Int) = ((atZ.toNat % data.length : Nat) : Int) := by
        rw [Int.tmod_eq_emod_of_nonneg (by omega)]; rfl
      have : atZ.toNat % data.length < data.length := Nat.mod_lt _ (by omega)
      unfold ix
      rw [e, if_pos (by omega), show ((atZ.toNat % data.length : Nat) : Int).toNat = atZ.toNat % data.length from by omega]
      exact ⟨_, List.getElem?_eq_getElem this⟩
    obtain ⟨x, hix⟩ := hix
    have hw : fanout_Stream_Write ⟨65536, 1, [], []⟩ data = some (none, ⟨65536, 1, data, []⟩) := by
      rw [write_eq _ _ (by simp; omega) rfl, if_neg (by simp; omega)]
      rfl
    have ha1 : fanout_Stream_Attach ⟨65536, 1, data, []⟩ 1 0 = some (none, ⟨65536, 1, data, [(1, 0)]⟩) := by
      rw [attach_eq]; rw [if_neg (by simp), if_neg (by simp)]; rfl
    have ha2 : fanout_Stream_Attach ⟨65536, 1, data, [(1, 0)]⟩ 2 0 = some (none, ⟨65536, 1, data, [(1, 0), (2, 0)]⟩) := by
      rw [attach_eq, if_neg (show ¬ (mget [((1 : Int), (0 : Int))] 2).isSome = true by decide), if_neg (by simp)]; rfl
    have ho : ∀ (st : Int) (m), outF ⟨65536, st, data, m⟩ 0 (data.length : Int) = data := fun st m => by unfold outF; simp
    have hr1 : fanout_Stream_Read ⟨65536, 1, data, [(1, 0), (2, 0)]⟩ 1 (data.length : Int) = some (data, 1, none, ⟨65536, 1, data, mset [(1, 0), (2, 0)] 1 (data.length : Int)⟩) := by
      rw [read_eq _ 1 _ 0 (show mget [((1 : Int), (0 : Int)), (2, 0)] 1 = some 0 by decide) (show (1 : Int) ≠ 3 by decide) (by simp) (by simp; omega), ho]
      simp
    have hr2 : fanout_Stream_Read ⟨65536, 1, data, mset [(1, 0), (2, 0)] 1 (data.length : Int)⟩ 2 (data.length : Int) = some (data, 1, none, ⟨65536, 1, data, mset (mset [(1, 0), (2, 0)] 1 (data.length : Int)) 2 (data.length : Int)⟩) := by
      rw [read_eq _ 2 _ 0 (show mget (mset [((1 : Int), (0 : Int)), (2, 0)] 1 (data.length : Int)) 2 = some 0 by rw [mget_mset, if_neg (by decide)]; decide) (show (1 : Int) ≠ 3 by decide) (by simp) (by simp; omega), ho]
      simp
    simp only [hf, hn, Option.bind_some, Bool.not_true, Bool.false_eq_true, if_false, Option.elim, Option.isSome_none, chk_t hl, List.nil_append, hw, ha1, ha2, chk_t hz, hix, hr1, base_Bytes, decide_true, hr2, Option.isNone_none, if_true]
