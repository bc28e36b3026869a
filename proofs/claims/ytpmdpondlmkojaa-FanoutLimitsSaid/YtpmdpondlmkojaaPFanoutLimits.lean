import Derived.Test.YtpmdpondlmkojaaFanout
import Derived.Test.YtpmdpondlmkojaaR
set_option linter.unusedVariables false
set_option linter.unusedSimpArgs false
open Go Go.SL Go.Proofs Fanout
theorem least_nil (lm st : Int) (d : Str) : fanout_Stream_Least ⟨lm, st, d, []⟩ = some (d.length : Int) := by
  unfold fanout_Stream_Least
  refine perms_eq fun l hl => ?_
  rw [List.perm_nil.1 hl]
  rfl
theorem is_eq (e w : Int) (h : w ≠ 0) : base_Is (some e) w = some (decide (e = w)) := by
  unfold base_Is base_Num
  simp [h]
theorem limits_L0 (limit : Int) (hlim : 0 ≤ limit ∧ limit ≤ 65535) : ∀ (l : List Int) (i : Nat) (d : Str), (∀ e ∈ l, 0 ≤ e ∧ e ≤ 65535) → (d.length : Int) ≤ 1 + limit →
    ∃ d' : Str, (d'.length : Int) ≤ 1 + limit ∧ law28_FanoutLimits_L0b limit l i (d.length : Int) ⟨1 + limit, 1, d, []⟩ = some (Fl.go ((d'.length : Int), ⟨1 + limit, 1, d', []⟩)) := by
  intro l
  induction l with
  | nil => intro i d _ hd; exact ⟨d, hd, rfl⟩
  | cons e l ih =>
    intro i d he hd
    have h0 := he e (by simp)
    have he' : ∀ x ∈ l, 0 ≤ x ∧ x ≤ 65535 := fun x hx => he x (by simp [hx])
    have c1 : InI e := by constructor <;> omega
    have hl : (lim : Int) = 68719476736 := rfl
    have c2 : 0 ≤ e ∧ e ≤ (lim : Int) := by omega
    have c3 : InI ((d.length : Int) + e) := by constructor <;> omega
    have hlen : ((List.replicate (Int.toNat e) (0 : UInt8) : Str).length : Int) = e := by rw [List.length_replicate]; omega
    have hw := write_eq ⟨1 + limit, 1, d, []⟩ (List.replicate (Int.toNat e) (0 : UInt8)) (by rw [List.length_replicate]; show d.length + e.toNat ≤ 1000000; omega) rfl
    rw [law28_FanoutLimits_L0b, chk_t c1, chk_t c2]
    simp only [Option.bind_some]
    rw [hw]
    simp only [hlen]
    by_cases hg : (d.length : Int) + e > 1 + limit
    · obtain ⟨d', q1, q2⟩ := ih (i + 1) d he' hd
      refine ⟨d', q1, ?_⟩
      rw [if_pos hg]
      simp only [Option.bind_some, chk_t c3, hg, decide_true, if_true, is_eq 5 5 (by decide), Bool.not_true, Bool.false_eq_true, if_false, fanout_Stream_Written, ne_eq, not_true, decide_false, least_nil]
      exact q2
    · have hd2 : ((d ++ List.replicate (Int.toNat e) (0 : UInt8) : Str).length : Int) = d.length + e := by rw [List.length_append]; omega
      obtain ⟨d', q1, q2⟩ := ih (i + 1) (d ++ List.replicate (Int.toNat e) (0 : UInt8)) he' (by omega)
      refine ⟨d', q1, ?_⟩
      rw [if_neg hg]
      simp only [Option.bind_some, chk_t c3, hg, decide_false, Bool.false_eq_true, if_false, Option.isSome_none, fanout_Stream_Written, hd2, ne_eq, not_true, least_nil]
      rw [hd2] at q2
      exact q2
theorem law28_FanoutLimits_true (limit : Int) (parts : List Int) (o0 : InK .u16 limit) (o1 : parts.length ≤ maxLen ∧ ∀ y0 ∈ parts, InK .u16 y0) : law28_FanoutLimits limit parts = some true := by
  have h0 : 0 ≤ limit ∧ limit ≤ 65535 := by simp only [InK] at o0; omega
  have h1 : ∀ e ∈ parts, 0 ≤ e ∧ e ≤ 65535 := fun e he => by have := o1.2 e he; simp only [InK] at this; omega
  unfold law28_FanoutLimits
  rw [awake_eq]
  by_cases hg : (parts.length : Int) > 30
  · simp only [hg, decide_true, if_true, Option.bind_some]
  · have c1 : InI limit := by constructor <;> omega
    have c2 : InI (1 + limit) := by constructor <;> omega
    have c3 : parts.length ≤ lim := by simp only [lim]; omega
    have hn : fanout_New (1 + limit) = some (some ⟨1 + limit, 1, [], []⟩, none) := by
      unfold fanout_New
      rw [if_neg (by simp; omega)]
    obtain ⟨d, hd, hL⟩ := limits_L0 limit h0 parts 0 [] h1 (by simp; omega)
    have hL' : law28_FanoutLimits_L0b limit parts 0 0 ⟨1 + limit, 1, [], []⟩ = some (Fl.go ((d.length : Int), ⟨1 + limit, 1, d, []⟩)) := hL
    have hl : (lim : Int) = 68719476736 := rfl
    have c4 : InI (1 + limit - (d.length : Int)) := by constructor <;> omega
    have c5 : 0 ≤ 1 + limit - (d.length : Int) ∧ 1 + limit - (d.length : Int) ≤ (lim : Int) := by omega
    have hw1 := write_eq ⟨1 + limit, 1, d, []⟩ (List.replicate (Int.toNat (1 + limit - (d.length : Int))) (0 : UInt8)) (by rw [List.length_replicate]; show d.length + _ ≤ 1000000; omega) rfl
    rw [if_neg (by simp only [List.length_replicate]; show ¬ ((d.length : Int) + _ > _); omega)] at hw1
    generalize hD : d ++ List.replicate (Int.toNat (1 + limit - (d.length : Int))) (0 : UInt8) = D at hw1
    have hDl : (D.length : Int) = 1 + limit := by rw [← hD, List.length_append, List.length_replicate]; omega
    have hw2 := write_eq ⟨1 + limit, 1, D, []⟩ [] (by show D.length + 0 ≤ 1000000; omega) rfl
    rw [if_neg (by show ¬ ((D.length : Int) + 0 > 1 + limit); omega)] at hw2
    simp only [List.append_nil] at hw2
    have hw3 := write_eq ⟨1 + limit, 1, D, []⟩ [(1 : UInt8)] (by show D.length + 1 ≤ 1000000; omega) rfl
    rw [if_pos (by show ((D.length : Int) + 1 > 1 + limit); omega)] at hw3
    have he : fanout_Stream_End ⟨1 + limit, 1, D, []⟩ = some (none, ⟨1 + limit, 2, D, []⟩) := by
      unfold fanout_Stream_End; rw [open_eq]; rfl
    have hwr : fanout_Stream_Written ⟨1 + limit, 1, D, []⟩ = some (1 + limit) := by unfold fanout_Stream_Written; rw [hDl]
    generalize (⟨1 + limit, 1, D, []⟩ : S_fanout_Stream) = S at hw1 hw2 hw3 he hwr
    generalize (⟨1 + limit, 2, D, []⟩ : S_fanout_Stream) = S2 at he
    simp only [hg, decide_false, Bool.false_eq_true, if_false, Option.bind_some, Bool.not_true, chk_t c1, chk_t c2, hn, Option.elim, Option.isSome_none, chk_t c3, hL', Fl.el, chk_t c4, chk_t c5, hw1, hwr, ne_eq, not_true]
    rw [hw2]
    rw [Option.bind_some]
    rw [if_neg (by simp)]
    show (fanout_Stream_Write S [1]).bind _ = _
    rw [hw3]
    rw [Option.bind_some, is_eq 5 5 (by decide), Option.bind_some, if_pos (by decide)]
    show (fanout_Stream_End S).bind _ = _
    rw [he]
    rfl
