/- Plain facts about the document's key. -/
import Derived.Test.YtlpjmfojahofnaaVaryK
set_option linter.unusedVariables false
set_option linter.unusedSimpArgs false
open Go Go.SL Go.Proofs Pl
namespace Vary
theorem rquote_L0 {s : Str} (hs : s.length ≤ 100000000) : ∀ (r : Str) (i : Nat) (y : Str), s.drop i = r → y.length + 2 * r.length ≤ 1000000000 → ref01_Quote_L0 s r i y = some (y ++ r.flatMap esc)
  | [], i, y, _, _ => by simp [ref01_Quote_L0]
  | c :: r, i, y, hd, h => by
    simp only [List.length_cons] at h
    obtain ⟨hd', hi, e⟩ := sub_one hd
    have hc := esc_len c
    have ih := rquote_L0 hs r (i + 1) (y ++ esc c) hd' (by simp only [List.length_append]; omega)
    rw [List.flatMap_cons, ← List.append_assoc, ← ih, ref01_Quote_L0, pick, Option.bind_some, e]
    by_cases k : (decide ((c.toNat : Int) = 34) || decide ((c.toNat : Int) = 92)) = true
    · rw [if_pos k, chk_bind (by simp only [lim, List.length_cons, List.length_nil]; omega), chk_bind (by omega), chk_bind (by simp only [lim, List.length_append, List.length_cons, List.length_nil]; omega), show esc c = [92] ++ [c] from by unfold esc; rw [if_pos k]; rfl, List.append_assoc]
    · rw [if_neg k, chk_bind (by omega), chk_bind (by simp only [lim, List.length_cons, List.length_nil]; omega), show esc c = [c] from by unfold esc; rw [if_neg k]]
theorem ctl_any : ∀ (s : Str) (i : Nat), ∃ r, ref01_Control_L0 s i = some r
  | [], i => ⟨_, rfl⟩
  | c :: s, i => by
    obtain ⟨r, hr⟩ := ctl_any s (i + 1)
    rw [ref01_Control_L0]
    have e : ∃ b, (if decide ((c.toNat : Int) < 32) then some (decide ((c.toNat : Int) ≠ 9)) else some false) = some b := by split <;> exact ⟨_, rfl⟩
    obtain ⟨b, hb⟩ := e
    rw [hb, Option.bind_some]
    have e : ∃ d, (if b = true then some true else some (decide ((c.toNat : Int) = 127))) = some d := by split <;> exact ⟨_, rfl⟩
    obtain ⟨d, hd⟩ := e
    rw [hd, Option.bind_some]
    split
    · exact ⟨_, rfl⟩
    · exact ⟨r, hr⟩
theorem rquote {s : Str} (h : s.length ≤ 100000000) : ∃ b, ref01_Quote s = some (quo s, b) := by
  have hf := fm_len s
  obtain ⟨r, hr⟩ := ctl_any s 0
  unfold ref01_Quote ref01_Control
  rw [chk_bind (by simp only [szMax]; omega), rquote_L0 h s 0 [34] rfl (by simp <;> omega), Option.bind_some, chk_bind (by simp only [lim, List.length_append, List.length_cons, List.length_nil]; omega), chk_bind (by simp only [szMax]; omega), hr, Option.bind_some]
  cases r <;> exact ⟨_, rfl⟩
theorem rkey_tail {n : Nat} (hn : 2 ≤ n) {f : List RF} (hf : tot f ≤ 10000) : ∀ (l : List Str) (i : Nat) (y : Str), 0 < i → sumL l ≤ 1000 → y.length + sumL l + l.length * 40003 ≤ 1000000000 → ref16_Key_L0 n f l i y = some (y ++ jt [38] (l.map (item f)))
  | [], i, y, _, _, _ => by simp [ref16_Key_L0, jt_nil]
  | m :: l, i, y, hi, h, hy => by
    rw [sumL_cons] at h hy
    rw [List.length_cons, Nat.add_mul] at hy
    have h0 := item_len f m
    have ih := rkey_tail hn hf l (i + 1) (y ++ [38] ++ item f m) (by omega) (by omega) (by simp only [List.length_append, List.length_cons, List.length_nil]; omega)
    rw [List.map_cons, jt_cons, ← List.append_assoc, ← List.append_assoc, ← ih, ref16_Key_L0, if_pos (by simp <;> omega), chk_bind (by simp only [lim, List.length_cons, List.length_nil]; omega), chk_bind (by simp only [lim, List.length_append, List.length_cons, List.length_nil]; omega), rvalue hn (by omega) (by omega), Option.bind_some]
    by_cases k : vals f m = []
    · rw [if_neg (by simp [k]), show item f m = m from by unfold item; rw [if_pos k]]
    · have h3 := vj_len f m; have h4 := quo_len (jn ((vals f m).map norm) [44])
      obtain ⟨b, hb⟩ := rquote (s := jn ((vals f m).map norm) [44]) (by omega)
      have h5 : 0 < (vals f m).length := List.length_pos_iff.2 k
      rw [if_pos (by simp <;> omega), hb, Option.bind_some, chk_bind (by simp only [lim, List.length_cons, List.length_nil]; omega), chk_bind (by simp only [lim, List.length_append, List.length_cons, List.length_nil]; omega)]
      rw [show item f m = m ++ [61] ++ quo (jn ((vals f m).map norm) [44]) from by unfold item; rw [if_neg k]]
      simp only [List.append_assoc]
theorem rkey {n : Nat} (hn : 2 ≤ n) {names : List Str} {f : List RF} (hm : sumL names ≤ 1000) (hf : tot f ≤ 10000) : ref16_Key n names f = some (key names f) := by
  have h3 := sumL_len names
  unfold ref16_Key
  rw [chk_bind (by simp only [szMax]; omega)]
  cases names with
  | nil => rfl
  | cons m l =>
    rw [sumL_cons] at hm
    simp only [List.length_cons] at h3
    have h0 := item_len f m
    have h6 := sumL_len l
    have ih := rkey_tail hn hf l 1 (item f m) (by omega) (by omega) (by have : l.length * 40003 ≤ 1000 * 40003 := Nat.mul_le_mul_right _ (by omega); omega)
    unfold key
    rw [List.map_cons, jn_cons, ← ih, ref16_Key_L0, if_neg (by simp), chk_bind (by simp only [lim, List.length_nil]; omega), rvalue hn (by omega) (by omega), Option.bind_some, List.nil_append]
    by_cases k : vals f m = []
    · rw [if_neg (by simp [k]), show item f m = m from by unfold item; rw [if_pos k], bs]
    · have h3 := vj_len f m; have h4 := quo_len (jn ((vals f m).map norm) [44])
      obtain ⟨b, hb⟩ := rquote (s := jn ((vals f m).map norm) [44]) (by omega)
      have h5 : 0 < (vals f m).length := List.length_pos_iff.2 k
      rw [if_pos (by simp <;> omega), hb, Option.bind_some, chk_bind (by simp only [lim, List.length_cons, List.length_nil]; omega), chk_bind (by simp only [lim, List.length_append, List.length_cons, List.length_nil]; omega)]
      rw [show item f m = m ++ [61] ++ quo (jn ((vals f m).map norm) [44]) from by unfold item; rw [if_neg k]]
      simp only [List.append_assoc, bs]

end Vary
