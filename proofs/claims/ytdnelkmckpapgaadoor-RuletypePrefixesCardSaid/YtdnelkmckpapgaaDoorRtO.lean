/- Ruletype: names and numbers, as both lexers know them. -/
import Derived.Test.YtdnelkmckpapgaaDoorRtK
set_option linter.unusedVariables false
set_option linter.unusedSimpArgs false
open Go Go.SL Go.Proofs Pl
namespace Rt
def wdy : Str → Bool
  | [] => false
  | c :: t => isL c && t.all isA
def nmr : Str → Bool
  | [] => false
  | c :: t => isD c && t.all isD && decide (t.length ≤ 8)
theorem L_ne {c : UInt8} (h : isL c = true) : (c.toNat : Int) ≠ 10 ∧ (c.toNat : Int) ≠ 32 ∧ (c.toNat : Int) ≠ 9 ∧ (c.toNat : Int) ≠ 13 ∧ (c.toNat : Int) ≠ 35 := by
  simp only [isL, Bool.or_eq_true, Bool.and_eq_true, decide_eq_true_eq] at h
  omega
theorem D_ne {c : UInt8} (h : isD c = true) : (c.toNat : Int) ≠ 10 ∧ (c.toNat : Int) ≠ 32 ∧ (c.toNat : Int) ≠ 9 ∧ (c.toNat : Int) ≠ 13 ∧ (c.toNat : Int) ≠ 35 ∧ isL c = false := by
  simp only [isD, Bool.and_eq_true, decide_eq_true_eq] at h
  refine ⟨by omega, by omega, by omega, by omega, by omega, ?_⟩
  simp only [isL, Bool.or_eq_false_iff, Bool.and_eq_false_iff, decide_eq_false_iff_not]
  omega
def Tk (k : Int) (w : Str) : Prop := (k = 1 → wdy w = true) ∧ (k = 2 → nmr w = true)
theorem tok_tk {n : Nat} {s : Str} (hn : 10000 ≤ n) (h0 : 0 < s.length) (hs : s.length ≤ 5000) {a b : Int} {w : Str} (h : rulelex_token n s = some (a, b, w)) : a = 1 → wdy w = true := by
  cases s with
  | nil => simp at h0
  | cons c t =>
    cases hL : isL c with
    | true =>
      rw [tok_word hn hs hL] at h
      cases h
      exact fun _ => by simp only [wdy, hL, tw_all, Bool.and_self]
    | false =>
      intro ha
      subst ha
      unfold rulelex_token at h
      rw [show ix (c :: t) 0 = some c from rfl, Option.bind_some, show rulelex_letter c = some (isL c) from rfl, Option.bind_some, hL, if_neg (by simp), show rulelex_digit c = some (isD c) from rfl, Option.bind_some] at h
      split at h
      · obtain ⟨r, hr, h⟩ := bnd h
        split at h
        · cases h
        · obtain ⟨_, h⟩ := chkb h; cases h
      · split at h
        · obtain ⟨r, hr, h⟩ := bnd h; cases h
        · obtain ⟨_, h⟩ := chkb h
          obtain ⟨r, hr, h⟩ := bnd h
          have : ∀ (k i : Nat) (z : Int × Int × Str), rulelex_token_L5 (c :: t) k i = some (Fl.ret z) → z.1 = 4 := fun k => by
            induction k with
            | zero => intro i z hz; cases hz
            | succ k ih =>
              intro i z hz
              rw [rulelex_token_L5] at hz
              obtain ⟨p, hp, hz⟩ := bnd hz
              obtain ⟨q, hq, hz⟩ := bnd hz
              split at hz
              · cases hz; rfl
              · exact ih _ z hz
          cases r with
          | ret z =>
            rw [el_ret] at h
            have := this _ _ z hr
            rw [Option.some.inj h] at this
            simp at this
          | go z => rw [el_go] at h; cases h
theorem splitL0_tk {s : Str} {m : Nat} (hm : 10000 ≤ m) (hs : s.length ≤ 5000) : ∀ (n : Nat) (y : List S_rulelex_Token) (a b i : Int) (r : Fl ((List S_rulelex_Token) × Err) ((List S_rulelex_Token) × Int × Int × Int)), rulelex_Split_L0 s m n y a b i = some r → (∀ t ∈ y, t.Kind = 1 → wdy t.Text = true) →
    (∀ z, r = Fl.ret z → z.2 = some 2) ∧ ∀ p, r = Fl.go p → ∀ t ∈ p.1, t.Kind = 1 → wdy t.Text = true
  | 0, y, a, b, i, r, h, hy => by rw [rulelex_Split_L0] at h; cases h
  | n + 1, y, a, b, i, r, h, hy => by
    rw [rulelex_Split_L0] at h
    split at h
    · rename_i hi
      have hi : i < (s.length : Int) := by simpa using hi
      obtain ⟨c, hc, h⟩ := bnd h
      split at h
      · obtain ⟨_, h⟩ := chkb h
        obtain ⟨_, h⟩ := chkb h
        exact splitL0_tk hm hs n _ _ _ _ r h hy
      · split at h
        · obtain ⟨_, h⟩ := chkb h; exact splitL0_tk hm hs n _ _ _ _ r h hy
        · split at h
          · obtain ⟨_, h⟩ := chkb h; exact splitL0_tk hm hs n _ _ _ _ r h hy
          · split at h
            · obtain ⟨_, h⟩ := chkb h; exact splitL0_tk hm hs n _ _ _ _ r h hy
            · split at h
              · obtain ⟨_, _, h⟩ := bnd h; exact splitL0_tk hm hs n _ _ _ _ r h hy
              · obtain ⟨hb, h⟩ := chkb h
                obtain ⟨x, hx, h⟩ := bnd h
                split at h
                · cases h
                  exact ⟨fun z e => by cases e; rfl, fun p e => by cases e⟩
                · obtain ⟨_, h⟩ := chkb h
                  obtain ⟨_, h⟩ := chkb h
                  obtain ⟨_, h⟩ := chkb h
                  obtain ⟨_, h⟩ := chkb h
                  refine splitL0_tk hm hs n _ _ _ _ r h fun t ht => ?_
                  rcases List.mem_append.1 ht with ht | ht
                  · exact hy t ht
                  · rw [List.mem_singleton] at ht
                    subst ht
                    have hsl : (subL s i (s.length : Int)).length = s.length - i.toNat := by
                      unfold subL
                      rw [List.length_take, List.length_drop]; omega
                    obtain ⟨x1, x2, x3⟩ := x
                    exact tok_tk hm (by rw [hsl]; omega) (by rw [hsl]; omega) hx
    · cases h
      exact ⟨fun z e => (by cases e), fun p e => by cases e; exact hy⟩
theorem split_tk {n : Nat} {s : Str} (hn : 10000 ≤ n) {r : List S_rulelex_Token × Err} (h : rulelex_Split n s = some r) (he : r.2 = none) : s.length ≤ 4096 ∧ ∀ t ∈ r.1, t.Kind = 1 → wdy t.Text = true := by
  unfold rulelex_Split at h
  split at h
  · cases h; cases he
  · rename_i hl
    have hl : s.length ≤ 4096 := by simp at hl; omega
    obtain ⟨q, hq, h⟩ := bnd h
    obtain ⟨g1, g2⟩ := splitL0_tk hn (by omega) n _ _ _ _ q hq (by simp)
    cases q with
    | ret z =>
      rw [el_ret] at h
      have := g1 z rfl
      rw [Option.some.inj h, he] at this; cases this
    | go p =>
      rw [el_go] at h
      obtain ⟨_, h⟩ := chkb h
      obtain ⟨_, h⟩ := chkb h
      obtain ⟨_, h⟩ := chkb h
      cases h
      refine ⟨hl, fun t ht hk => ?_⟩
      rcases List.mem_append.1 ht with ht | ht
      · exact g2 p rfl t ht hk
      · rw [List.mem_singleton] at ht
        subst ht
        simp at hk
theorem split_word {n : Nat} {s : Str} (hn : 10000 ≤ n) (hs : s.length ≤ 4096) (hw : wdy s = true) : rulelex_Split n s = some ([⟨1, s, 1, 1⟩, ⟨5, [], 1, (s.length : Int) + 1⟩], none) := by
  cases s with
  | nil => cases hw
  | cons c t =>
    simp only [wdy, Bool.and_eq_true] at hw
    obtain ⟨hc, ht⟩ := hw
    obtain ⟨n1, n2, n3, n4, n5⟩ := L_ne hc
    obtain ⟨k, rfl⟩ : ∃ k, n = k + 2 := ⟨n - 2, by omega⟩
    have hlen : ((c :: t).length : Int) = (t.length : Int) + 1 := by simp
    unfold rulelex_Split
    rw [if_neg (by simp only [decide_eq_true_eq]; omega), rulelex_Split_L0, if_pos (by simp only [decide_eq_true_eq]; omega), show ix (c :: t) 0 = some c from rfl, Option.bind_some,
      if_neg (by simpa using n1), if_neg (by simpa using n2), if_neg (by simpa using n3), if_neg (by simpa using n4), if_neg (by simpa using n5), chk_bind (by omega)]
    have e : subL (c :: t) (0 : Int) ((c :: t).length : Int) = c :: t := by
      unfold subL
      rw [show ((0 : Int)).toNat = 0 from rfl, List.drop_zero, List.take_of_length_le (by omega)]
    rw [e, tok_word hn (by omega) hc, tw_self isA t ht, Option.bind_some, if_neg (by simp only [decide_eq_true_eq]; omega), chk_bind (by constructor <;> omega), chk_bind (by constructor <;> omega),
      chk_bind (by simp [lim]), chk_bind (by constructor <;> simp only <;> omega), rulelex_Split_L0, if_neg (by simp only [decide_eq_true_eq]; omega), Option.bind_some, el_go, chk_bind (by constructor <;> simp only <;> omega), chk_bind (by constructor <;> simp only <;> omega), chk_bind (by simp [lim])]
    simp
end Rt
