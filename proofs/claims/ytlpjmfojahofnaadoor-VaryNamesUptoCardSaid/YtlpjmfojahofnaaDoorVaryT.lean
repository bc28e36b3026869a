/- Vary: trimming and tokens, both ways. -/
import Derived.Test.YtlpjmfojahofnaaDoorVaryK
import Derived.Test.YtlpjmfojahofnaaDoorSL32
set_option linter.unusedVariables false
set_option linter.unusedSimpArgs false
open Go Go.SL Go.Proofs Pl
namespace Vary
def bl9 (c : UInt8) : Bool := ([32, 9] : Str).contains c
theorem bl9_eq (c : UInt8) : bl9 c = (decide ((c.toNat : Int) = 32) || decide ((c.toNat : Int) = 9)) := by
  have e1 : ∀ k : UInt8, (c == k) = decide ((c.toNat : Int) = (k.toNat : Int)) := fun k => by
    by_cases h : c = k
    · subst h; simp
    · have : ¬ (c.toNat : Int) = (k.toNat : Int) := fun e => h (UInt8.toNat_inj.1 (by omega))
      simp [h, this]
  unfold bl9
  rw [List.contains_cons, List.contains_cons, List.contains_nil, Bool.or_false, e1, e1]; rfl
/-- From the end. -/
def rd : Str → Str
  | [] => []
  | x :: t => match rd t with
    | [] => if bl9 x = true then [] else [x]
    | y :: ys => x :: y :: ys
theorem rd_snoc (r : Str) (z : UInt8) : rd (r ++ [z]) = if bl9 z = true then rd r else r ++ [z] := by
  induction r with
  | nil => simp [rd]
  | cons x r ih =>
    rw [List.cons_append, rd, ih]
    by_cases q : bl9 z = true
    · rw [if_pos q, if_pos q, rd]
    · rw [if_neg q, if_neg q]
      cases h : r ++ [z] with
      | nil => simp at h
      | cons a b => rfl
theorem rd_len : ∀ s : Str, (rd s).length ≤ s.length
  | [] => Nat.le_refl _
  | x :: t => by
    have := rd_len t
    rw [rd]
    cases h : rd t with
    | nil => simp only; split <;> simp
    | cons a b => rw [h] at this; simp only [List.length_cons] at this ⊢; omega
theorem rev_rd (s : Str) : (s.reverse.dropWhile bl9).reverse = rd s := by
  have : ∀ r : Str, rd r.reverse = (r.dropWhile bl9).reverse := fun r => by
    induction r with
    | nil => rfl
    | cons x r ih =>
      rw [List.reverse_cons, rd_snoc, List.dropWhile_cons]
      by_cases q : bl9 x = true
      · rw [if_pos q, if_pos q, ih]
      · rw [if_neg q, if_neg q, List.reverse_cons]
  rw [← this, List.reverse_reverse]
theorem dw_rd : ∀ s : Str, (rd s).dropWhile bl9 = rd (s.dropWhile bl9)
  | [] => rfl
  | x :: t => by
    rw [rd, List.dropWhile_cons]
    by_cases q : bl9 x = true
    · rw [if_pos q, if_pos q, ← dw_rd t]
      cases rd t with
      | nil => rfl
      | cons a b => simp only; rw [List.dropWhile_cons, if_pos q]
    · rw [if_neg q, if_neg q, rd, if_neg q]
      cases rd t with
      | nil => simp only; rw [List.dropWhile_cons, if_neg q]
      | cons a b => simp only; rw [List.dropWhile_cons, if_neg q]
def trm (s : Str) : Str := rd (s.dropWhile bl9)
theorem dw_len (p : UInt8 → Bool) : ∀ s : Str, (s.dropWhile p).length ≤ s.length
  | [] => Nat.le_refl _
  | x :: t => by
    rw [List.dropWhile_cons]
    have := dw_len p t
    split <;> simp only [List.length_cons] <;> omega
theorem trm_len (s : Str) : (trm s).length ≤ s.length := Nat.le_trans (rd_len _) (dw_len _ s)
theorem trimM_eq {s : Str} (h : s.length ≤ 100000000) : trimM s ([32, 9] : Str) = some (trm s) := by
  unfold trimM
  rw [if_pos ⟨by simp only [lim]; omega, by simp, by decide⟩]
  show some ((Go.Lib.trimRightS s [32, 9]).dropWhile (([32, 9] : Str).contains ·)) = _
  have e : Go.Lib.trimRightS s [32, 9] = rd s := rev_rd s
  rw [e]
  exact congrArg some (dw_rd s)
theorem tl {c : UInt8} {t : Str} : subL (c :: t) (1 : Int) (((c :: t).length : Nat) : Int) = t := by
  unfold subL
  rw [show ((1 : Int)).toNat = 1 from rfl, List.drop_succ_cons, List.drop_zero, List.take_of_length_le (by simp only [List.length_cons]; omega)]
theorem rtrim_L0 : ∀ (n : Nat) (s : Str), s.length < n → s.length ≤ 100000000 → ref01_Trim_L0 n s = some (s.dropWhile bl9)
  | 0, s, h, _ => by omega
  | n + 1, [], h, _ => by rw [ref01_Trim_L0, if_neg (by simp)]; rfl
  | n + 1, c :: t, h, hl => by
    simp only [List.length_cons] at h hl
    have e : (if decide ((c.toNat : Int) = 32) = true then some true else (some c).bind fun x12 => some (decide ((x12.toNat : Int) = 9))) = some (bl9 c) := by
      rw [bl9_eq]
      cases decide ((c.toNat : Int) = 32) <;> simp
    rw [ref01_Trim_L0, if_pos (by simp), show ix (c :: t) 0 = some c from rfl, Option.bind_some, e, Option.bind_some, List.dropWhile_cons]
    by_cases q : bl9 c = true
    · rw [if_pos q, if_pos q, chk_bind (by simp only [List.length_cons]; omega), tl]
      exact rtrim_L0 n t (by omega) (by omega)
    · rw [if_neg q, if_neg q]
theorem rtrim_L2 : ∀ (n : Nat) (s : Str), s.length < n → s.length ≤ 100000000 → ref01_Trim_L2 n s = some (rd s)
  | 0, s, h, _ => by omega
  | n + 1, s, h, hl => by
    rcases List.eq_nil_or_concat s with rfl | ⟨r, z, rfl⟩
    · rw [ref01_Trim_L2, if_neg (by simp)]; rfl
    · rw [List.concat_eq_append] at h hl ⊢
      have hlen : ((r ++ [z]).length : Int) - 1 = (r.length : Int) := by simp
      have hz : ix (r ++ [z]) (r.length : Int) = some z := by
        unfold ix; rw [if_pos (by omega)]; simp
      have e : (if decide ((z.toNat : Int) = 32) = true then some true else (some z).bind fun x12 => some (decide ((x12.toNat : Int) = 9))) = some (bl9 z) := by
        rw [bl9_eq]
        cases decide ((z.toNat : Int) = 32) <;> simp
      have hs : subL (r ++ [z]) (0 : Int) (r.length : Int) = r := by
        unfold subL
        simp
      simp only [List.length_append, List.length_cons, List.length_nil] at h hl
      rw [ref01_Trim_L2, if_pos (by simp), hlen, chk_bind (by constructor <;> omega), hz, Option.bind_some]
      have e2 : (if decide ((z.toNat : Int) = 32) = true then some true else (chk (InI (r.length : Int))).bind fun _ => (some z).bind fun x33 => some (decide ((x33.toNat : Int) = 9))) = some (bl9 z) := by
        rw [chk_bind (by constructor <;> omega)]; exact e
      rw [e2, Option.bind_some, rd_snoc]
      by_cases q : bl9 z = true
      · rw [if_pos q, if_pos q, chk_bind (by constructor <;> omega), chk_bind (by simp only [List.length_append, List.length_cons, List.length_nil]; omega), hs]
        exact rtrim_L2 n r (by omega) (by omega)
      · rw [if_neg q, if_neg q]
theorem rtrim {n : Nat} {s : Str} (h : s.length < n) (hl : s.length ≤ 100000000) : ref01_Trim n s = some (trm s) := by
  have := dw_len bl9 s
  unfold ref01_Trim
  rw [rtrim_L0 n s h hl, Option.bind_some, rtrim_L2 n _ (by omega) (by omega)]; rfl
/-! ### tokens -/
theorem tch_all : ∀ n : Fin 256, ∃ b, syntax_tchar (UInt8.ofNat n.val) = some b ∧ ref01_tchar (UInt8.ofNat n.val) = some b := by
  have h : ∀ n : Fin 256, syntax_tchar (UInt8.ofNat n.val) = ref01_tchar (UInt8.ofNat n.val) ∧ (syntax_tchar (UInt8.ofNat n.val)).isSome = true := by decide +kernel
  intro n
  obtain ⟨h1, h2⟩ := h n
  obtain ⟨b, hb⟩ := Option.isSome_iff_exists.1 h2
  exact ⟨b, hb, by rw [← h1, hb]⟩
theorem tch (c : UInt8) : ∃ b, syntax_tchar c = some b ∧ ref01_tchar c = some b := by
  have := tch_all ⟨c.toNat, c.toNat_lt⟩
  simpa using this
theorem tok_L0 : ∀ (s : Str) (i j : Nat), ∃ b : Bool, syntax_Token_L0 s i = some (if b = true then Fl.go () else Fl.ret false) ∧ ref01_Token_L0 s j = some (if b = true then Fl.go () else Fl.ret false)
  | [], i, j => ⟨true, rfl, rfl⟩
  | c :: s, i, j => by
    obtain ⟨b, h1, h2⟩ := tch c
    rw [syntax_Token_L0, ref01_Token_L0, h1, h2, Option.bind_some, Option.bind_some]
    cases b with
    | false => exact ⟨false, rfl, rfl⟩
    | true => exact tok_L0 s (i + 1) (j + 1)
theorem tok {s : Str} (h : s.length ≤ 100000000) : ∃ b, syntax_Token s = some b ∧ ref01_Token s = some b := by
  obtain ⟨b, h1, h2⟩ := tok_L0 s 0 0
  unfold syntax_Token ref01_Token
  rw [chk_bind (by simp only [szMax]; omega), chk_bind (by simp only [szMax]; omega), h1, h2, Option.bind_some, Option.bind_some]
  cases b with
  | false => exact ⟨false, rfl, rfl⟩
  | true =>
    refine ⟨decide (s ≠ []), rfl, ?_⟩
    simp only [if_true, el_go]
    congr 1
    apply decide_eq_decide.2
    cases s <;> simp
theorem name_eq {s : Str} (h : s.length ≤ 100000000) : ∃ o : Option Str, ∃ e1 : Int, ∃ e2 : Int, e2 ≠ 0 ∧ field_Name s = some (match o with | some m => (m, none) | none => ([], some e1)) ∧ ref02_Name s = some (match o with | some m => (m, 0) | none => ([], e2)) := by
  obtain ⟨b, h1, h2⟩ := tok h
  unfold field_Name ref02_Name
  rw [h1, h2, Option.bind_some, Option.bind_some]
  cases b with
  | false => exact ⟨none, 8, 8, by omega, rfl, rfl⟩
  | true =>
    simp only [Bool.not_true, Bool.false_eq_true, if_false]
    by_cases q : (s.length : Int) > 64
    · rw [if_pos (by simpa using q), if_pos (by simpa using q)]
      exact ⟨none, 5, 5, by omega, rfl, rfl⟩
    · rw [if_neg (by simpa using q), if_neg (by simpa using q), flower (by omega), rlower (by omega)]
      exact ⟨some (low s), 0, 1, by omega, rfl, rfl⟩
end Vary
