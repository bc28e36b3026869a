/- Plain facts about the mirrors of package vary: the key, both ways. -/
import Derived.Test.YtlpjmfojahofnaaVary
import Derived.Test.YtlpjmfojahofnaaR
set_option linter.unusedVariables false
set_option linter.unusedSimpArgs false
open Go Go.SL Go.Proofs Pl
namespace Vary
theorem bs {α : Type} (o : Option α) : (o.bind fun t => some t) = o := by cases o <;> rfl
abbrev jn := Go.Lib.join
abbrev jt := Go.Lib.joinTail
theorem jt_cons (sep x : Str) (r : List Str) : jt sep (x :: r) = sep ++ x ++ jt sep r := by simp [jt, Go.Lib.joinTail]
theorem jt_nil (sep : Str) : jt sep [] = [] := rfl
theorem jn_cons (sep x : Str) (r : List Str) : jn (x :: r) sep = x ++ jt sep r := Go.Lib.join_cons x r sep
theorem jn_nil (sep : Str) : jn [] sep = [] := Go.Lib.join_nil sep
def sumL (l : List Str) : Nat := (l.map fun x => x.length + 1).sum
theorem sumL_cons (x : Str) (l : List Str) : sumL (x :: l) = x.length + 1 + sumL l := by simp [sumL]
theorem sumL_nil : sumL [] = 0 := rfl
theorem sumL_len : ∀ (l : List Str), l.length ≤ sumL l
  | [] => Nat.zero_le _
  | x :: l => by have := sumL_len l; rw [sumL_cons, List.length_cons]; omega
theorem sumL_mem {l : List Str} {x : Str} (h : x ∈ l) : x.length + 1 ≤ sumL l := by
  induction l with
  | nil => cases h
  | cons y l ih =>
    rw [sumL_cons]
    rcases List.mem_cons.1 h with rfl | h
    · omega
    · have := ih h; omega
theorem sumL_append (l k : List Str) : sumL (l ++ k) = sumL l + sumL k := by simp [sumL]
theorem jt_len (c : UInt8) : ∀ (l : List Str), (jt [c] l).length = sumL l
  | [] => rfl
  | x :: l => by
    rw [jt_cons, sumL_cons]
    have := jt_len c l
    simp only [List.length_append, List.length_cons, List.length_nil, this]; omega
theorem jn_len (c : UInt8) (l : List Str) : (jn l [c]).length ≤ sumL l := by
  cases l with
  | nil => rw [jn_nil]; simp
  | cons x l =>
    rw [jn_cons, List.length_append, jt_len, sumL_cons]; omega
theorem sumL_norm : ∀ (l : List Str), sumL (l.map norm) ≤ 2 * sumL l
  | [] => Nat.zero_le _
  | x :: l => by
    have := sumL_norm l; have := norm_len x
    rw [List.map_cons, sumL_cons, sumL_cons]; omega
theorem sumL_vals (n : Str) : ∀ (f : List RF), sumL (vals f n) ≤ tot f
  | [] => Nat.zero_le _
  | x :: f => by
    have := sumL_vals n f
    rw [vals_cons, sumL_append, tot_cons]
    split
    · rw [sumL_cons, sumL_nil]; omega
    · rw [sumL_nil]; omega

/-! ### quotes -/
def esc (c : UInt8) : Str := if (decide ((c.toNat : Int) = 34) || decide ((c.toNat : Int) = 92)) then [92, c] else [c]
def quo (s : Str) : Str := [34] ++ s.flatMap esc ++ [34]
theorem esc_len (c : UInt8) : (esc c).length ≤ 2 := by unfold esc; split <;> simp
theorem fm_len : ∀ (s : Str), (s.flatMap esc).length ≤ 2 * s.length
  | [] => Nat.zero_le _
  | c :: s => by
    have := fm_len s; have := esc_len c
    simp only [List.flatMap_cons, List.length_append, List.length_cons]; omega
theorem quo_len (s : Str) : (quo s).length ≤ 2 * s.length + 2 := by
  have := fm_len s
  unfold quo
  simp only [List.length_append, List.length_cons, List.length_nil]; omega
theorem pick (c : UInt8) : (if decide ((c.toNat : Int) = 34) then some true else some (decide ((c.toNat : Int) = 92))) = some (decide ((c.toNat : Int) = 34) || decide ((c.toNat : Int) = 92)) := by
  by_cases h : (c.toNat : Int) = 34
  · simp [h]
  · simp [h]
theorem fquote_L0 : ∀ (s : Str) (i : Nat) (y : Str), y.length + 2 * s.length ≤ 1000000000 → syntax_Quote_L0 s i y = some (y ++ s.flatMap esc)
  | [], i, y, _ => by simp [syntax_Quote_L0]
  | c :: s, i, y, h => by
    simp only [List.length_cons] at h
    have hc := esc_len c
    have ih := fquote_L0 s (i + 1) (y ++ esc c) (by simp only [List.length_append]; omega)
    rw [List.flatMap_cons, ← List.append_assoc, ← ih, syntax_Quote_L0, pick, Option.bind_some]
    by_cases k : (decide ((c.toNat : Int) = 34) || decide ((c.toNat : Int) = 92)) = true
    · rw [if_pos k, chk_bind (by simp only [lim, List.length_cons, List.length_nil]; omega), chk_bind (by simp only [lim, List.length_append, List.length_cons, List.length_nil]; omega), show esc c = [92] ++ [c] from by unfold esc; rw [if_pos k]; rfl, List.append_assoc]
    · rw [if_neg k, chk_bind (by simp only [lim, List.length_cons, List.length_nil]; omega), show esc c = [c] from by unfold esc; rw [if_neg k]]
theorem sub_one {s r : Str} {i : Nat} {c : UInt8} (h : s.drop i = c :: r) : s.drop (i + 1) = r ∧ i < s.length ∧ subL s (i : Int) ((i : Int) + 1) = [c] := by
  have hi : i < s.length := by
    rcases Nat.lt_or_ge i s.length with q | q
    · exact q
    · rw [List.drop_eq_nil_of_le q] at h; cases h
  rw [List.drop_eq_getElem_cons hi] at h
  injection h with h1 h2
  refine ⟨h2, hi, ?_⟩
  unfold subL
  rw [show ((i : Int)).toNat = i from by omega, show ((i : Int) + 1 - (i : Int)).toNat = 1 from by omega, List.drop_eq_getElem_cons hi, h1]
  rfl
def good (c : UInt8) : Prop := ¬ c.toNat < 32 ∧ c.toNat ≠ 127
theorem el_go {ρ σ γ : Type} {y : σ} {f : ρ → Option γ} {g : σ → Option γ} : (Fl.go y : Fl ρ σ).el f g = g y := rfl
theorem fclean_L0 : ∀ (s : Str) (i : Nat), (∀ c ∈ s, good c) → syntax_clean_L0 s i = some (Fl.go ())
  | [], i, _ => rfl
  | c :: s, i, h => by
    have hc := h c (by simp)
    unfold good at hc
    rw [syntax_clean_L0]
    unfold syntax_control
    rw [Option.bind_some, if_neg (by simp <;> omega)]
    exact fclean_L0 s (i + 1) fun x hx => h x (by simp [hx])
theorem fquote {s : Str} (h : s.length ≤ 100000000) (hg : ∀ c ∈ s, good c) : syntax_Quote s = some (quo s, none) := by
  have hf := fm_len s
  unfold syntax_Quote syntax_clean
  rw [chk_bind (by simp only [szMax]; omega), fclean_L0 s 0 hg, Option.bind_some, el_go, Option.bind_some, if_neg (by simp), chk_bind (by simp only [szMax]; omega), fquote_L0 s 0 [34] (by simp <;> omega), Option.bind_some,
    chk_bind (by simp only [lim, List.length_append, List.length_cons, List.length_nil]; omega)]
  rfl
theorem cl_good (c : UInt8) : good (cl c) := by
  unfold cl good; split
  · decide
  · rename_i h; simp at h; omega
theorem fold_good : ∀ (s : Str) (y : Str) (b : Bool), (∀ c ∈ y, good c) → ∀ c ∈ (s.foldl nst (y, b)).1, good c
  | [], y, b, h => h
  | c :: s, y, b, h => by
    rw [List.foldl_cons]
    unfold nst
    split
    · exact fold_good s y true h
    · refine fold_good s _ false fun x hx => ?_
      rcases List.mem_append.1 hx with hx | hx
      · unfold rel at hx
        split at hx
        · rcases List.mem_append.1 hx with hx | hx
          · exact h x hx
          · simp at hx; subst hx; unfold good; decide
        · exact h x hx
      · simp at hx; subst hx; exact cl_good c
theorem norm_good (s : Str) : ∀ c ∈ norm s, good c := fold_good s [] false fun c h => by cases h
theorem jt_good : ∀ (l : List Str), ∀ c ∈ jt [44] (l.map norm), good c
  | [], c, h => by cases h
  | x :: l, c, h => by
    rw [List.map_cons, jt_cons] at h
    rcases List.mem_append.1 h with h | h
    · rcases List.mem_append.1 h with h | h
      · simp at h; subst h; unfold good; decide
      · exact norm_good x c h
    · exact jt_good l c h
theorem jn_good (l : List Str) : ∀ c ∈ jn (l.map norm) [44], good c := fun c h => by
  cases l with
  | nil => cases h
  | cons x l =>
    rw [List.map_cons, jn_cons] at h
    rcases List.mem_append.1 h with h | h
    · exact norm_good x c h
    · exact jt_good l c h

/-! ### values and keys -/
theorem val_tail {n : Nat} (hn : 2 ≤ n) : ∀ (l : List Str) (i : Nat) (y : Str), 0 < i → y.length + 2 * sumL l ≤ 1000000 → ref16_Value_L0 n l i y = some (y ++ jt [44] (l.map norm))
  | [], i, y, _, _ => by simp [ref16_Value_L0, jt_nil]
  | x :: l, i, y, hi, h => by
    rw [sumL_cons] at h
    have hx := norm_len x
    have ih := val_tail hn l (i + 1) (y ++ [44] ++ norm x) (by omega) (by simp only [List.length_append, List.length_cons, List.length_nil]; omega)
    rw [List.map_cons, jt_cons, ref16_Value_L0, if_pos (by simp <;> omega), chk_bind (by simp only [lim, List.length_cons, List.length_nil]; omega), rnorm (by omega) hn, Option.bind_some,
      chk_bind (by simp only [lim, List.length_append, List.length_cons, List.length_nil]; omega), ih]
    simp only [List.append_assoc]
theorem rvalue {n : Nat} (hn : 2 ≤ n) {f : List RF} {m : Str} (h : tot f ≤ 100000) (hm : m.length ≤ 100000) : ref16_Value n f m = some (jn ((vals f m).map norm) [44], decide (((vals f m).length : Int) > 0)) := by
  have h1 := sumL_vals m f; have h2 := sumL_len (vals f m)
  unfold ref16_Value
  rw [rall (by omega) (by omega), Option.bind_some, chk_bind (by simp only [szMax]; omega)]
  cases hv : vals f m with
  | nil => rfl
  | cons x l =>
    rw [hv, sumL_cons] at h1
    have hx := norm_len x
    rw [ref16_Value_L0, if_neg (by simp), rnorm (by omega) hn, Option.bind_some, chk_bind (by simp only [lim, List.length_nil]; omega), List.nil_append, val_tail hn l 1 (norm x) (by omega) (by omega), Option.bind_some, List.map_cons, jn_cons]
def item (f : List RF) (m : Str) : Str := if vals f m = [] then m else m ++ [61] ++ quo (jn ((vals f m).map norm) [44])
def key (names : List Str) (f : List RF) : Str := jn (names.map (item f)) [38]
theorem vj_len (f : List RF) (m : Str) : (jn ((vals f m).map norm) [44]).length ≤ 2 * tot f := by
  have h1 := sumL_vals m f; have h2 := sumL_norm (vals f m); have h3 := jn_len 44 ((vals f m).map norm)
  omega
theorem item_len (f : List RF) (m : Str) : (item f m).length ≤ m.length + 4 * tot f + 3 := by
  have h1 := vj_len f m; have h2 := quo_len (jn ((vals f m).map norm) [44])
  unfold item; split
  · omega
  · simp only [List.length_append, List.length_cons, List.length_nil]; omega
theorem sumL_item (f : List RF) : ∀ (l : List Str), sumL (l.map (item f)) ≤ sumL l + l.length * (4 * tot f + 3)
  | [] => Nat.zero_le _
  | x :: l => by
    have h1 := sumL_item f l; have h2 := item_len f x
    rw [List.map_cons, sumL_cons, sumL_cons, List.length_cons, Nat.add_mul]; omega
theorem key_len (names : List Str) (f : List RF) (hn : sumL names ≤ 1000) (hf : tot f ≤ 10000) : (key names f).length ≤ 50000000 := by
  have h1 := sumL_item f names; have h2 := jn_len 38 (names.map (item f)); have h3 := sumL_len names
  have h4 : names.length * (4 * tot f + 3) ≤ 1000 * 40003 := Nat.mul_le_mul (by omega) (by omega)
  unfold key; omega
theorem fkey_L2 : ∀ (r p : List Str), (∀ x ∈ r, x.length ≤ 1000000) → vary_Key_L2 r.length p.length (p ++ r) = some (p ++ r.map norm)
  | [], p, _ => by simp [vary_Key_L2]
  | c :: r, p, h => by
    rw [List.length_cons, vary_Key_L2, ix_mid, Option.bind_some, vnorm (h c (by simp)), Option.bind_some, Option.bind_some, set_mid]
    have ih := fkey_L2 r (p ++ [norm c]) fun x hx => h x (by simp [hx])
    simp only [List.length_append, List.length_cons, List.length_nil, Nat.zero_add] at ih
    rw [ih]; simp
theorem joinM_t {l : List Str} {sep : Str} (h1 : l.length ≤ 1000000) (h2 : (jn l sep).length ≤ 1000000000) : joinM l sep = some (jn l sep) := by
  unfold joinM; rw [if_pos ⟨by simp only [lim]; omega, by show (jn l sep).length ≤ _; simp only [lim]; omega⟩]
theorem fkey_L0 {f : List RF} (hf : tot f ≤ 10000) : ∀ (l : List Str) (i : Nat) (y : List Str), sumL l ≤ 1000 → y.length + l.length ≤ 1000 → vary_Key_L0 (ffs f) l i y = some (y ++ l.map (item f))
  | [], i, y, _, _ => by simp [vary_Key_L0]
  | m :: l, i, y, h, hy => by
    rw [sumL_cons] at h
    simp only [List.length_cons] at hy
    have ih := fkey_L0 hf l (i + 1) (y ++ [item f m]) (by omega) (by simp only [List.length_append, List.length_cons, List.length_nil]; omega)
    have e : y ++ (m :: l).map (item f) = y ++ [item f m] ++ l.map (item f) := by simp
    rw [e, ← ih, vary_Key_L0, fall (by omega) (by omega), Option.bind_some]
    have h1 := sumL_vals m f; have h2 := sumL_len (vals f m)
    by_cases k : vals f m = []
    · rw [if_pos (by simp [k]), chk_bind (by simp only [lim, List.length_cons, List.length_nil]; omega), show item f m = m from by unfold item; rw [if_pos k]]
    · have h3 := vj_len f m; have h4 := quo_len (jn ((vals f m).map norm) [44])
      rw [if_neg (by simp [k]), chk_bind (by constructor <;> omega)]
      have q := fkey_L2 (vals f m) [] fun x hx => by have := sumL_mem hx; omega
      rw [show (((vals f m).length : Int)).toNat = (vals f m).length from by omega]
      rw [show vary_Key_L2 (vals f m).length 0 (vals f m) = some ((vals f m).map norm) from q, Option.bind_some, joinM_t (by rw [List.length_map]; omega) (by omega), Option.bind_some, fquote (by omega) (jn_good _), Option.bind_some, if_neg (by simp),
        chk_bind (by simp only [lim, List.length_cons, List.length_nil]; omega), chk_bind (by simp only [lim, List.length_append, List.length_cons, List.length_nil]; omega), chk_bind (by simp only [lim, List.length_cons, List.length_nil]; omega)]
      rw [show item f m = m ++ [61] ++ quo (jn ((vals f m).map norm) [44]) from by unfold item; rw [if_neg k]]
theorem fkey {names : List Str} {f : List RF} (hn : sumL names ≤ 1000) (hf : tot f ≤ 10000) : vary_Key names (ffs f) = some (key names f) := by
  have h3 := sumL_len names
  unfold vary_Key
  rw [chk_bind (by simp only [szMax]; omega), fkey_L0 hf names 0 [] hn (by simp <;> omega), Option.bind_some, List.nil_append, joinM_t (by rw [List.length_map]; omega) (by have := key_len names f hn hf; unfold key at this; omega)]; rfl
theorem fields_L0 : ∀ (l : List RF) (i : Nat) (y : List FF), y.length + l.length ≤ 1073741824 → law02_Fields_L0 l i y = some (y ++ ffs l)
  | [], i, y, _ => by simp [law02_Fields_L0, ffs]
  | x :: l, i, y, h => by
    simp only [List.length_cons] at h
    have ih := fields_L0 l (i + 1) (y ++ [⟨x.Name, x.Value⟩]) (by simp only [List.length_append, List.length_cons, List.length_nil]; omega)
    rw [law02_Fields_L0, chk_bind (by simp only [lim, List.length_cons, List.length_nil]; omega), ih]
    simp [ffs]
theorem fields_eq {l : List RF} (h : l.length ≤ 536870912) : law02_Fields l = some (ffs l) := by
  unfold law02_Fields
  rw [chk_bind (by simp only [szMax]; omega), fields_L0 l 0 [] (by simp <;> omega)]; rfl
theorem awake5 : law16_awake 5 = some true := by decide +kernel

/-! ### what is large -/
theorem long_L0 : ∀ (l : List Str) (i : Nat) (y : Int), 0 ≤ y → y + l.length * 1073741824 ≤ 4611686018427387904 → (∀ x ∈ l, x.length ≤ 536870912) → law16_long_L0 l i y = some (y + (sumL l : Int) - (l.length : Int))
  | [], i, y, _, _, _ => by simp [law16_long_L0, sumL_nil]
  | x :: l, i, y, h0, h1, h2 => by
    have hx := h2 x (by simp)
    rw [List.length_cons] at h1
    have ih := long_L0 l (i + 1) (y + (x.length : Int)) (by omega) (by omega) fun z hz => h2 z (by simp [hz])
    rw [law16_long_L0, chk_bind (by constructor <;> omega), ih, sumL_cons, List.length_cons]
    congr 1; omega
theorem long_eq {l : List Str} (h : l.length ≤ szUp) (h2 : ∀ x ∈ l, x.length ≤ szUp) : law16_long l = some (decide (sumL l > 500)) := by
  simp only [szUp] at h h2
  unfold law16_long
  rw [chk_bind (by simp only [szMax]; omega), long_L0 l 0 _ (by omega) (by omega) h2, Option.bind_some]
  congr 1
  apply decide_eq_decide.2
  omega
theorem large_L2 : ∀ (l : List RF) (i : Nat) (y : Int), 0 ≤ y → y + l.length * 2147483648 ≤ 4611686018427387904 → (∀ x ∈ l, S_ref02_Field.ok x) → law16_large_L2 l i y = some (y + (tot l : Int))
  | [], i, y, _, _, _ => by simp [law16_large_L2, tot]
  | x :: l, i, y, h0, h1, h2 => by
    have hx := h2 x (by simp)
    unfold S_ref02_Field.ok at hx
    simp only [szUp] at hx
    rw [List.length_cons] at h1
    have ih := large_L2 l (i + 1) (y + ((x.Name.length : Int) + x.Value.length + 2)) (by omega) (by omega) fun z hz => h2 z (by simp [hz])
    have w1 : IntKind.i64.wrap (2 + (x.Name.length : Int)) = 2 + (x.Name.length : Int) := Go.SL.wrap_in (k := .i64) (by simp only [InK]; omega)
    have w2 : IntKind.i64.wrap (2 + (x.Name.length : Int) + (x.Value.length : Int)) = 2 + (x.Name.length : Int) + (x.Value.length : Int) := Go.SL.wrap_in (k := .i64) (by simp only [InK]; omega)
    have w3 : IntKind.i64.wrap (y + (2 + (x.Name.length : Int) + (x.Value.length : Int))) = y + ((x.Name.length : Int) + x.Value.length + 2) := by rw [Go.SL.wrap_in (k := .i64) (by simp only [InK]; omega)]; omega
    rw [law16_large_L2, w1, w2, w3, ih, tot_cons]
    congr 1; omega
def okF (f : List RF) : Prop := f.length ≤ szUp ∧ ∀ x ∈ f, S_ref02_Field.ok x
theorem tot_ok {f : List RF} (h : okF f) : tot f ≤ f.length * 1073741832 := by
  have h2 := h.2
  have h1 := h.1
  clear h h1
  induction f with
  | nil => simp [tot]
  | cons x f ih =>
    have hx := h2 x (by simp)
    unfold S_ref02_Field.ok at hx
    simp only [szUp] at hx
    have := ih fun z hz => h2 z (by simp [hz])
    rw [tot_cons, List.length_cons]; omega
theorem large_eq {f : List RF} (h : okF f) : law16_large [f] = some (decide (tot f > 3000)) := by
  have h1 := h.1
  simp only [szUp] at h1
  unfold law16_large
  rw [chk_bind (by simp [szMax]), law16_large_L0, chk_bind (by simp only [szMax]; omega), large_L2 f 0 0 (by omega) (by omega) h.2, Option.bind_some, law16_large_L0, Option.bind_some]
  congr 1
  apply decide_eq_decide.2
  omega
end Vary
