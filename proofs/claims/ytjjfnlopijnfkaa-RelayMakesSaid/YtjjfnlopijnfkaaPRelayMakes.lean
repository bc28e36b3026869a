/- New returns the errors that the document says: plainly. -/
import Derived.Test.YtjjfnlopijnfkaaR
import Derived.Test.YtjjfnlopijnfkaaPlain
set_option linter.unusedVariables false
set_option linter.unusedSimpArgs false
open Go Go.SL Go.Proofs Pl
namespace Rl
abbrev Cf := S_ref40_Config
theorem clone_eq {l : List Str} (h : l.length ≤ lim) : slices_Clone_string l = some l := by
  unfold slices_Clone_string
  rw [chk_bind (by simpa using h)]; rfl
theorem compactM_t {l : List Str} (h : l.length ≤ lim) : compactM l = some (Go.Lib.compact l) := by unfold compactM; rw [if_pos h]
theorem index_L0 (v : Str) : ∀ (l : List Str) (i : Nat), ∃ j : Nat, slices_Index_string_L0 v l i = some (if v ∈ l then .ret (j : Int) else .go ())
  | [], i => ⟨0, by rw [slices_Index_string_L0]; rfl⟩
  | x :: l, i => by
    rw [slices_Index_string_L0]
    by_cases h : v = x
    · exact ⟨i, by simp [h]⟩
    · obtain ⟨j, e⟩ := index_L0 v l (i + 1)
      exact ⟨j, by simp only [h, decide_false, Bool.false_eq_true, if_false, e, List.mem_cons, false_or]⟩
theorem contains_eq {l : List Str} (v : Str) (h : l.length ≤ 100000) : slices_Contains_string l v = some (decide (v ∈ l)) := by
  unfold slices_Contains_string slices_Index_string
  obtain ⟨j, e⟩ := index_L0 v l 0
  rw [chk_bind (by simp only [szMax]; omega), e]
  by_cases hv : v ∈ l
  · simp [hv, Fl.el]
  · simp [hv, Fl.el]
/-! ### sorted, without neighbours alike -/
theorem nodup_of {l : List Str} (h : l.Pairwise (· ≤ ·)) (k : ∀ j, j < l.length → Go.Lib.keeps l.toArray j = true) : l.Nodup := by
  unfold List.Nodup
  rw [List.pairwise_iff_getElem] at h ⊢
  intro i j hi hj hij e
  have hk := k j hj
  simp only [Go.Lib.keeps, decide_eq_true_eq] at hk
  rcases hk with hk | hk
  · omega
  · have hj1 : j - 1 < l.length := by omega
    apply hk
    have e1 : l.toArray[j]! = l[j] := by simp [hj]
    have e2 : l.toArray[j - 1]! = l[j - 1] := by simp [hj1]
    rw [e1, e2]
    have a1 : l[i] ≤ l[j - 1] := by
      by_cases hq : i = j - 1
      · subst hq; exact le_rfl'
      · exact h i (j - 1) hi hj1 (by omega)
    have a2 : l[j - 1] ≤ l[j] := h (j - 1) j hj1 hj (by omega)
    rw [← e] at a2 ⊢
    exact List.le_antisymm a1 a2
theorem keeps_of {l : List Str} (h : l.Nodup) (j : Nat) (hj : j < l.length) : Go.Lib.keeps l.toArray j = true := by
  simp only [Go.Lib.keeps, decide_eq_true_eq]
  by_cases h0 : j = 0
  · exact .inl h0
  · right
    have hj1 : j - 1 < l.length := by omega
    have e1 : l.toArray[j]! = l[j] := by simp [hj]
    have e2 : l.toArray[j - 1]! = l[j - 1] := by simp [hj1]
    rw [e1, e2]
    unfold List.Nodup at h
    rw [List.pairwise_iff_getElem] at h
    exact (h (j - 1) j hj1 hj (by omega)).symm
theorem comp_len (l : List Str) : (Go.Lib.compact (sortS l)).length < l.length ↔ ¬ l.Nodup := by
  constructor
  · intro h hn
    rw [Go.Lib.compact_all _ (keeps_of (sortS_nodup hn)), sortS_len] at h
    omega
  · intro hn
    have h1 := Go.Lib.compact_length_le (sortS l)
    rw [sortS_len] at h1
    rcases Nat.lt_or_ge (Go.Lib.compact (sortS l)).length l.length with h | h
    · exact h
    · refine absurd ?_ hn
      have he : (Go.Lib.compact (sortS l)).length = l.length := by omega
      unfold Go.Lib.compact Go.Lib.compactUpTo at he
      rw [List.length_map] at he
      have h2 : ((List.range (sortS l).length).filter (Go.Lib.keeps (sortS l).toArray)).length = (List.range (sortS l).length).length := by rw [he, List.length_range, sortS_len]
      have h3 := List.length_filter_eq_length_iff.1 h2
      exact (sortS_perm l).nodup_iff.1 (nodup_of (sortS_le l) fun j hj => h3 j (List.mem_range.2 hj))
/-! ### the document's code -/
def P (c : Cf) : List Str := ([c.Name] ++ c.Children) ++ [c.Parent]
theorem ix_nat {l : List Str} {i : Nat} (h : i < l.length) : ix l (i : Int) = some l[i] := by
  unfold ix; rw [if_pos (Int.natCast_nonneg i)]; simp [h]
theorem code_L2 (c : Cf) (y : Nat) (hy : y < (P c).length) (hl : (P c).length ≤ 1000) : ∀ (f k : Nat), y < k + f → k ≤ y →
    ((∀ j (h : j < y), k ≤ j → (P c)[j] ≠ (P c)[y]) → ref40_Code_L2 (y : Int) c f (k : Int) = some (.go (y : Int))) ∧
    ((∃ j, ∃ h : j < y, k ≤ j ∧ (P c)[j] = (P c)[y]) → ref40_Code_L2 (y : Int) c f (k : Int) = some (.ret 8))
  | 0, k, hf, hk => by omega
  | f + 1, k, hf, hk => by
    rw [ref40_Code_L2]
    by_cases e : k = y
    · subst e
      rw [if_neg (by simp)]
      exact ⟨fun _ => rfl, fun ⟨j, h, a, _⟩ => by omega⟩
    · have hky : k < y := by omega
      rw [if_pos (by simp only [decide_eq_true_eq]; omega)]
      have e1 : ix (([c.Name] ++ c.Children) ++ [c.Parent]) (k : Int) = some (P c)[k] := ix_nat (l := P c) (by omega)
      have e2 : ix (([c.Name] ++ c.Children) ++ [c.Parent]) (y : Int) = some (P c)[y] := ix_nat (l := P c) hy
      rw [e1, Option.bind_some, e2, Option.bind_some]
      by_cases d : (P c)[k] = (P c)[y]
      · rw [if_pos (by simpa using d)]
        exact ⟨fun h => absurd d (h k hky (Nat.le_refl _)), fun _ => rfl⟩
      · rw [if_neg (by simpa using d), chk_bind (by constructor <;> omega), show ((k : Int) + 1) = ((k + 1 : Nat) : Int) from by omega]
        obtain ⟨a, b⟩ := code_L2 c y hy hl f (k + 1) (by omega) (by omega)
        refine ⟨fun h => a fun j hj hk => h j hj (by omega), fun ⟨j, hj, hk, q⟩ => b ⟨j, hj, ?_, q⟩⟩
        have : j ≠ k := fun e => by subst e; exact d q
        omega
theorem code_L0 (c : Cf) (n : Nat) (hl : (P c).length ≤ 1000) (hn : (P c).length < n) : ∀ (f y : Nat), (P c).length < y + f → y ≤ (P c).length →
    ((∀ i (h : i < (P c).length), y ≤ i → (∀ j (h' : j < i), (P c)[j] ≠ (P c)[i]) ∧ (P c)[i] ≠ []) → ref40_Code_L0 c n f (y : Int) = some (.go ((P c).length : Int))) ∧
    ((∃ i, ∃ h : i < (P c).length, y ≤ i ∧ ((∃ j, ∃ h' : j < i, (P c)[j] = (P c)[i]) ∨ (P c)[i] = [])) → ref40_Code_L0 c n f (y : Int) = some (.ret 8))
  | 0, y, hf, hy => by omega
  | f + 1, y, hf, hy => by
    rw [ref40_Code_L0]
    have el : ((([c.Name] ++ c.Children) ++ [c.Parent]).length : Int) = ((P c).length : Int) := rfl
    rw [el]
    by_cases e : y = (P c).length
    · subst e
      rw [if_neg (by simp)]
      exact ⟨fun _ => rfl, fun ⟨i, h, a, _⟩ => by omega⟩
    · have hyl : y < (P c).length := by omega
      rw [if_pos (by simp only [decide_eq_true_eq]; omega)]
      obtain ⟨a, b⟩ := code_L2 c y hyl hl n 0 (by omega) (by omega)
      simp only [Int.natCast_zero] at a b
      by_cases d : ∃ j, ∃ h : j < y, (P c)[j] = (P c)[y]
      · obtain ⟨j, h, d⟩ := d
        rw [b ⟨j, h, by omega, d⟩]
        exact ⟨fun q => absurd d ((q y hyl (Nat.le_refl _)).1 j h), fun _ => rfl⟩
      · have a := a fun j h _ q => d ⟨j, h, q⟩
        rw [a]
        simp only [Option.bind_some, Fl.el]
        have e2 : ix (([c.Name] ++ c.Children) ++ [c.Parent]) (y : Int) = some (P c)[y] := ix_nat (l := P c) hyl
        rw [e2, Option.bind_some]
        by_cases z : (P c)[y] = []
        · rw [if_pos (by simpa using z)]
          exact ⟨fun q => absurd z (q y hyl (Nat.le_refl _)).2, fun _ => rfl⟩
        · rw [if_neg (by simpa using z), chk_bind (by constructor <;> omega), show ((y : Int) + 1) = ((y + 1 : Nat) : Int) from by omega]
          obtain ⟨a', b'⟩ := code_L0 c n hl hn f (y + 1) (by omega) (by omega)
          refine ⟨fun q => a' fun i h hi => q i h (by omega), fun ⟨i, h, hi, q⟩ => b' ⟨i, h, ?_, q⟩⟩
          have : i ≠ y := fun e => by
            subst e
            rcases q with ⟨j, h', q⟩ | q
            · exact d ⟨j, h', q⟩
            · exact z q
          omega
theorem good_iff (l : List Str) : (∀ i (h : i < l.length), 0 ≤ i → (∀ j (h' : j < i), l[j] ≠ l[i]) ∧ l[i] ≠ []) ↔ l.Nodup ∧ [] ∉ l := by
  constructor
  · intro h
    refine ⟨?_, fun hm => ?_⟩
    · unfold List.Nodup
      rw [List.pairwise_iff_getElem]
      intro i j hi hj hij
      exact (h j hj (Nat.zero_le _)).1 i hij
    · obtain ⟨i, hi, e⟩ := List.mem_iff_getElem.1 hm
      exact (h i hi (Nat.zero_le _)).2 e
  · rintro ⟨h1, h2⟩ i hi _
    unfold List.Nodup at h1
    rw [List.pairwise_iff_getElem] at h1
    exact ⟨fun j hj => h1 j i (by omega) hi hj, fun e => h2 (e ▸ List.getElem_mem hi)⟩
def R (c : Cf) : Bool := ((decide (c.Length < 4) || decide (c.Length > 1073741824)) || decide (c.Window < 1)) || decide (c.Window > 1024)
theorem code_eq (c : Cf) (n : Nat) (hl : c.Children.length ≤ 200) (hn : 300 ≤ n) : ref40_Code n c false = some (if (P c).Nodup ∧ [] ∉ P c ∧ c.Children.length ≤ 64 then (if R c then 1 else 0) else 8) := by
  have hP : (P c).length = c.Children.length + 2 := by simp [P]
  unfold ref40_Code
  rw [chk_bind (by simp only [List.length_cons, List.length_nil, lim]; omega), if_pos (by decide), chk_bind (by simp only [List.length_append, List.length_cons, List.length_nil, lim]; omega)]
  obtain ⟨a, b⟩ := code_L0 c n (by omega) (by omega) n 0 (by omega) (by omega)
  simp only [Int.natCast_zero] at a b
  by_cases h : (P c).Nodup ∧ [] ∉ P c
  · rw [a ((good_iff (P c)).2 h)]
    simp only [Option.bind_some, Fl.el]
    by_cases h64 : c.Children.length ≤ 64
    · rw [if_neg (by simp only [decide_eq_true_eq]; omega), if_pos (c := (P c).Nodup ∧ [] ∉ P c ∧ c.Children.length ≤ 64) ⟨h.1, h.2, h64⟩]
      unfold R
      split <;> rfl
    · rw [if_pos (by simp only [decide_eq_true_eq]; omega), if_neg (c := (P c).Nodup ∧ [] ∉ P c ∧ c.Children.length ≤ 64) (fun q => h64 q.2.2)]
  · have hb : ∃ i, ∃ h : i < (P c).length, 0 ≤ i ∧ ((∃ j, ∃ h' : j < i, (P c)[j] = (P c)[i]) ∨ (P c)[i] = []) := by
      refine Classical.byContradiction fun q => h ((good_iff (P c)).1 fun i hi _ => ⟨fun j hj e => q ⟨i, hi, Nat.zero_le _, .inl ⟨j, hj, e⟩⟩, fun e => q ⟨i, hi, Nat.zero_le _, .inr e⟩⟩)
    rw [b hb, if_neg (c := (P c).Nodup ∧ [] ∉ P c ∧ c.Children.length ≤ 64) (fun q => h ⟨q.1, q.2.1⟩)]
    rfl
/-! ### the program's -/
def N (c : Cf) : List Str := [c.Name, c.Parent] ++ c.Children
theorem N_perm (c : Cf) : (N c).Perm (P c) := by
  have h : (c.Parent :: c.Children).Perm (c.Children ++ [c.Parent]) := List.perm_append_comm (l₁ := [c.Parent])
  exact h.cons c.Name
theorem new_eq (c : Cf) (hl : c.Children.length ≤ 200) : ∃ o, relay_New ⟨c.Name, c.Parent, c.Children, c.Length, c.Ppm, c.Window⟩ = some (if (P c).Nodup ∧ [] ∉ P c ∧ c.Children.length ≤ 64 then (if R c then (none, some 1) else (some o, none)) else (none, some 8)) ∧
    o = ⟨⟨c.Name, c.Parent, c.Children, c.Length, c.Ppm, c.Window⟩, ⟨c.Window, 0, 0, [], []⟩, ⟨c.Ppm, 0, 0, [], []⟩, ⟨c.Length, c.Ppm, 0, []⟩, List.replicate c.Children.length 0, 0, -1, -1, 0⟩ := by
  refine ⟨_, ?_, rfl⟩
  have hN : (N c).length = c.Children.length + 2 := by simp [N]
  unfold relay_New
  rw [chk_bind (by simp only [List.length_cons, List.length_nil, lim]; omega)]
  have e1 : slices_Clone_string ([c.Name, c.Parent] ++ c.Children) = some (N c) := clone_eq (by show (N c).length ≤ _; simp only [lim]; omega)
  have e2 : slices_Contains_string ([c.Name, c.Parent] ++ c.Children) ([] : Str) = some (decide ([] ∈ N c)) := contains_eq (l := N c) [] (by omega)
  have e3 : ([c.Name, c.Parent] ++ c.Children) = N c := rfl
  simp only [e1, e2, Option.bind_some]
  rw [sortSM_t (by simp only [lim]; omega), Option.bind_some]
  have e4 : (if decide ([] ∈ N c) = true then some true else (compactM (sortS (N c))).bind fun x25 => some (decide ((x25.length : Int) < (([c.Name, c.Parent] ++ c.Children).length : Int)))) = some (decide (¬((P c).Nodup ∧ [] ∉ P c))) := by
    rw [e3]
    by_cases hm : [] ∈ N c
    · rw [if_pos (by simpa using hm)]
      have : [] ∈ P c := (N_perm c).mem_iff.1 hm
      simp [this]
    · rw [if_neg (by simpa using hm), compactM_t (by rw [sortS_len]; simp only [lim]; omega), Option.bind_some]
      have hp : [] ∉ P c := fun q => hm ((N_perm c).mem_iff.2 q)
      have := comp_len (N c)
      congr 1
      rw [decide_eq_decide]
      rw [(N_perm c).nodup_iff] at this
      constructor
      · intro h q; exact this.1 (by omega) q.1
      · intro h
        have := this.2 (fun q => h ⟨q, hp⟩)
        omega
  rw [e4, Option.bind_some]
  by_cases h : (P c).Nodup ∧ [] ∉ P c
  · by_cases h64 : c.Children.length ≤ 64
    · rw [if_neg (by simp [h]; omega), if_pos (c := (P c).Nodup ∧ [] ∉ P c ∧ c.Children.length ≤ 64) ⟨h.1, h.2, h64⟩]
      by_cases hr : R c = true
      · rw [if_pos hr]
        unfold R at hr
        rw [if_pos hr]
      · rw [if_neg hr]
        unfold R at hr
        rw [if_neg hr]
        simp only [Bool.or_eq_true, decide_eq_true_eq, not_or] at hr
        obtain ⟨⟨⟨r1, r2⟩, r3⟩, r4⟩ := hr
        rw [clone_eq (by simp only [lim]; omega), Option.bind_some]
        unfold gate_New lease_NewIssuer lease_NewHolder
        rw [if_neg (by simp only [Bool.or_eq_true, decide_eq_true_eq, not_or]; omega), Option.bind_some]
        simp only [Option.elim, Option.isSome_none, Bool.false_eq_true, if_false]
        rw [if_neg (by simp only [Bool.or_eq_true, decide_eq_true_eq, not_or]; omega), Option.bind_some]
        simp only [Option.elim, Option.isSome_none, Bool.false_eq_true, if_false]
        rw [Option.bind_some, chk_bind (by simp only [lim]; omega)]
        rfl
    · rw [if_pos (by simp; omega), if_neg (c := (P c).Nodup ∧ [] ∉ P c ∧ c.Children.length ≤ 64) (fun q => h64 q.2.2)]
  · rw [if_pos (by simp [h]), if_neg (c := (P c).Nodup ∧ [] ∉ P c ∧ c.Children.length ≤ 64) (fun q => h ⟨q.1, q.2.1⟩)]
theorem awake_eq (n : Nat) : law40_awake n = some true := by
  unfold law40_awake
  obtain ⟨o, h, ho⟩ := new_eq (⟨[114], [112], [[97]], 1000, 0, 10⟩ : Cf) (by decide)
  rw [if_pos (by decide), if_neg (by decide)] at h
  have h : relay_New ⟨[114], [112], [[97]], 1000, 0, 10⟩ = some (some o, none) := h
  rw [h]
  subst ho
  rfl
end Rl
open Rl
theorem law40_RelayMakes_true (c : S_ref40_Config) (o0 : S_ref40_Config.ok c) : ∃ n, law40_RelayMakes n c = some true := by
  refine ⟨300, ?_⟩
  unfold law40_RelayMakes
  simp only [awake_eq, Option.bind_some]
  by_cases h : c.Children.length ≤ 200
  · rw [if_neg (by simp; omega)]
    unfold law40_Config
    rw [chk_bind (by simp only [List.length_nil, lim]; omega), Option.bind_some]
    obtain ⟨o, hn, _⟩ := new_eq c h
    simp only [List.nil_append]
    rw [hn, Option.bind_some, code_eq c 300 h (by decide)]
    split
    · split
      · rfl
      · rfl
    · rfl
  · rw [if_pos (by simp; omega)]
