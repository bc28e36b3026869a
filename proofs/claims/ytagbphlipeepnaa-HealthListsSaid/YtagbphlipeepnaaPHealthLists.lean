import Derived.Test.YtagbphlipeepnaaHealthU
import Derived.Test.YtagbphlipeepnaaR
set_option linter.unusedVariables false
open Go Go.SL Go.Proofs Health Pl
theorem lists_L2 {k : List Str} (hk : k.Pairwise (· < ·)) (hn : k.length ≤ 1000) : ∀ (l pre : List Str), k = pre ++ l → law32_HealthLists_L2 k l pre.length = some (.go ())
  | [], pre, h => by rw [law32_HealthLists_L2]
  | x :: l, pre, h => by
    have ih := lists_L2 hk hn l (pre ++ [x]) (by simp [h])
    rw [List.length_append] at ih
    have hlen : pre.length ≤ 1000 := by rw [h] at hn; simp at hn; omega
    rw [law32_HealthLists_L2]
    rcases List.eq_nil_or_concat pre with rfl | ⟨q, y, rfl⟩
    · simpa using ih
    · have hxy : y < x := by
        rw [h] at hk
        exact (List.pairwise_append.1 hk).2.2 y (by simp) x (by simp)
      have e1 : (((q ++ [y]).length : Nat) : Int) > 0 := by simp
      have e2 : ix k ((((q ++ [y]).length : Nat) : Int) - 1) = some y := by
        unfold ix
        have : (((((q ++ [y]).length : Nat) : Int) - 1)).toNat = q.length := by simp
        rw [if_pos (by simp), this, h]
        simp
      have hI : InI ((((q ++ [y]).length : Nat) : Int) - 1) := by simp at hlen ⊢; constructor <;> omega
      simp only [List.concat_eq_append] at ih hlen e1 e2 hI ⊢
      simp only [e1, decide_true, if_true, chk_t hI, e2, Option.bind_some, bl_t.2 hxy, Bool.not_true, Bool.false_eq_true, if_false]
      exact ih
theorem lists_L4 {c : Ck} (h : Nod c) (k i : Nat) (y : Int) (hy : 0 ≤ y ∧ y ≤ 1000) : law32_HealthLists_L4b c (ups c) (k + 1) i y = law32_HealthLists_L4b c (ups c) k (i + 1) (y + if nm5 (UInt8.ofNat i) ∈ ups c then 1 else 0) := by
  rw [law32_HealthLists_L4b]
  have hm := h.mem (nm5 (UInt8.ofNat i))
  have hI : InI (y + 1) := by constructor <;> omega
  simp only [name_eq, Option.bind_some, state_eq, drained_eq, h.has]
  by_cases h1 : (stat c (nm5 (UInt8.ofNat i))).state = 1
  · cases h2 : dr c (nm5 (UInt8.ofNat i))
    · have : nm5 (UInt8.ofNat i) ∈ ups c := hm.2 ⟨h1, h2⟩
      simp [h1, this, chk_t hI]
    · have : ¬ nm5 (UInt8.ofNat i) ∈ ups c := fun q => by have := (hm.1 q).2; rw [h2] at this; cases this
      simp [h1, this]
  · have : ¬ nm5 (UInt8.ofNat i) ∈ ups c := fun q => h1 (hm.1 q).1
    simp [h1, this]
theorem ups_count {c : Ck} (h : Nod c) : ((ups c).length : Int) = 0 + (if nm5 (UInt8.ofNat 0) ∈ ups c then 1 else 0) + (if nm5 (UInt8.ofNat 1) ∈ ups c then 1 else 0) + (if nm5 (UInt8.ofNat 2) ∈ ups c then 1 else 0) + (if nm5 (UInt8.ofNat 3) ∈ ups c then 1 else 0) + (if nm5 (UInt8.ofNat 4) ∈ ups c then 1 else 0) := by
  rw [(nodup_len (nodup_of_lt h.lt) (fun x hx => h.sub5 hx) names5_nd).length_eq, ← List.countP_eq_length_filter]
  show ((List.countP _ [nm5 (UInt8.ofNat 0), nm5 (UInt8.ofNat 1), nm5 (UInt8.ofNat 2), nm5 (UInt8.ofNat 3), nm5 (UInt8.ofNat 4)] : Nat) : Int) = _
  simp only [List.countP_cons, List.countP_nil, decide_eq_true_eq]
  split <;> split <;> split <;> split <;> split <;> simp
theorem lists_L0 : ∀ (l : List S_law32_Step) (i : Nat) {c : Ck}, Inv c → Nod c → ∃ c', law32_HealthLists_L0b l i c = some (.go c')
  | [], i, c, h, k => ⟨c, by rw [law32_HealthLists_L0b]⟩
  | s :: l, i, c, h, k => by
    obtain ⟨c', e⟩ := lists_L0 l (i + 1) (h.play s) (k.play s)
    have n := k.play s
    have hl := n.lenU
    refine ⟨c', ?_⟩
    have hL2 : law32_HealthLists_L2 (ups (playC c s)) (ups (playC c s)) 0 = some (.go ()) := lists_L2 n.lt (by omega) _ [] rfl
    rw [law32_HealthLists_L0b, play_eq h, Option.bind_some, n.up, Option.bind_some, chk_bind (by simp only [szMax]; omega), hL2]
    simp only [Option.bind_some, Fl.el]
    rw [chk_bind (by constructor <;> omega), show (5 : Int).toNat = 4 + 1 from rfl, lists_L4 n 4 0 0 (by omega), lists_L4 n 3 _ _ (by split <;> omega), lists_L4 n 2 _ _ (by split <;> split <;> omega), lists_L4 n 1 _ _ (by split <;> split <;> split <;> omega), lists_L4 n 0 _ _ (by split <;> split <;> split <;> split <;> omega)]
    rw [law32_HealthLists_L4b, ← ups_count n]
    simp only [Option.bind_some, Fl.el, ne_eq, not_true_eq_false, decide_false, Bool.false_eq_true, if_false]
    exact e
theorem law32_HealthLists_true (x : S_law32_Limits) (script : List S_law32_Step) (o0 : S_law32_Limits.ok x) (o1 : script.length ≤ szMax ∧ ∀ y0 ∈ script, S_law32_Step.ok y0) :
    law32_HealthLists x script = some true := by
  unfold law32_HealthLists
  by_cases hl : (script.length : Int) > 100
  · simp [hl]
  simp only [hl, decide_false, Bool.false_eq_true, if_false, awake_eq, Option.bind_some, Bool.not_true, made_eq, Option.elim, chk_t o1.1]
  obtain ⟨c, e⟩ := lists_L0 script 0 (inv_made x) (nod_made _ _)
  rw [e]; rfl
