/- Plain facts about the mirrors of package vary: keys. -/
import Derived.Test.YtlpjmfojahofnaaG2
import Derived.Test.YtlpjmfojahofnaaPlain
set_option linter.unusedVariables false
set_option linter.unusedSimpArgs false
open Go Go.SL Go.Proofs Pl
namespace Vary
abbrev RF := S_ref02_Field
abbrev FF := S_field_Field

/-! ### lower case -/
def lowB (c : UInt8) : UInt8 := if (decide ((c.toNat : Int) ≥ 65) && decide ((c.toNat : Int) ≤ 90)) then c + 32 else c
def low (s : Str) : Str := s.map lowB
theorem ix_mid {α : Type} (p r : List α) (c : α) : ix (p ++ c :: r) (p.length : Int) = some c := by
  unfold ix
  rw [if_pos (by omega)]
  simp
theorem set_mid {α : Type} (p r : List α) (c v : α) : (p ++ c :: r).set (((p.length : Nat) : Int).toNat) v = (p ++ [v]) ++ r := by
  simp [List.set_append]
theorem flower_L0 : ∀ (r p : Str), field_lower_L0 r.length p.length (p ++ r) = some (p ++ low r)
  | [], p => by simp [field_lower_L0, low]
  | c :: r, p => by
    rw [List.length_cons, field_lower_L0, ix_mid, Option.bind_some]
    have ih := flower_L0 r (p ++ [lowB c])
    simp only [List.length_append, List.length_cons, List.length_nil, Nat.zero_add] at ih
    have e : p ++ low (c :: r) = p ++ [lowB c] ++ low r := by simp [low]
    split
    · rename_i h
      rw [Option.bind_some, set_mid, e]
      rw [show c + 32 = lowB c from by unfold lowB; rw [if_pos h]]
      exact ih
    · rename_i h
      rw [e, show p ++ c :: r = p ++ [lowB c] ++ r from by unfold lowB; rw [if_neg h]; simp]
      exact ih
theorem flower {s : Str} (h : s.length ≤ 1073741824) : field_lower s = some (low s) := by
  unfold field_lower
  rw [chk_bind (by simp only [lim]; omega), chk_bind (by constructor <;> omega)]
  have := flower_L0 s []
  simp only [List.nil_append, List.length_nil] at this
  rw [show ((s.length : Int)).toNat = s.length from by omega, this]; rfl
theorem rlower_L0 : ∀ (s : Str) (i : Nat) (y : Str), y.length + s.length ≤ 1073741824 → ref01_Lower_L0 s i y = some (y ++ low s)
  | [], i, y, h => by simp [ref01_Lower_L0, low]
  | c :: r, i, y, h => by
    simp only [List.length_cons] at h
    have ih := rlower_L0 r (i + 1) (y ++ [lowB c]) (by simp <;> omega)
    have e : y ++ low (c :: r) = y ++ [lowB c] ++ low r := by simp [low]
    rw [ref01_Lower_L0, e, ← ih]
    split
    · rename_i k
      rw [chk_bind (by simp only [lim, List.length_cons, List.length_nil]; omega)]
      rw [show c + 32 = lowB c from by unfold lowB; rw [if_pos k]]
    · rename_i k
      rw [chk_bind (by simp only [lim, List.length_cons, List.length_nil]; omega)]
      rw [show lowB c = c from by unfold lowB; rw [if_neg k]]
theorem rlower {s : Str} (h : s.length ≤ 536870912) : ref01_Lower s = some (low s) := by
  unfold ref01_Lower
  rw [chk_bind (by simp only [szMax]; omega), rlower_L0 s 0 [] (by simp <;> omega)]; rfl

/-! ### the values of a name -/
def ffs (f : List RF) : List FF := f.map fun x => ⟨x.Name, x.Value⟩
def vals (f : List RF) (n : Str) : List Str := (f.filter fun x => decide (low x.Name = low n)).map (·.Value)
def tot (f : List RF) : Nat := (f.map fun x => x.Name.length + x.Value.length + 2).sum
theorem tot_cons (x : RF) (f : List RF) : tot (x :: f) = x.Name.length + x.Value.length + 2 + tot f := by simp [tot]
theorem tot_len : ∀ (f : List RF), f.length ≤ tot f
  | [] => Nat.zero_le _
  | x :: f => by have := tot_len f; rw [tot_cons, List.length_cons]; omega
theorem tot_mem {f : List RF} {x : RF} (h : x ∈ f) : x.Name.length + x.Value.length + 2 ≤ tot f := by
  induction f with
  | nil => cases h
  | cons y f ih =>
    rw [tot_cons]
    rcases List.mem_cons.1 h with rfl | h
    · omega
    · have := ih h; omega
theorem vals_cons (x : RF) (f : List RF) (n : Str) : vals (x :: f) n = (if decide (low x.Name = low n) then [x.Value] else []) ++ vals f n := by
  unfold vals
  by_cases h : low x.Name = low n
  · simp [h]
  · simp [h]
theorem fall_L0 {n : Str} : ∀ (f : List RF) (i : Nat) (y : List Str), tot f ≤ 1000000 → y.length + f.length ≤ 1073741824 → field_All_L0 (low n) (ffs f) i y = some (y ++ vals f n)
  | [], i, y, _, _ => by simp [ffs, field_All_L0, vals]
  | x :: f, i, y, h, hy => by
    rw [tot_cons] at h
    simp only [List.length_cons] at hy
    have ih := fall_L0 (n := n) f (i + 1) (y ++ (if decide (low x.Name = low n) then [x.Value] else [])) (by omega) (by split <;> simp <;> omega)
    rw [List.append_assoc, ← vals_cons] at ih
    rw [← ih]
    show field_All_L0 (low n) (⟨x.Name, x.Value⟩ :: ffs f) i y = _
    rw [field_All_L0, flower (by show x.Name.length ≤ _; omega), Option.bind_some]
    by_cases k : low x.Name = low n
    · rw [if_pos (by simpa using k), if_pos (by simpa using k), chk_bind (by simp only [lim, List.length_cons, List.length_nil]; omega)]
    · rw [if_neg (by simpa using k), if_neg (by simpa using k), List.append_nil]
theorem fall {f : List RF} {n : Str} (h : tot f ≤ 1000000) (hn : n.length ≤ 1000000) : field_All (ffs f) n = some (vals f n) := by
  have := tot_len f
  unfold field_All
  rw [flower (by omega), Option.bind_some, chk_bind (by simp only [ffs, List.length_map, szMax]; omega), fall_L0 f 0 [] h (by simp <;> omega)]; rfl
theorem rall_L0 {n : Str} (hn : n.length ≤ 1000000) : ∀ (f : List RF) (i : Nat) (y : List Str), tot f ≤ 1000000 → y.length + f.length ≤ 1073741824 → ref02_All_L0 n f i y = some (y ++ vals f n)
  | [], i, y, _, _ => by simp [ref02_All_L0, vals]
  | x :: f, i, y, h, hy => by
    rw [tot_cons] at h
    simp only [List.length_cons] at hy
    have ih := rall_L0 hn f (i + 1) (y ++ (if decide (low x.Name = low n) then [x.Value] else [])) (by omega) (by split <;> simp <;> omega)
    rw [List.append_assoc, ← vals_cons] at ih
    rw [← ih, ref02_All_L0]
    unfold ref02_Of
    rw [rlower (by omega), Option.bind_some, rlower (by omega), Option.bind_some, Option.bind_some]
    by_cases k : low x.Name = low n
    · rw [if_pos (by simpa using k), if_pos (by simpa using k), chk_bind (by simp only [lim, List.length_cons, List.length_nil]; omega)]
    · rw [if_neg (by simpa using k), if_neg (by simpa using k), List.append_nil]
theorem rall {f : List RF} {n : Str} (h : tot f ≤ 1000000) (hn : n.length ≤ 1000000) : ref02_All f n = some (vals f n) := by
  have := tot_len f
  unfold ref02_All
  rw [chk_bind (by simp only [szMax]; omega), rall_L0 hn f 0 [] h (by simp <;> omega)]; rfl

/-! ### normal values -/
def isB (c : UInt8) : Bool := decide ((c.toNat : Int) = 32) || decide ((c.toNat : Int) = 9)
def cl (c : UInt8) : UInt8 := if (decide ((c.toNat : Int) < 32) || decide ((c.toNat : Int) = 127)) then 63 else c
def rel (y : Str) (b : Bool) : Str := if (b && decide ((y.length : Int) > 0)) then y ++ [32] else y
def nst (p : Str × Bool) (c : UInt8) : Str × Bool := if isB c then (p.1, true) else (rel p.1 p.2 ++ [cl c], false)
def norm (s : Str) : Str := (s.foldl nst ([], false)).1
theorem rel_len (y : Str) (b : Bool) : (rel y b).length ≤ y.length + 1 := by unfold rel; split <;> simp
theorem nst_len (p : Str × Bool) (c : UInt8) : (nst p c).1.length ≤ p.1.length + 2 := by
  unfold nst; split
  · simp
  · have := rel_len p.1 p.2
    simp only [List.length_append, List.length_cons, List.length_nil]; omega
theorem fold_len : ∀ (s : Str) (p : Str × Bool), (s.foldl nst p).1.length ≤ p.1.length + 2 * s.length
  | [], p => by simp
  | c :: s, p => by
    have h1 := fold_len s (nst p c); have h2 := nst_len p c
    simp only [List.foldl_cons, List.length_cons]; omega
theorem norm_len (s : Str) : (norm s).length ≤ 2 * s.length := by have := fold_len s ([], false); simp only [List.length_nil, Nat.zero_add] at this; exact this
theorem vnorm_L0 : ∀ (s : Str) (i : Nat) (y : Str) (b : Bool), y.length + 2 * s.length ≤ 1073741824 → vary_normal_L0 s i y b = some (s.foldl nst (y, b))
  | [], i, y, b, _ => rfl
  | c :: s, i, y, b, h => by
    simp only [List.length_cons] at h
    rw [vary_normal_L0, List.foldl_cons]
    by_cases hb : isB c = true
    · rw [if_pos (show (decide ((c.toNat : Int) = 32) || decide ((c.toNat : Int) = 9)) = true from hb), show nst (y, b) c = (y, true) from by unfold nst; rw [if_pos hb]]
      exact vnorm_L0 s (i + 1) y true (by omega)
    · rw [if_neg (show ¬ (decide ((c.toNat : Int) = 32) || decide ((c.toNat : Int) = 9)) = true from hb), show nst (y, b) c = (rel y b ++ [cl c], false) from by unfold nst; rw [if_neg hb]]
      have hr := rel_len y b
      have ih := vnorm_L0 s (i + 1) (rel y b ++ [cl c]) false (by simp only [List.length_append, List.length_cons, List.length_nil]; omega)
      rw [← ih]
      by_cases k : (b && decide ((y.length : Int) > 0)) = true
      · have e : rel y b = y ++ [32] := by unfold rel; rw [if_pos k]
        rw [if_pos k, chk_bind (by simp only [lim, List.length_cons, List.length_nil]; omega), e]
        by_cases q : (decide ((c.toNat : Int) < 32) || decide ((c.toNat : Int) = 127)) = true
        · rw [if_pos q, chk_bind (by simp only [lim, List.length_append, List.length_cons, List.length_nil]; omega), show cl c = 63 from by unfold cl; rw [if_pos q]]
        · rw [if_neg q, chk_bind (by simp only [lim, List.length_append, List.length_cons, List.length_nil]; omega), show cl c = c from by unfold cl; rw [if_neg q]]
      · have e : rel y b = y := by unfold rel; rw [if_neg k]
        rw [if_neg k, e]
        by_cases q : (decide ((c.toNat : Int) < 32) || decide ((c.toNat : Int) = 127)) = true
        · rw [if_pos q, chk_bind (by simp only [lim, List.length_append, List.length_cons, List.length_nil]; omega), show cl c = 63 from by unfold cl; rw [if_pos q]]
        · rw [if_neg q, chk_bind (by simp only [lim, List.length_append, List.length_cons, List.length_nil]; omega), show cl c = c from by unfold cl; rw [if_neg q]]
theorem vnorm {s : Str} (h : s.length ≤ 1000000) : vary_normal s = some (norm s) := by
  unfold vary_normal
  rw [chk_bind (by simp only [lim]; omega), chk_bind (by simp only [szMax]; omega), vnorm_L0 s 0 [] false (by simp <;> omega)]; rfl
structure Inv (y : Str) : Prop where
  hd : ∀ a r, y = a :: r → isB a = false
  lt : ∀ r z, y = r ++ [z] → isB z = false
theorem isB_f {c : UInt8} : isB c = false ↔ c.toNat ≠ 32 ∧ c.toNat ≠ 9 := by
  unfold isB
  simp only [Bool.or_eq_false_iff, decide_eq_false_iff_not]
  omega
theorem cl_nb {c : UInt8} (h : isB c = false) : isB (cl c) = false := by
  unfold cl; split
  · decide
  · exact h
theorem rel_cons {y : Str} {b : Bool} (h : y ≠ []) : ∃ r, rel y b = y ++ r := by
  unfold rel; split
  · exact ⟨_, rfl⟩
  · exact ⟨[], by simp⟩
theorem Inv.step {y : Str} {b : Bool} {c : UInt8} (h : Inv y) (hc : isB c = false) : Inv (rel y b ++ [cl c]) := by
  refine ⟨fun a r e => ?_, fun r z e => ?_⟩
  · cases y with
    | nil =>
      have : rel [] b = [] := by unfold rel; simp
      rw [this] at e
      simp at e
      rw [← e.1]; exact cl_nb hc
    | cons x y =>
      obtain ⟨q, hq⟩ := rel_cons (y := x :: y) (b := b) (by simp)
      rw [hq] at e
      simp at e
      exact e.1 ▸ h.hd x y rfl
  · have := List.append_inj' e rfl
    simp at this
    rw [← this.2]; exact cl_nb hc
theorem Inv.nil : Inv [] := ⟨fun a r e => absurd e (by simp), fun r z e => absurd e (by simp)⟩
theorem Inv.fold : ∀ (s : Str) {y : Str} {b : Bool}, Inv y → Inv (s.foldl nst (y, b)).1
  | [], y, b, h => h
  | c :: s, y, b, h => by
    rw [List.foldl_cons]
    by_cases hb : isB c = true
    · rw [show nst (y, b) c = (y, true) from by unfold nst; rw [if_pos hb]]
      exact Inv.fold s h
    · rw [show nst (y, b) c = (rel y b ++ [cl c], false) from by unfold nst; rw [if_neg hb]]
      exact Inv.fold s (h.step (by simpa using hb))
theorem last_cases (y : Str) : y = [] ∨ ∃ r z, y = r ++ [z] := by
  rcases Classical.em (y = []) with h | h
  · exact .inl h
  · exact .inr ⟨y.dropLast, y.getLast h, (List.dropLast_concat_getLast h).symm⟩
theorem ix_last (r : Str) (z : UInt8) : ix (r ++ [z]) (((r ++ [z]).length : Int) - 1) = some z := by
  have : (((r ++ [z]).length : Int) - 1) = (r.length : Int) := by simp
  rw [this, ix_mid]
theorem blank_eq {y : Str} {b : Bool} (h : Inv y) (hl : y.length ≤ 1073741824) :
    (if decide (rel y b = ([] : Str)) then some true else (chk (InI (((rel y b).length : Int) - 1))).bind fun _ => (ix (rel y b) (((rel y b).length : Int) - 1)).bind fun x32 => some (decide ((x32.toNat : Int) = 32))) = some (b || decide (y = [])) := by
  rcases last_cases y with rfl | ⟨r, z, rfl⟩
  · have : rel [] b = [] := by unfold rel; simp
    rw [this]; simp
  · have hz := isB_f.1 (h.lt r z rfl)
    have hr := rel_len (r ++ [z]) b
    obtain ⟨q, hq⟩ := rel_cons (y := r ++ [z]) (b := b) (by simp)
    rw [if_neg (by rw [hq]; simp), chk_bind (by constructor <;> omega)]
    cases b with
    | true =>
      have : rel (r ++ [z]) true = (r ++ [z]) ++ [32] := by unfold rel; rw [if_pos (by simp <;> omega)]
      rw [this, ix_last, Option.bind_some]
      first | done | rfl
    | false =>
      have : rel (r ++ [z]) false = r ++ [z] := by unfold rel; rw [if_neg (by simp)]
      rw [this, ix_last, Option.bind_some]
      have : (z.toNat : Int) ≠ 32 := by omega
      simp [this]
theorem rel_skip {y : Str} {b : Bool} (h : (b || decide (y = [])) = true) : rel y b = rel y true := by
  cases b with
  | true => rfl
  | false =>
    simp at h; subst h; rfl
theorem rel_more {y : Str} {b : Bool} (h : ¬ (b || decide (y = [])) = true) : rel y b ++ [32] = rel y true := by
  cases b with
  | true => simp at h
  | false =>
    simp at h
    have : 0 < y.length := List.length_pos_iff.2 h
    unfold rel
    rw [if_neg (by simp), if_pos (by simp <;> omega)]
theorem rnorm_L0 : ∀ (s : Str) (i : Nat) (y : Str) (b : Bool), Inv y → y.length + 2 * s.length ≤ 1000000000 → ref16_normal_L0 s i (rel y b) = some (rel (s.foldl nst (y, b)).1 (s.foldl nst (y, b)).2)
  | [], i, y, b, _, _ => rfl
  | c :: s, i, y, b, hi, h => by
    simp only [List.length_cons] at h
    have hr := rel_len y b
    rw [ref16_normal_L0, List.foldl_cons, blank_eq hi (by omega), Option.bind_some]
    by_cases hb : isB c = true
    · have e : nst (y, b) c = (y, true) := by unfold nst; rw [if_pos hb]
      have ih := rnorm_L0 s (i + 1) y true hi (by omega)
      rw [e, ← ih]
      by_cases h9 : (c.toNat : Int) = 9
      · rw [if_pos (by simpa using h9)]
        by_cases k : (b || decide (y = [])) = true
        · rw [if_pos k, rel_skip k]
        · rw [if_neg k, chk_bind (by simp only [lim, List.length_cons, List.length_nil]; omega), rel_more k]
      · have h32 : (c.toNat : Int) = 32 := by
          unfold isB at hb
          simp at hb; omega
        have hc : c = 32 := by
          have : c.toNat = 32 := by omega
          exact UInt8.toNat_inj.1 this
        rw [if_neg (by simpa using h9), if_neg (by simp <;> omega), if_pos (by simpa using h32), Option.bind_some]
        by_cases k : (b || decide (y = [])) = true
        · rw [if_pos k, rel_skip k]
        · rw [if_neg k, chk_bind (by simp only [lim, List.length_cons, List.length_nil]; omega), hc, rel_more k]
    · have hb' : isB c = false := by simpa using hb
      have e : nst (y, b) c = (rel y b ++ [cl c], false) := by unfold nst; rw [if_neg hb]
      have hn := isB_f.1 hb'
      have ih := rnorm_L0 s (i + 1) (rel y b ++ [cl c]) false (hi.step hb') (by simp only [List.length_append, List.length_cons, List.length_nil]; omega)
      rw [e, ← ih, if_neg (by simp <;> omega)]
      rw [show rel (rel y b ++ [cl c]) false = rel y b ++ [cl c] from by rw [rel.eq_def, if_neg (by simp)]]
      by_cases q : (decide ((c.toNat : Int) < 32) || decide ((c.toNat : Int) = 127)) = true
      · rw [if_pos q, chk_bind (by simp only [lim, List.length_cons, List.length_nil]; omega), show cl c = 63 from by unfold cl; rw [if_pos q]]
      · rw [if_neg q, if_neg (by simp <;> omega), chk_bind (by simp only [lim, List.length_cons, List.length_nil]; omega), show cl c = c from by unfold cl; rw [if_neg q]]
theorem trim0 {n : Nat} {t : Str} (h : ∀ a r, t = a :: r → isB a = false) : ref01_Trim_L0 (n + 1) t = some t := by
  rw [ref01_Trim_L0]
  cases t with
  | nil => rw [if_neg (by simp)]
  | cons a r =>
    have := isB_f.1 (h a r rfl)
    rw [if_pos (by simp <;> omega), show ix (a :: r) 0 = some a from rfl, Option.bind_some, if_neg (by simp <;> omega), Option.bind_some, Option.bind_some, if_neg (by simp <;> omega)]
theorem trim2 {n : Nat} {t : Str} (h : ∀ r z, t = r ++ [z] → isB z = false) (hl : t.length ≤ 1073741824) : ref01_Trim_L2 (n + 1) t = some t := by
  rw [ref01_Trim_L2]
  rcases last_cases t with rfl | ⟨r, z, rfl⟩
  · rw [if_neg (by simp)]
  · have := isB_f.1 (h r z rfl)
    rw [if_pos (by simp <;> omega), chk_bind (by constructor <;> omega), ix_last, Option.bind_some, if_neg (by simp <;> omega), chk_bind (by constructor <;> omega), Option.bind_some, Option.bind_some, if_neg (by simp <;> omega)]
theorem trim_rel {n : Nat} {y : Str} {b : Bool} (h : Inv y) (hl : y.length ≤ 1000000000) (hn : 2 ≤ n) : ref01_Trim n (rel y b) = some y := by
  obtain ⟨m, rfl⟩ : ∃ m, n = m + 2 := ⟨n - 2, by omega⟩
  have hr := rel_len y b
  unfold ref01_Trim
  rw [trim0 (fun a r e => ?_), Option.bind_some]
  · by_cases k : (b && decide ((y.length : Int) > 0)) = true
    · have e : rel y b = y ++ [32] := by unfold rel; rw [if_pos k]
      have hs : subL (y ++ [32]) (0 : Int) (((y ++ [(32 : UInt8)]).length : Int) - 1) = y := by
        unfold subL
        simp
      rw [e, ref01_Trim_L2, if_pos (by simp <;> omega), chk_bind (by simp only [List.length_append, List.length_cons, List.length_nil]; constructor <;> omega), ix_last, Option.bind_some, if_pos (by decide), Option.bind_some, if_pos rfl,
        chk_bind (by simp only [List.length_append, List.length_cons, List.length_nil]; constructor <;> omega), chk_bind (by simp only [List.length_append, List.length_cons, List.length_nil]; omega), hs, trim2 h.lt (by omega)]; rfl
    · have e : rel y b = y := by unfold rel; rw [if_neg k]
      rw [e, trim2 h.lt (by omega)]; rfl
  · cases y with
    | nil => unfold rel at e; simp at e
    | cons x y =>
      obtain ⟨q, hq⟩ := rel_cons (y := x :: y) (b := b) (by simp)
      rw [hq] at e
      simp at e
      exact e.1 ▸ h.hd x y rfl
theorem rnorm {n : Nat} {s : Str} (h : s.length ≤ 1000000) (hn : 2 ≤ n) : ref16_normal n s = some (norm s) := by
  have hl := fold_len s ([], false)
  simp only [List.length_nil, Nat.zero_add] at hl
  unfold ref16_normal
  rw [chk_bind (by simp only [szMax]; omega)]
  have := rnorm_L0 s 0 [] false Inv.nil (by simp <;> omega)
  rw [show rel [] false = [] from rfl] at this
  rw [this, Option.bind_some, trim_rel (Inv.fold s Inv.nil) (by omega) hn]; rfl
end Vary
