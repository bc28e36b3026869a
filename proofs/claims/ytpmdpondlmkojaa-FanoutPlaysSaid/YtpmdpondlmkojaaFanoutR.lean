/- The reference's stream: the readers as an ascending list. -/
import Derived.Test.YtpmdpondlmkojaaFanoutQ
set_option linter.unusedVariables false
set_option linter.unusedSimpArgs false
open Go Go.SL Go.Proofs Fanout Pl
namespace Fanout
abbrev Rd := S_ref28_Reader
def AscR (l : List Rd) : Prop := l.Pairwise fun a b => a.ID < b.ID
def getA (l : List Rd) (id : Int) : Option Int := (l.find? fun r => decide (r.ID = id)).map (·.At)
theorem place_L0 (s : S_ref28_Stream) (id : Int) : ∀ (rest pre : List Rd) (n : Nat), s.Readers = pre ++ rest → rest.length < n → s.Readers.length ≤ 1000 →
    ref28_place_L0 s id n (pre.length : Int) = some ((pre.length + (rest.takeWhile fun r => decide (r.ID < id)).length : Nat) : Int)
  | [], pre, n + 1, h, _, hl => by
    rw [ref28_place_L0, h]
    simp
  | r :: rest, pre, n + 1, h, hn, hl => by
    have hlen : pre.length < s.Readers.length := by rw [h]; simp
    have hix : ix s.Readers (pre.length : Int) = some r := by unfold ix; rw [if_pos (by omega), h]; simp
    have ih := place_L0 s id rest (pre ++ [r]) n (by simp [h]) (by simpa using hn) hl
    rw [ref28_place_L0]
    rw [if_pos (by simp; omega), hix]
    simp only [Option.bind_some]
    by_cases hr : r.ID < id
    · rw [if_pos (by simpa using hr), chk_bind (by constructor <;> omega)]
      have e : ((pre.length : Int) + 1) = (((pre ++ [r]).length : Nat) : Int) := by simp
      rw [e, ih]
      simp [hr]; omega
    · rw [if_neg (by simpa using hr)]
      simp [hr]
/-- The list around an id. -/
theorem around (id : Int) : ∀ (l : List Rd), AscR l → (∃ A B, l = A ++ B ∧ (∀ r ∈ A, r.ID < id) ∧ (∀ r ∈ B, id < r.ID) ∧ (l.takeWhile fun r => decide (r.ID < id)).length = A.length) ∨
    (∃ A r B, l = A ++ r :: B ∧ (∀ r ∈ A, r.ID < id) ∧ r.ID = id ∧ (∀ r ∈ B, id < r.ID) ∧ (l.takeWhile fun r => decide (r.ID < id)).length = A.length)
  | [], _ => .inl ⟨[], [], rfl, by simp, by simp, rfl⟩
  | x :: l, h => by
    have hx := List.pairwise_cons.1 h
    by_cases h1 : x.ID < id
    · rcases around id l hx.2 with ⟨A, B, e, hA, hB, ht⟩ | ⟨A, r, B, e, hA, hr, hB, ht⟩
      · exact .inl ⟨x :: A, B, by simp [e], fun r hr => by
          rcases List.mem_cons.1 hr with rfl | hr
          · exact h1
          · exact hA r hr, hB, by simp only [List.takeWhile_cons, h1, decide_true, if_true, List.length_cons]; rw [ht]⟩
      · exact .inr ⟨x :: A, r, B, by simp [e], fun r hr => by
          rcases List.mem_cons.1 hr with rfl | hr
          · exact h1
          · exact hA r hr, hr, hB, by simp only [List.takeWhile_cons, h1, decide_true, if_true, List.length_cons]; rw [ht]⟩
    · by_cases h2 : x.ID = id
      · exact .inr ⟨[], x, l, rfl, by simp, h2, fun r hr => by have := hx.1 r hr; omega, by simp [h1]⟩
      · exact .inl ⟨[], x :: l, rfl, by simp, fun r hr => by
          rcases List.mem_cons.1 hr with rfl | hr
          · omega
          · have := hx.1 r hr; omega, by simp [h1]⟩
theorem place_no {s : S_ref28_Stream} {id : Int} {n : Nat} {A B : List Rd} (h : s.Readers = A ++ B) (hB : ∀ r ∈ B, id < r.ID) (ht : (s.Readers.takeWhile fun r => decide (r.ID < id)).length = A.length) (hn : s.Readers.length < n) (hl : s.Readers.length ≤ 1000) :
    ref28_place n s id = some ((A.length : Int), false) := by
  have h0 := place_L0 s id s.Readers [] n rfl hn hl
  simp only [List.length_nil, Nat.zero_add, ht] at h0
  unfold ref28_place
  rw [show (0 : Int) = ((0 : Nat) : Int) from rfl, h0, Option.bind_some]
  by_cases hA : A.length < s.Readers.length
  · rw [if_pos (by simp; omega)]
    cases B with
    | nil => rw [h] at hA; simp at hA
    | cons b B =>
      have hix : ix s.Readers (A.length : Int) = some b := by unfold ix; rw [if_pos (by omega), h]; simp
      have := hB b (by simp)
      rw [hix]
      simp only [Option.bind_some]
      rw [decide_eq_false (by omega)]
  · rw [if_neg (by simp; omega)]; rfl
theorem place_yes {s : S_ref28_Stream} {id : Int} {n : Nat} {A B : List Rd} {r : Rd} (h : s.Readers = A ++ r :: B) (hr : r.ID = id) (ht : (s.Readers.takeWhile fun r => decide (r.ID < id)).length = A.length) (hn : s.Readers.length < n) (hl : s.Readers.length ≤ 1000) :
    ref28_place n s id = some ((A.length : Int), true) := by
  have h0 := place_L0 s id s.Readers [] n rfl hn hl
  simp only [List.length_nil, Nat.zero_add, ht] at h0
  unfold ref28_place
  have hA : A.length < s.Readers.length := by rw [h]; simp
  have hix : ix s.Readers (A.length : Int) = some r := by unfold ix; rw [if_pos (by omega), h]; simp
  rw [show (0 : Int) = ((0 : Nat) : Int) from rfl, h0, Option.bind_some, if_pos (by simp; omega), hix]
  simp [hr]
theorem getA_cons (r : Rd) (l : List Rd) (id : Int) : getA (r :: l) id = if r.ID = id then some r.At else getA l id := by
  unfold getA; by_cases h : r.ID = id <;> simp [h]
theorem getA_none {l : List Rd} {id : Int} (h : ∀ r ∈ l, r.ID ≠ id) : getA l id = none := by
  unfold getA
  rw [List.find?_eq_none.2 (fun r hr => by simpa using h r hr)]; rfl
theorem getA_append (l k : List Rd) (id : Int) : getA (l ++ k) id = (getA l id).or (getA k id) := by
  induction l with
  | nil => simp [getA]
  | cons r l ih => rw [List.cons_append, getA_cons, getA_cons, ih]; split <;> simp
theorem getA_mem {l : List Rd} (h : AscR l) (k v : Int) : getA l k = some v ↔ (⟨k, v⟩ : Rd) ∈ l := by
  induction l with
  | nil => simp [getA]
  | cons r l ih =>
    have hx := List.pairwise_cons.1 h
    rw [getA_cons, List.mem_cons]
    by_cases hr : r.ID = k
    · rw [if_pos hr]
      constructor
      · intro e; left; cases r; simp at hr e; subst hr e; rfl
      · rintro (e | e)
        · rw [← e]
        · have := hx.1 _ e; simp at this; omega
    · rw [if_neg hr, ih hx.2]
      constructor
      · exact .inr
      · rintro (e | e)
        · exact absurd (by rw [← e]) hr
        · exact e
/-- The program's stream and the reference's. -/
structure PR (m : Nat) (s : Fs) (r : S_ref28_Stream) : Prop where
  lim : s.limit = r.Limit
  l1 : r.Limit ≤ 65536
  st : s.state = r.State
  st3 : s.state = 1 ∨ s.state = 2 ∨ s.state = 3
  dat : s.data = r.Data
  len : (s.data.length : Int) ≤ s.limit
  nd : Nd s.offsets
  asc : AscR r.Readers
  get : ∀ k, mget s.offsets k = getA r.Readers k
  off : ∀ k v, mget s.offsets k = some v → 0 ≤ v ∧ v ≤ s.data.length
  cnt : r.Readers.length ≤ m
theorem nodup_of_nd {α β : Type} {m : List (α × β)} (h : (m.map (·.1)).Nodup) : m.Nodup := (List.pairwise_map.1 h).imp fun h e => h (by rw [e])
theorem PR.perm {m : Nat} {s : Fs} {r : S_ref28_Stream} (h : PR m s r) : s.offsets.Perm (r.Readers.map fun x => (x.ID, x.At)) := by
  refine (List.perm_ext_iff_of_nodup (nodup_of_nd h.nd) ?_).2 fun ⟨k, v⟩ => ?_
  · refine nodup_of_nd ?_
    rw [List.map_map]
    exact (List.pairwise_map.2 (h.asc.imp fun q => by simp only [Function.comp]; omega))
  · constructor
    · intro hm
      have := Pl.mget_of_mem h.nd hm
      rw [h.get, getA_mem h.asc] at this
      exact List.mem_map.2 ⟨_, this, rfl⟩
    · intro hm
      obtain ⟨x, hx, e⟩ := List.mem_map.1 hm
      cases e
      have := (getA_mem h.asc x.ID x.At).2 hx
      rw [← h.get] at this
      exact mget_mem this
theorem PR.olen {m : Nat} {s : Fs} {r : S_ref28_Stream} (h : PR m s r) : s.offsets.length ≤ m := by
  have := h.perm.length_eq; rw [List.length_map] at this; rw [this]; exact h.cnt
/-! ### what the end of a round compares -/
theorem ids_L0 : ∀ (l : List Rd) (i : Nat) (o : List Int), o.length + l.length ≤ 1000 → ref28_IDs_L0 l i o = some (o ++ l.map (·.ID))
  | [], i, o, _ => by rw [ref28_IDs_L0]; simp
  | r :: l, i, o, h => by
    simp only [List.length_cons] at h
    rw [ref28_IDs_L0, chk_bind (by simp only [List.length_cons, List.length_nil, Go.SL.lim]; omega), ids_L0 l (i + 1) _ (by simp; omega)]
    simp
theorem least_L0 : ∀ (l : List Rd) (i : Nat) (y : Int), ref28_Least_L0 l i y = some (l.foldl (fun a r => min a r.At) y)
  | [], i, y => by rw [ref28_Least_L0]; rfl
  | r :: l, i, y => by rw [ref28_Least_L0, least_L0 l]; rfl
theorem leastF : ∀ (l : List (Int × Int)) (y : Int), mfold (fun e0 ss0 => fanout_Stream_Least_L0 e0 ss0) l y = some (l.foldl (fun a e => min a e.2) y)
  | [], y => rfl
  | e :: l, y => by unfold mfold; rw [show fanout_Stream_Least_L0 e y = some (min y e.2) from rfl, Option.bind_some, leastF l]; rfl
theorem foldl_min_perm {l k : List (Int × Int)} (h : l.Perm k) : ∀ y, l.foldl (fun a e => min a e.2) y = k.foldl (fun a e => min a e.2) y := by
  induction h with
  | nil => exact fun _ => rfl
  | cons x _ ih => exact fun y => ih _
  | swap x z l => intro y; simp only [List.foldl_cons]; congr 1; omega
  | trans _ _ ih1 ih2 => exact fun y => (ih1 y).trans (ih2 y)
theorem ints_L0 (b : List Int) : ∀ (l pre : List Int), b = pre ++ l → base_Ints_L0 b l pre.length = some (.go ())
  | [], pre, h => by rw [base_Ints_L0]
  | x :: l, pre, h => by
    have ih := ints_L0 b l (pre ++ [x]) (by simp [h])
    rw [base_Ints_L0]
    have : ix b (pre.length : Int) = some x := by unfold ix; rw [if_pos (by omega), h]; simp
    rw [this]
    simpa using ih
theorem ints_eq {l : List Int} (h : l.length ≤ 1000) : base_Ints l l = some true := by
  unfold base_Ints
  rw [if_neg (by simp), chk_bind (by simp only [szMax]; omega)]
  have := ints_L0 l l [] rfl
  simp only [List.length_nil] at this
  rw [this]; rfl
theorem PR.ends {m : Nat} {s : Fs} {r : S_ref28_Stream} (h : PR m s r) (hm : m ≤ 1000) :
    fanout_Stream_Readers s = some (r.Readers.map (·.ID)) ∧ ref28_IDs r = some (r.Readers.map (·.ID)) ∧ base_Ints (r.Readers.map (·.ID)) (r.Readers.map (·.ID)) = some true ∧
    (∃ y, fanout_Stream_Least s = some y ∧ ref28_Least r = some y) ∧ fanout_Stream_Written s = some (r.Data.length : Int) := by
  have ho := h.olen
  have hc := h.cnt
  refine ⟨?_, ?_, ints_eq (by rw [List.length_map]; omega), ?_, ?_⟩
  · rw [readers_eq (by omega)]
    congr 1
    refine eq_ltI (sortI_lt h.nd) (List.pairwise_map.2 h.asc) fun x => ?_
    rw [mem_sortI]
    have := (h.perm.map (·.1)).mem_iff (a := x)
    rw [List.map_map] at this
    exact this
  · unfold ref28_IDs
    rw [chk_bind (by simp only [szMax]; omega), ids_L0 r.Readers 0 [] (by simp; omega)]; rfl
  · refine ⟨r.Readers.foldl (fun a x => min a x.At) (s.data.length : Int), ?_, ?_⟩
    · unfold fanout_Stream_Least
      refine perms_eq fun l hl => ?_
      rw [leastF, Option.bind_some, foldl_min_perm (hl.trans h.perm), List.foldl_map]
    · unfold ref28_Least
      rw [chk_bind (by simp only [szMax]; omega), least_L0, Option.bind_some, h.dat]
  · unfold fanout_Stream_Written; rw [h.dat]
end Fanout
