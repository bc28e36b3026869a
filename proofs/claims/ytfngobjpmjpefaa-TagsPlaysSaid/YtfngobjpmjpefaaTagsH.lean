/- The index and the reference's index go together. -/
import Derived.Test.YtfngobjpmjpefaaTagsG
set_option linter.unusedVariables false
set_option linter.unusedSimpArgs false
open Go Go.SL Go.Proofs Pl
namespace Tags
theorem rput_L0 (l : List Str) (n : Nat) (r : List En) (hn : ∀ w ∈ l, w.length ≤ szMax ∧ w.length < n) (hl : l.length ≤ 16) : ∀ (q : List Str) (i m : Nat), l.drop i = q → i + q.length = l.length → q.length < m →
    ∃ y, ref35_Put_L0 l n r m (i : Int) = some (if q.all good then .go y else .ret (r, 2))
  | [], i, m + 1, hd, hi, hm => by
    simp only [List.length_nil, Nat.add_zero] at hi
    rw [ref35_Put_L0, if_neg (by simp; omega)]
    exact ⟨(i : Int), rfl⟩
  | w :: q, i, m + 1, hd, hi, hm => by
    obtain ⟨hix, hdr, hil⟩ := ix_drop hd
    simp only [List.length_cons] at hi hm
    have hw := hn w (List.mem_of_mem_drop (hd ▸ List.mem_cons_self ..))
    obtain ⟨y, ih⟩ := rput_L0 l n r hn hl q (i + 1) m hdr (by omega) (by omega)
    rw [ref35_Put_L0, if_pos (by simp; omega), hix, Option.bind_some, tag_eq hw.1 hw.2, Option.bind_some]
    refine ⟨y, ?_⟩
    cases h : good w
    · rw [if_pos (by simp)]; simp [h]
    · rw [if_neg (by simp), chk_bind (by constructor <;> omega), show ((i : Int) + 1) = ((i + 1 : Nat) : Int) from by omega, ih]
      simp [h]
def rputF (r : List En) (id : Str) (l : List Str) : List En × Int :=
  if 16 < l.length then (r, 5) else if l.all good then (rdel r id ++ [⟨id, Go.Lib.compact (sortS l)⟩], 0) else (r, 2)
theorem rdel_len (r : List En) (id : Str) : (rdel r id).length ≤ r.length := List.length_filter_le _ _
theorem rput_eq {r : List En} {n : Nat} (id : Str) {l : List Str} (hr : r.length ≤ 1000) (h2 : 2000 ≤ n) (hn : ∀ w ∈ l, w.length ≤ szMax ∧ w.length < n) : ref35_Put n r id l = some (rputF r id l) := by
  unfold ref35_Put rputF
  by_cases h : 16 < l.length
  · rw [if_pos (by simp; omega), if_pos h]
  · obtain ⟨y, e⟩ := rput_L0 l n r hn (by omega) l 0 n rfl (by simp) (by omega)
    simp only [Int.natCast_zero] at e
    rw [if_neg (by simp; omega), if_neg h, e, Option.bind_some]
    cases hg : l.all good
    · rfl
    · simp only [if_true]
      show ((ref35_Remove n r id).bind _) = _
      obtain ⟨out, e1, e2, e3⟩ := sorted_eq (l := l) (n := n) (by omega) (by omega)
      have ho : out = Go.Lib.compact (sortS l) := eq_lt e2 (comp_lt l) fun x => by rw [e3, mem_comp, mem_sortS]
      have := rdel_len r id
      rw [remove_eq id hr (by omega), Option.bind_some, e1, Option.bind_some, chk_bind (by simp only [List.length_cons, List.length_nil, lim]; omega), ho]
structure Rel (x : Ix) (r : List En) (k : Nat) : Prop where
  inv : Inv x k
  nd : (r.map (·.ID)).Nodup
  len : r.length ≤ k
  eq : ∀ id, mget x.entries id = rget r id
theorem Rel.up {x : Ix} {r : List En} {k : Nat} (h : Rel x r k) : Rel x r (k + 1) := ⟨⟨h.inv.nd, Nat.le_succ_of_le h.inv.len, h.inv.val⟩, h.nd, Nat.le_succ_of_le h.len, h.eq⟩
theorem rdel_nd {r : List En} (h : (r.map (·.ID)).Nodup) (id : Str) : ((rdel r id).map (·.ID)).Nodup := (List.Sublist.map _ List.filter_sublist).nodup h
theorem Rel.del {x : Ix} {r : List En} {k : Nat} (h : Rel x r k) (id : Str) : Rel ⟨mdel x.entries id⟩ (rdel r id) (k + 1) :=
  ⟨h.inv.del id, rdel_nd h.nd id, Nat.le_succ_of_le (Nat.le_trans (rdel_len r id) h.len), fun j => by
    show mget (mdel x.entries id) j = _
    rw [mget_mdel, rget_del, h.eq]⟩
theorem Rel.put {x : Ix} {r : List En} {k : Nat} (h : Rel x r k) (id : Str) (l : List Str) : Rel (putF x id l).2 (rputF r id l).1 (k + 1) ∧ base_Num (putF x id l).1 = some (rputF r id l).2 := by
  have hi := h.inv.put id l
  unfold putF rputF at *
  split
  · exact ⟨h.up, rfl⟩
  · rename_i h1
    rw [if_neg h1] at hi
    split
    · rename_i h2
      rw [if_pos h2] at hi
      refine ⟨⟨hi, ?_, ?_, fun j => ?_⟩, rfl⟩
      · rw [List.map_append]
        refine List.nodup_append.2 ⟨rdel_nd h.nd id, by simp, fun a ha b hb => ?_⟩
        simp only [List.map_cons, List.map_nil, List.mem_singleton] at hb; subst hb
        intro e; subst e
        rw [rget_mem, rget_del, if_pos rfl] at ha; cases ha
      · have := rdel_len r id
        have := h.len
        simp only [List.length_append, List.length_cons, List.length_nil]; omega
      · show mget (mset x.entries id _) j = _
        rw [mget_mset, rget_app, rget_del, h.eq]
        by_cases q : id = j
        · simp [q]
        · simp only [q, if_false]; cases rget r j <;> rfl
    · exact ⟨h.up, rfl⟩
theorem del_lt {x : Ix} {r : List En} {k : Nat} (h : Rel x r k) (id : Str) : (mget x.entries id).isSome = decide (((rdel r id).length : Int) < (r.length : Int)) := by
  rw [h.eq]
  have h1 : (rdel r id).length < r.length ↔ ∃ e ∈ r, e.ID = id := by
    unfold rdel
    rw [List.length_filter_lt_length_iff_exists]
    simp
  have h2 : (rget r id).isSome = true ↔ ∃ e ∈ r, e.ID = id := by rw [← rget_mem]; simp
  rw [Bool.eq_iff_iff, h2, ← h1]; simp
theorem ids_L0 (r : List En) (hr : r.length ≤ 1000) : ∀ (q : List En) (i m : Nat) (o : List Str), r.drop i = q → i + q.length = r.length → q.length < m → o.length ≤ i →
    ∃ y, ref35_IDs_L0 r m o (i : Int) = some (o ++ q.map (·.ID), y)
  | [], i, m + 1, o, hd, hi, hm, ho => by
    simp only [List.length_nil, Nat.add_zero] at hi
    rw [ref35_IDs_L0, if_neg (by simp; omega)]
    exact ⟨(i : Int), by simp⟩
  | e :: q, i, m + 1, o, hd, hi, hm, ho => by
    obtain ⟨hix, hdr, hil⟩ := ix_drop hd
    simp only [List.length_cons] at hi hm
    obtain ⟨y, ih⟩ := ids_L0 r hr q (i + 1) m (o ++ [e.ID]) hdr (by omega) (by omega) (by simp; omega)
    rw [ref35_IDs_L0, if_pos (by simp; omega), hix, Option.bind_some, chk_bind (by simp only [List.length_cons, List.length_nil, lim]; omega), chk_bind (by constructor <;> omega), show ((i : Int) + 1) = ((i + 1 : Nat) : Int) from by omega, ih]
    exact ⟨y, by simp⟩
theorem key_iff {x : Ix} {r : List En} {k : Nat} (h : Rel x r k) (id : Str) : id ∈ keys x.entries ↔ id ∈ r.map (·.ID) := by rw [mem_keys, rget_mem, h.eq]
theorem rids_eq {x : Ix} {r : List En} {k n : Nat} (h : Rel x r k) (hk : k ≤ 100) (hn : 2000 ≤ n) : ref35_IDs n r = some (sortS (keys x.entries)) := by
  have hl := h.len
  obtain ⟨y, e⟩ := ids_L0 r (by omega) r 0 n [] rfl (by simp) (by omega) (by simp)
  simp only [Int.natCast_zero, List.nil_append] at e
  obtain ⟨out, e1, e2, e3⟩ := sorted_eq (l := r.map (·.ID)) (n := n) (by simp; omega) (by simp; omega)
  have ho : out = sortS (keys x.entries) := eq_lt e2 (sortS_lt h.inv.nd) fun id => by rw [e3, mem_sortS, key_iff h]
  unfold ref35_IDs
  rw [e, Option.bind_some, e1, ho]; rfl
theorem rtags_L0 (r : List En) (id : Str) (hr : r.length ≤ 1000) : ∀ (q : List En) (i m : Nat), r.drop i = q → i + q.length = r.length → q.length < m →
    ∃ y, ref35_Tags_L0 r id m (i : Int) = some (match rget q id with | some v => .ret v | none => .go y)
  | [], i, m + 1, hd, hi, hm => by
    simp only [List.length_nil, Nat.add_zero] at hi
    rw [ref35_Tags_L0, if_neg (by simp; omega)]
    exact ⟨(i : Int), rfl⟩
  | e :: q, i, m + 1, hd, hi, hm => by
    obtain ⟨hix, hdr, hil⟩ := ix_drop hd
    simp only [List.length_cons] at hi hm
    obtain ⟨y, ih⟩ := rtags_L0 r id hr q (i + 1) m hdr (by omega) (by omega)
    refine ⟨y, ?_⟩
    rw [ref35_Tags_L0, if_pos (by simp; omega), hix, Option.bind_some, rget]
    by_cases h : e.ID = id
    · rw [if_pos (by simp [h]), if_pos h, Option.bind_some]
    · rw [if_neg (by simp [h]), if_neg h, chk_bind (by constructor <;> omega), show ((i : Int) + 1) = ((i + 1 : Nat) : Int) from by omega, ih]
theorem rtags_eq {r : List En} {n : Nat} (id : Str) (hr : r.length ≤ 1000) (hn : r.length < n) : ref35_Tags n r id = some ((rget r id).getD []) := by
  obtain ⟨y, e⟩ := rtags_L0 r id hr r 0 n rfl (by simp) hn
  simp only [Int.natCast_zero] at e
  unfold ref35_Tags
  rw [e, Option.bind_some]
  cases rget r id <;> rfl
theorem rfind_L0 {r : List En} {n : Nat} (tag : Str) (hr : r.length ≤ 1000) (hn : 2000 ≤ n) (hv : ∀ e ∈ r, e.Tags.length ≤ 16) : ∀ (q : List En) (i m : Nat) (o : List Str), r.drop i = q → i + q.length = r.length → q.length < m → o.length ≤ i →
    ∃ y, ref35_Find_L0 r n tag m o (i : Int) = some (o ++ (q.filter fun e => decide (tag ∈ e.Tags)).map (·.ID), y)
  | [], i, m + 1, o, hd, hi, hm, ho => by
    simp only [List.length_nil, Nat.add_zero] at hi
    rw [ref35_Find_L0, if_neg (by simp; omega)]
    exact ⟨(i : Int), by simp⟩
  | e :: q, i, m + 1, o, hd, hi, hm, ho => by
    obtain ⟨hix, hdr, hil⟩ := ix_drop hd
    simp only [List.length_cons] at hi hm
    have he := hv e (List.mem_of_mem_drop (hd ▸ List.mem_cons_self ..))
    have e1 : ((i : Int) + 1) = ((i + 1 : Nat) : Int) := by omega
    rw [ref35_Find_L0, if_pos (by simp; omega), hix, Option.bind_some, has_eq tag (by omega) (by omega), Option.bind_some]
    by_cases h : tag ∈ e.Tags
    · obtain ⟨y, ih⟩ := rfind_L0 tag hr hn hv q (i + 1) m (o ++ [e.ID]) hdr (by omega) (by omega) (by simp; omega)
      rw [if_pos (by simp [h]), Option.bind_some, chk_bind (by simp only [List.length_cons, List.length_nil, lim]; omega), chk_bind (by constructor <;> omega), e1, ih]
      exact ⟨y, by simp [h]⟩
    · obtain ⟨y, ih⟩ := rfind_L0 tag hr hn hv q (i + 1) m o hdr (by omega) (by omega) (by omega)
      rw [if_neg (by simp [h]), chk_bind (by constructor <;> omega), e1, ih]
      exact ⟨y, by simp [h]⟩
theorem rfind_eq {x : Ix} {r : List En} {k n : Nat} (h : Rel x r k) (hk : k ≤ 100) (hn : 2000 ≤ n) (tag : Str) : ref35_Find n r tag = some ((sortS (keys x.entries)).filter fun id => decide (tag ∈ (mget x.entries id).getD [])) := by
  have hl := h.len
  have hg : ∀ e ∈ r, mget x.entries e.ID = some e.Tags := fun e he => by rw [h.eq, rget_of h.nd he]
  obtain ⟨y, e⟩ := rfind_L0 tag (n := n) (by omega) hn (fun e he => h.inv.val _ (mget_mem (hg e he))) r 0 n [] rfl (by simp) (by omega) (by simp)
  simp only [Int.natCast_zero, List.nil_append] at e
  have hfl : ((r.filter fun e => decide (tag ∈ e.Tags)).map (·.ID)).length ≤ r.length := by rw [List.length_map]; exact List.length_filter_le _ _
  obtain ⟨out, e1, e2, e3⟩ := sorted_eq (l := (r.filter fun e : En => decide (tag ∈ e.Tags)).map (fun e : En => e.ID)) (n := n) (by omega) (by omega)
  have ho : out = (sortS (keys x.entries)).filter fun id => decide (tag ∈ (mget x.entries id).getD []) := eq_lt e2 ((sortS_lt h.inv.nd).sublist List.filter_sublist) fun id => by
    rw [e3, List.mem_filter, mem_sortS, key_iff h]
    constructor
    · intro q
      obtain ⟨a, ha, rfl⟩ := List.mem_map.1 q
      obtain ⟨h1, h2⟩ := List.mem_filter.1 ha
      exact ⟨List.mem_map_of_mem (f := (·.ID)) h1, by rw [hg a h1]; exact h2⟩
    · rintro ⟨h1, h2⟩
      obtain ⟨a, ha, rfl⟩ := List.mem_map.1 h1
      rw [hg a ha] at h2
      exact List.mem_map.2 ⟨a, List.mem_filter.2 ⟨ha, by simpa using h2⟩, rfl⟩
  unfold ref35_Find
  rw [e, Option.bind_some, e1, ho]; rfl
end Tags
