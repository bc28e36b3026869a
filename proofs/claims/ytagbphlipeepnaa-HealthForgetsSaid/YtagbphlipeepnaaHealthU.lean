/- What Up returns, and what is known of the nodes of checks in a history. -/
import Derived.Test.YtagbphlipeepnaaHealth
import Derived.Test.YtagbphlipeepnaaPlain
set_option linter.unusedVariables false
set_option linter.unusedSimpArgs false
open Go Go.SL Go.Proofs Pl
namespace Health
def dr (c : Ck) (k : Str) : Bool := (mget c.drained k).getD false
theorem drained_eq (c : Ck) (k : Str) : health_Checks_Drained c k = some (dr c k) := rfl
def up (c : Ck) (e : Str × S_health_status) : Bool := decide (e.2.state = 1) && !((mget c.drained e.1).getD false)
def ups (c : Ck) : List Str := sortS (keys (c.nodes.filter (up c)))
theorem up_eq {c : Ck} (h : c.nodes.length ≤ 1000) : health_Checks_Up c = some (ups c) := by
  unfold health_Checks_Up
  refine perms_eq fun l hl => ?_
  have hlen : l.length ≤ 1000 := by rw [hl.length_eq]; exact h
  rw [mfold_filter (up c) (·.1) c.nodes 2000 (fun e s he hs => ?_) l [] (fun e he => hl.mem_iff.1 he) (by simp; omega)]
  · have hf : (l.filter (up c)).length ≤ 1000 := Nat.le_trans (List.length_filter_le _ _) hlen
    simp only [Option.bind_some, List.nil_append]
    rw [sortSM_t (by simp only [List.length_map, lim]; omega)]
    simp only [Option.bind_some]
    rw [sortS_congr ((hl.filter _).map _)]; rfl
  · unfold health_Checks_Up_L0
    show (if up c e = true then _ else _) = _
    split
    · rw [chk_bind (by simp only [List.length_cons, List.length_nil, lim]; omega)]
    · rfl
def names5 : List Str := [[98], [97], [99], [], [115, 104, 105, 101, 108, 100, 32, 57]]
theorem names5_nd : names5.Nodup := by decide
theorem nm5_mem (k : UInt8) : nm5 k ∈ names5 := by unfold nm5 names5; split <;> simp
theorem nm5_ex {n : Str} (h : n ∈ names5) : ∃ k : UInt8, nm5 k = n := by
  unfold names5 at h
  rcases (by simpa using h) with rfl | rfl | rfl | rfl | rfl
  · exact ⟨0, rfl⟩
  · exact ⟨1, rfl⟩
  · exact ⟨2, rfl⟩
  · exact ⟨3, rfl⟩
  · exact ⟨4, rfl⟩
/-- The nodes of a history: each once, of the five names. -/
structure Nod (c : Ck) : Prop where
  nd : Nd c.nodes
  sub : ∀ k ∈ keys c.nodes, k ∈ names5
theorem nodup_len {l k : List Str} (h : l.Nodup) (hs : ∀ x ∈ l, x ∈ k) (hk : k.Nodup) : l.Perm (k.filter fun x => decide (x ∈ l)) :=
  (List.perm_ext_iff_of_nodup h (List.filter_sublist.nodup hk)).2 fun a => by simp only [List.mem_filter, decide_eq_true_eq]; exact ⟨fun h => ⟨hs _ h, h⟩, fun h => h.2⟩
theorem Nod.len {c : Ck} (h : Nod c) : c.nodes.length ≤ 5 := by
  have := (nodup_len h.nd h.sub names5_nd).length_eq
  have h2 := List.length_filter_le (fun x => decide (x ∈ keys c.nodes)) names5
  have h3 : names5.length = 5 := rfl
  have h4 : (keys c.nodes).length = c.nodes.length := List.length_map _
  omega
theorem Nod.up {c : Ck} (h : Nod c) : health_Checks_Up c = some (ups c) := up_eq (by have := h.len; omega)
theorem Nod.rep {c : Ck} (h : Nod c) {k : Str} (hk : k ∈ names5) (ok : Bool) : Nod (Health.rep c k ok) := ⟨h.nd.mset _ _, fun j hj => by
  unfold Health.rep at hj; rw [keys_mset] at hj; split at hj
  · exact h.sub j hj
  · rcases List.mem_append.1 hj with hj | hj
    · exact h.sub j hj
    · simp at hj; subst hj; exact hk⟩
theorem Nod.forget {c : Ck} (h : Nod c) (k : Str) : Nod (Health.forget c k) := ⟨h.nd.mdel _, fun j hj => by
  unfold Health.forget at hj; rw [keys_mdel] at hj; exact h.sub j (List.mem_filter.1 hj).1⟩
theorem Nod.drain {c : Ck} (h : Nod c) (k : Str) (on : Bool) : Nod (Health.drain c k on) := ⟨h.nd, h.sub⟩
theorem Nod.play {c : Ck} (h : Nod c) (s : S_law32_Step) : Nod (playC c s) := by
  unfold playC; split
  · exact h.rep (nm5_mem _) _
  · split
    · exact h.drain _ _
    · exact h.forget _
theorem nod_made (r f : Int) : Nod ⟨r, f, [], []⟩ := ⟨Nd.nil, fun k hk => by simp [keys] at hk⟩
/-- Who is listed. -/
theorem Nod.mem {c : Ck} (h : Nod c) (n : Str) : n ∈ ups c ↔ (stat c n).state = 1 ∧ dr c n = false := by
  unfold ups
  rw [mem_sortS, mem_filter h.nd]
  unfold Health.up stat dr
  constructor
  · rintro ⟨v, h1, h2⟩
    rw [h1]
    simp only [Bool.and_eq_true, decide_eq_true_eq, Bool.not_eq_true'] at h2
    exact ⟨h2.1, h2.2⟩
  · rintro ⟨h1, h2⟩
    cases hv : mget c.nodes n with
    | none => rw [hv] at h1; simp at h1
    | some v => rw [hv] at h1; exact ⟨v, rfl, by simp only [Bool.and_eq_true, decide_eq_true_eq, Bool.not_eq_true']; exact ⟨h1, h2⟩⟩
theorem Nod.lt {c : Ck} (h : Nod c) : (ups c).Pairwise (· < ·) := sortS_lt (keys_sub h.nd)
theorem Nod.sub5 {c : Ck} (h : Nod c) {n : Str} (hn : n ∈ ups c) : n ∈ names5 := by
  unfold ups at hn; rw [mem_sortS, mem_filter h.nd] at hn
  obtain ⟨v, h1, _⟩ := hn
  exact h.sub n (mem_keys.2 (by rw [h1]; rfl))
theorem Nod.lenU {c : Ck} (h : Nod c) : (ups c).length ≤ 5 := by
  have := (nodup_len (nodup_of_lt h.lt) (fun x hx => h.sub5 hx) names5_nd).length_eq
  have h2 := List.length_filter_le (fun x => decide (x ∈ ups c)) names5
  have h3 : names5.length = 5 := rfl
  omega
theorem has_L0 (n : Str) : ∀ (l : List Str) (i : Nat), law32_has_L0 n l i = some (if n ∈ l then .ret true else .go ())
  | [], i => by rw [law32_has_L0]; simp
  | x :: l, i => by
    rw [law32_has_L0]
    by_cases h : x = n
    · simp [h]
    · have h' : ¬ n = x := fun e => h e.symm
      simp only [h, decide_false, Bool.false_eq_true, if_false, has_L0 n l, List.mem_cons, h', false_or]
theorem has_eq {l : List Str} (n : Str) (h : l.length ≤ 1000) : law32_has l n = some (decide (n ∈ l)) := by
  unfold law32_has
  rw [chk_bind (by simp only [szMax]; omega), has_L0]
  by_cases hn : n ∈ l <;> simp [hn, Fl.el]
theorem Nod.has {c : Ck} (h : Nod c) (n : Str) : law32_has (ups c) n = some (decide (n ∈ ups c)) := has_eq n (by have := h.lenU; omega)
theorem dr_drain (c : Ck) (k j : Str) (on : Bool) : dr (Health.drain c k on) j = if k = j then on else dr c j := by
  unfold dr Health.drain
  cases on
  · simp only [Bool.false_eq_true, if_false, mget_mdel]; split <;> rfl
  · simp only [if_true, mget_mset, mget_mdel]; split <;> rfl
/-- Who is known. -/
def Kn (c : Ck) : Prop := ∀ k, (mget c.nodes k).isSome = decide ((stat c k).state ≠ 0)
theorem repS_ne (r f : Int) (s : S_health_status) (ok : Bool) : (repS r f s ok).state ≠ 0 := by
  unfold repS
  cases ok <;> simp only [Bool.false_eq_true, if_true, if_false] <;> (split; (simp); split; (simp); (rename_i h _; exact fun e => h (.inl e)))
theorem Kn.made (r f : Int) : Kn ⟨r, f, [], []⟩ := fun k => by simp [stat]
theorem Kn.rep {c : Ck} (h : Kn c) (k : Str) (ok : Bool) : Kn (Health.rep c k ok) := fun j => by
  rw [stat_rep]; unfold Health.rep
  simp only [mget_mset]
  split
  · simp [repS_ne]
  · exact h j
theorem Kn.forget {c : Ck} (h : Kn c) (k : Str) : Kn (Health.forget c k) := fun j => by
  rw [stat_forget]; unfold Health.forget
  simp only [mget_mdel]
  split
  · simp
  · exact h j
theorem Kn.play {c : Ck} (h : Kn c) (s : S_law32_Step) : Kn (playC c s) := by
  unfold playC; split
  · exact h.rep _ _
  · split
    · exact h
    · exact h.forget _
theorem dr_rep (c : Ck) (k j : Str) (ok : Bool) : dr (Health.rep c k ok) j = dr c j := rfl
theorem dr_forget (c : Ck) (k j : Str) : dr (Health.forget c k) j = dr c j := rfl
theorem forget_eq (c : Ck) (n : Str) : health_Checks_Forget c n = some ((mget c.nodes n).isSome, Health.forget c n) := rfl
end Health
