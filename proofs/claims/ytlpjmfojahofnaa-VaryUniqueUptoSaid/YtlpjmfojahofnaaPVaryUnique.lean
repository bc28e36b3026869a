import Derived.Test.YtlpjmfojahofnaaVaryS
set_option linter.unusedVariables false
set_option linter.unusedSimpArgs false
open Go Go.SL Go.Proofs Pl Vary
namespace Vary
abbrev Stp := S_law16_Step
def seenB (m : List (Int × Bool)) (x : Int) : Bool := (mget m x).getD false
theorem seen_mset (m : List (Int × Bool)) (k x : Int) : seenB (mset m k true) x = (decide (k = x) || seenB m x) := by
  unfold seenB
  rw [mget_mset]
  by_cases h : k = x <;> simp [h]
theorem uniq_L2 : ∀ (l : List Int) (i : Nat) (m : List (Int × Bool)), l.Nodup → (∀ x ∈ l, seenB m x = false) → ∃ m', law16_VaryUnique_L2 l i m = some (Fl.go m') ∧ ∀ x, seenB m' x = (decide (x ∈ l) || seenB m x)
  | [], i, m, _, _ => ⟨m, rfl, fun x => by simp⟩
  | a :: l, i, m, hn, h => by
    obtain ⟨h1, h2⟩ := List.nodup_cons.1 hn
    obtain ⟨m', e, h3⟩ := uniq_L2 l (i + 1) (mset m a true) h2 fun x hx => by
      rw [seen_mset, h x (by simp [hx])]
      have : a ≠ x := fun e => h1 (e ▸ hx)
      simp [this]
    refine ⟨m', ?_, fun x => ?_⟩
    · rw [law16_VaryUnique_L2, if_neg (by have := h a (by simp); unfold seenB at this; simp [this]), e]
    · rw [h3, seen_mset]
      by_cases q : a = x
      · subst q; simp
      · have q' : x ≠ a := fun e => q e.symm
        simp [q, q']
theorem uniq_L4 : ∀ (l : List Int) (i : Nat) (m : List (Int × Bool)), l.Nodup → (∀ x ∈ l, seenB m x = false) → ∃ m', law16_VaryUnique_L4 l i m = some (Fl.go m') ∧ ∀ x, seenB m' x = (decide (x ∈ l) || seenB m x)
  | [], i, m, _, _ => ⟨m, rfl, fun x => by simp⟩
  | a :: l, i, m, hn, h => by
    obtain ⟨h1, h2⟩ := List.nodup_cons.1 hn
    obtain ⟨m', e, h3⟩ := uniq_L4 l (i + 1) (mset m a true) h2 fun x hx => by
      rw [seen_mset, h x (by simp [hx])]
      have : a ≠ x := fun e => h1 (e ▸ hx)
      simp [this]
    refine ⟨m', ?_, fun x => ?_⟩
    · rw [law16_VaryUnique_L4, if_neg (by have := h a (by simp); unfold seenB at this; simp [this]), e]
    · rw [h3, seen_mset]
      by_cases q : a = x
      · subst q; simp
      · have q' : x ≠ a := fun e => q e.symm
        simp [q, q']
theorem uniq_L6 {m : List (Int × Bool)} : ∀ (l : List Int) (i : Nat), (∀ x ∈ l, seenB m x = true) → law16_VaryUnique_L6 m l i = some (Fl.go ())
  | [], i, _ => rfl
  | a :: l, i, h => by
    rw [law16_VaryUnique_L6, if_neg (by have := h a (by simp); unfold seenB at this; simp [this]), uniq_L6 l (i + 1) fun x hx => h x (by simp [hx])]
structure VI (l : List Vt) : Prop where
  nd : (l.map (·.id)).Nodup
  len : l.length ≤ 16
  nm : ∀ v ∈ l, sumL v.names ≤ 500
theorem all_nodup {l : List Vt} {names : List Str} {k : Str} {id : Int} (h : (l.map (·.id)).Nodup) : ((putL l names k id).map (·.id) ++ (l.filter (out id k names)).map (·.id)).Nodup := by
  have hp : ((l.filter (stay id k names)) ++ (l.filter (out id k names))).Perm (l.filter fun v => !decide (v.id = id)) := by
    have h1 := (List.filter_append_perm (same k names) (l.filter fun v => !decide (v.id = id)))
    rw [List.filter_filter, List.filter_filter] at h1
    have e1 : (fun a => same k names a && !decide (a.id = id)) = out id k names := by funext a; unfold out; rw [Bool.and_comm]
    have e2 : (fun a => (!same k names a) && !decide (a.id = id)) = stay id k names := by funext a; unfold stay; rw [Bool.and_comm]
    rw [e1, e2] at h1
    exact List.perm_append_comm.trans h1
  unfold putL
  rw [List.map_cons, List.cons_append, ← List.map_append]
  rw [List.nodup_cons]
  refine ⟨fun hm => ?_, ?_⟩
  · obtain ⟨v, hv, e⟩ := List.mem_map.1 hm
    have := (hp.mem_iff.1 hv)
    rw [List.mem_filter] at this
    simp [e] at this
  · refine (hp.map _).nodup_iff.2 ?_
    exact (List.Sublist.map _ List.filter_sublist).nodup h
theorem uniq_L0 {n : Nat} (hn : 100 ≤ n) : ∀ (s : List Stp) (i : Nat) (l : List Vt), VI l → (∀ x ∈ s, S_law16_Step.ok x) → ∃ st, law16_VaryUnique_L0 n s i ⟨l⟩ = some st ∧ st.el (fun b => some b) (fun _ => some true) = some true
  | [], i, l, _, _ => ⟨_, rfl, rfl⟩
  | x :: s, i, l, hv, hx => by
    obtain ⟨_, o1, o2, o3⟩ := hx x (by simp)
    simp only [InK] at o3
    rw [law16_VaryUnique_L0, long_eq o1.1 o1.2, Option.bind_some, large_eq o2, Option.bind_some]
    by_cases h1 : sumL x.Names > 500
    · rw [if_pos (by simpa using h1), Option.bind_some, if_pos rfl]; exact ⟨_, rfl, rfl⟩
    · rw [if_neg (by simpa using h1), Option.bind_some]
      by_cases h2 : tot x.FZ > 3000
      · rw [if_pos (by simpa using h2)]; exact ⟨_, rfl, rfl⟩
      · have hl := hv.len
        have hnl : ∀ v ∈ l, v.names.length ≤ 1000000 := fun v hm => by have := hv.nm v hm; have := sumL_len v.names; omega
        have hA := all_nodup (names := x.Names) (k := key x.Names x.FZ) (id := x.ID) hv.nd
        have hK : VI ((putL l x.Names (key x.Names x.FZ) x.ID).take 16) := by
          refine ⟨?_, by simp; omega, fun v hm => ?_⟩
          · rw [List.map_take]
            exact (List.take_sublist _ _).nodup (List.nodup_append.1 hA).1
          · have := List.mem_of_mem_take hm
            unfold putL at this
            rcases List.mem_cons.1 this with rfl | this
            · simp only; omega
            · exact hv.nm v (List.mem_filter.1 this).1
        have hcons : (putL l x.Names (key x.Names x.FZ) x.ID).take 16 = ⟨x.Names, key x.Names x.FZ, x.ID⟩ :: (l.filter (stay x.ID (key x.Names x.FZ) x.Names)).take 15 := rfl
        obtain ⟨st, hst, hend⟩ := uniq_L0 hn s (i + 1) _ hK fun z hz => hx z (by simp [hz])
        rw [if_neg (by simpa using h2), fields_eq o2.1, Option.bind_some, ids_eq (by omega), Option.bind_some, chk_bind (by constructor <;> omega), put_eq hn hl hnl (by omega) (by omega), Option.bind_some, ids_eq (by have := hK.len; omega), Option.bind_some]
        have hlen := hK.len
        have e1 : (((putL l x.Names (key x.Names x.FZ) x.ID).take 16).map (·.id)) = x.ID :: ((l.filter (stay x.ID (key x.Names x.FZ) x.Names)).take 15).map (·.id) := by rw [hcons]; rfl
        rw [if_neg (by rw [e1]; simp; omega)]
        have e2 : ix (((putL l x.Names (key x.Names x.FZ) x.ID).take 16).map (·.id)) 0 = some x.ID := by rw [e1]; rfl
        rw [e2, Option.bind_some, chk_bind (by constructor <;> omega), Option.bind_some, if_neg (by simp; omega), chk_bind (by simp only [List.length_map, szMax]; omega)]
        have hsplit : (putL l x.Names (key x.Names x.FZ) x.ID).map (·.id) = ((putL l x.Names (key x.Names x.FZ) x.ID).take 16).map (·.id) ++ ((putL l x.Names (key x.Names x.FZ) x.ID).drop 16).map (·.id) := by
          rw [← List.map_append, List.take_append_drop]
        have hperm : ((putL l x.Names (key x.Names x.FZ) x.ID).map (·.id) ++ (l.filter (out x.ID (key x.Names x.FZ) x.Names)).map (·.id)).Perm (((putL l x.Names (key x.Names x.FZ) x.ID).take 16).map (·.id) ++ goneL l x.Names (key x.Names x.FZ) x.ID) := by
          rw [hsplit, List.append_assoc]
          unfold goneL
          exact List.Perm.append_left _ List.perm_append_comm
        have hB := hperm.nodup_iff.1 hA
        obtain ⟨n1, n2, n3⟩ := List.nodup_append.1 hB
        obtain ⟨m2, em2, hm2⟩ := uniq_L2 (((putL l x.Names (key x.Names x.FZ) x.ID).take 16).map (·.id)) 0 [] n1 fun _ _ => rfl
        rw [em2, Option.bind_some, el_go]
        have hgl : (goneL l x.Names (key x.Names x.FZ) x.ID).length ≤ 100 := by
          have hh := hperm.length_eq
          have h3 : (l.filter (out x.ID (key x.Names x.FZ) x.Names)).length ≤ l.length := List.length_filter_le _ _
          have h4 : (l.filter (stay x.ID (key x.Names x.FZ) x.Names)).length ≤ l.length := List.length_filter_le _ _
          unfold putL at hh
          simp only [List.length_append, List.length_map, List.length_cons] at hh
          omega
        obtain ⟨m4, em4, hm4⟩ := uniq_L4 (goneL l x.Names (key x.Names x.FZ) x.ID) 0 m2 n2 fun z hz => by
          rw [hm2]
          have : z ∉ ((putL l x.Names (key x.Names x.FZ) x.ID).take 16).map (·.id) := fun q => n3 z q z hz rfl
          simp only [this, decide_false, Bool.false_or]; rfl
        rw [chk_bind (by simp only [szMax]; omega), em4, Option.bind_some, el_go, chk_bind (by simp only [List.length_map, szMax]; omega)]
        have h6 : law16_VaryUnique_L6 m4 (l.map (·.id)) 0 = some (Fl.go ()) := uniq_L6 _ _ fun z hz => by
          have hmem : z ∈ ((putL l x.Names (key x.Names x.FZ) x.ID).take 16).map (·.id) ++ goneL l x.Names (key x.Names x.FZ) x.ID := by
            refine hperm.mem_iff.1 ?_
            obtain ⟨v, hvm, rfl⟩ := List.mem_map.1 hz
            by_cases q : v.id = x.ID
            · unfold putL; simp [q]
            · by_cases r : same (key x.Names x.FZ) x.Names v = true
              · exact List.mem_append_right _ (List.mem_map.2 ⟨v, List.mem_filter.2 ⟨hvm, by unfold out; simp [q, r]⟩, rfl⟩)
              · refine List.mem_append_left _ (List.mem_map.2 ⟨v, ?_, rfl⟩)
                unfold putL
                exact List.mem_cons_of_mem _ (List.mem_filter.2 ⟨hvm, by unfold stay; simp [q, r]⟩)
          rw [hm4, hm2]
          rcases List.mem_append.1 hmem with h | h
          · rw [decide_eq_true h, Bool.true_or, Bool.or_true]
          · rw [decide_eq_true h, Bool.true_or]
        rw [h6, Option.bind_some, el_go, find_eq (by omega) (by omega) (fun v hm => by have := hK.nm v hm; omega), Option.bind_some]
        have hh : hit x.FZ ⟨x.Names, key x.Names x.FZ, x.ID⟩ = true := by unfold hit; simp
        have e3 : (((putL l x.Names (key x.Names x.FZ) x.ID).take 16).filter (hit x.FZ)).map (·.id) = x.ID :: (((l.filter (stay x.ID (key x.Names x.FZ) x.Names)).take 15).filter (hit x.FZ)).map (·.id) := by
          rw [hcons, List.filter_cons, if_pos hh]; rfl
        rw [e3, if_neg (by simp; omega), show ix (x.ID :: (((l.filter (stay x.ID (key x.Names x.FZ) x.Names)).take 15).filter (hit x.FZ)).map (·.id)) 0 = some x.ID from rfl, Option.bind_some, chk_bind (by constructor <;> omega), Option.bind_some, if_neg (by simp)]
        exact ⟨st, hst, hend⟩
end Vary
theorem awake100 : law16_awake 100 = some true := by decide +kernel
theorem law16_VaryUnique_true (script : List S_law16_Step) (o0 : script.length ≤ szUp ∧ ∀ y0 ∈ script, S_law16_Step.ok y0) : ∃ n, law16_VaryUnique n script = some true := by
  refine ⟨100, ?_⟩
  have hs := o0.1
  simp only [szUp] at hs
  unfold law16_VaryUnique
  by_cases h : (script.length : Int) > 60
  · rw [if_pos (by simpa using h), Option.bind_some, if_pos rfl]; simpa using h
  · rw [if_neg (by simpa using h), awake100, Option.bind_some, Option.bind_some, if_neg (by simp), show vary_New = some ⟨[]⟩ from rfl, Option.bind_some, chk_bind (by simp only [szMax]; omega)]
    obtain ⟨st, e, h1⟩ := uniq_L0 (n := 100) (by omega) script 0 [] ⟨by simp, by simp, fun v h => by cases h⟩ o0.2
    rw [e, Option.bind_some]; exact h1
