import Derived.Test.YtfngobjpmjpefaaTagsF
set_option linter.unusedVariables false
set_option linter.unusedSimpArgs false
open Go Go.SL Go.Proofs Tags Pl
theorem acts_L0 (acts : List S_law35_Act) (hs : acts.length ≤ 40) : ∀ (r : List S_law35_Act) (i n : Nat) (x : Ix), acts.drop i = r → i + r.length = acts.length → r.length < n → Inv x i →
    ∃ y x', law35_TagsFinds_L0 acts n (i : Int) x = some (y, x') ∧ Inv x' acts.length
  | [], i, n + 1, x, hd, hi, hn, hx => by
    simp only [List.length_nil, Nat.add_zero] at hi
    rw [law35_TagsFinds_L0, if_neg (by simp; omega)]
    exact ⟨_, x, rfl, hi ▸ hx⟩
  | a :: r, i, n + 1, x, hd, hi, hn, hx => by
    obtain ⟨hix, hdr, hil⟩ := ix_drop hd
    simp only [List.length_cons] at hi hn
    have e1 : ((i : Int) + 1) = ((i + 1 : Nat) : Int) := by omega
    rw [law35_TagsFinds_L0, if_pos (by simp; omega), hix, Option.bind_some]
    by_cases q : a.Remove = true
    · rw [if_pos q, Option.bind_some, show tags_Index_Remove x a.ID = some ((mget x.entries a.ID).isSome, ⟨mdel x.entries a.ID⟩) from rfl, Option.bind_some, chk_bind (by constructor <;> omega), e1]
      exact acts_L0 acts hs r (i + 1) n _ hdr (by omega) (by omega) (hx.del _)
    · rw [if_neg q, Option.bind_some, Option.bind_some, put_eq, Option.bind_some, chk_bind (by constructor <;> omega), e1]
      exact acts_L0 acts hs r (i + 1) n _ hdr (by omega) (by omega) (hx.put _ _)
theorem finds_L2 {x : Ix} {k : Nat} (h : Inv x k) (t : Int) (tag : Str) {n : Nat} (hn : 100 ≤ n) {ids fs : List Str} (hl : ids.length ≤ 100) (p : Str → Bool) (hp : p = fun id => decide (tag ∈ (mget x.entries id).getD [])) (hf : fs = ids.filter p) :
    ∀ (r pre : List Str) (m : Nat), ids = pre ++ r → r.length < m →
    ∃ y, law35_TagsFinds_L2 ids (t, x) n tag fs m ((pre.filter p).length : Int) (pre.length : Int) = some (.go ((fs.length : Int), y))
  | [], pre, m + 1, e, hm => by
    have e' : ids = pre := by simpa using e
    rw [law35_TagsFinds_L2, if_neg (by rw [e']; simp), hf, e']
    exact ⟨_, rfl⟩
  | id :: r, pre, m + 1, e, hm => by
    have hlen : pre.length < ids.length := by rw [e]; simp
    have hfl : (pre.filter p).length ≤ pre.length := List.length_filter_le _ _
    have hix : ix ids (pre.length : Int) = some id := by unfold ix; rw [if_pos (by omega), e]; simp
    obtain ⟨y, ih⟩ := finds_L2 h t tag hn hl p hp hf r (pre ++ [id]) m (by simp [e]) (by simpa using hm)
    refine ⟨y, ?_⟩
    have e2 : ((pre.length : Int) + 1) = (((pre ++ [id]).length : Nat) : Int) := by simp
    rw [law35_TagsFinds_L2, if_pos (by simp; omega), hix, Option.bind_some, tags_eq h, Option.bind_some, has_eq tag (Nat.le_trans (h.get id) (by omega)) (by have := h.get id; omega), Option.bind_some]
    by_cases q : tag ∈ (mget x.entries id).getD []
    · have hpi : p id = true := by rw [hp]; simpa using q
      have hff : fs = pre.filter p ++ id :: r.filter p := by rw [hf, e, List.filter_append, List.filter_cons, if_pos hpi]
      have hix2 : ix fs ((pre.filter p).length : Int) = some id := by unfold ix; rw [if_pos (by omega), hff]; simp
      have hlf : (pre.filter p).length < fs.length := by rw [hff]; simp
      have e3 : (((pre.filter p).length : Int) + 1) = ((((pre ++ [id]).filter p).length : Nat) : Int) := by simp [hpi]
      rw [if_pos (by simpa using q), if_neg (by simp; omega), hix2, Option.bind_some, Option.bind_some, Option.bind_some, if_neg (by simp), chk_bind (by constructor <;> omega), chk_bind (by constructor <;> omega), e2, e3, ih]
    · have hpi : ¬ p id = true := by rw [hp]; simpa using q
      have e3 : ((pre.filter p).length : Int) = ((((pre ++ [id]).filter p).length : Nat) : Int) := by simp [hpi]
      rw [if_neg (by simpa using q), chk_bind (by constructor <;> omega), e2, e3, ih]
theorem law35_TagsFinds_true (acts : List S_law35_Act) (tag : Str) (o0 : acts.length ≤ szMax ∧ ∀ y ∈ acts, S_law35_Act.ok y) (o1 : tag.length ≤ szMax) : ∃ n, law35_TagsFinds n acts tag = some true := by
  refine ⟨acts.length + 1000, ?_⟩
  obtain ⟨b, hb, h40⟩ := fits_eq (n := acts.length + 1000) (by omega) o0.1
  unfold law35_TagsFinds
  rw [awake_eq, Option.bind_some, hb]
  cases b with
  | false => rfl
  | true =>
    have hl := h40 rfl
    obtain ⟨y, x, e, hx⟩ := acts_L0 acts hl acts 0 (acts.length + 1000) ⟨[]⟩ rfl (by simp) (by omega) ⟨Nd.nil, by simp, by simp⟩
    simp only [Int.natCast_zero] at e
    have hxl := hx.len
    have hs : (sortS (keys x.entries)).length = x.entries.length := by rw [sortS_len]; unfold keys; simp
    simp only [Option.bind_some, Bool.not_true, Bool.false_eq_true, if_false]
    rw [show tags_New = some ⟨[]⟩ from rfl, Option.bind_some, e, Option.bind_some]
    simp only [find_eq hx (by omega), ids_eq (show x.entries.length ≤ 100000 by omega), Option.bind_some]
    obtain ⟨z, e2⟩ := finds_L2 hx y tag (n := acts.length + 1000) (by omega) (ids := sortS (keys x.entries)) (by omega) _ rfl rfl (sortS (keys x.entries)) [] (acts.length + 1000) rfl (by omega)
    simp only [List.filter_nil, List.length_nil, Int.natCast_zero] at e2
    rw [e2]
    simp [Fl.el]
