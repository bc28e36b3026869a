import Derived.Test.YtfngobjpmjpefaaTagsH
set_option linter.unusedVariables false
set_option linter.unusedSimpArgs false
open Go Go.SL Go.Proofs Tags Pl
theorem el_go {ρ σ γ : Type} {y : σ} {f : ρ → Option γ} {g : σ → Option γ} : (Fl.go y : Fl ρ σ).el f g = g y := rfl
theorem play_L2 (a : S_law35_Act) (h : a.Tags.length ≤ 1000) : ∀ (k i m : Nat) (o : List Str), i + k = a.Tags.length → k < m → o.length = a.Tags.length → ∃ y, law35_play_L2 a m (i : Int) o = some y
  | 0, i, m + 1, o, hi, hm, ho => by
    rw [law35_play_L2, if_neg (by simp; omega)]
    exact ⟨_, rfl⟩
  | k + 1, i, m + 1, o, hi, hm, ho => by
    have hix : ix o (i : Int) = some (o[i]'(by omega)) := by unfold ix; rw [if_pos (by omega), Int.toNat_natCast]; simp [show i < o.length by omega]
    rw [law35_play_L2, if_pos (by simp; omega), hix, Option.bind_some, chk_bind (by constructor <;> omega), show ((i : Int) + 1) = ((i + 1 : Nat) : Int) from by omega]
    exact play_L2 a h k (i + 1) m _ (by omega) (by omega) (by simpa using ho)
theorem is_L2 (l : List Str) (h : l.length ≤ 1000) : ∀ (k i m : Nat) (o : List Str), i + k = l.length → k < m → o.length = l.length → ∃ y, law35_is_L2 l m (i : Int) o = some y
  | 0, i, m + 1, o, hi, hm, ho => by
    rw [law35_is_L2, if_neg (by simp; omega)]
    exact ⟨_, rfl⟩
  | k + 1, i, m + 1, o, hi, hm, ho => by
    have hix : ix o (i : Int) = some (o[i]'(by omega)) := by unfold ix; rw [if_pos (by omega), Int.toNat_natCast]; simp [show i < o.length by omega]
    rw [law35_is_L2, if_pos (by simp; omega), hix, Option.bind_some, chk_bind (by constructor <;> omega), show ((i : Int) + 1) = ((i + 1 : Nat) : Int) from by omega]
    exact is_L2 l h k (i + 1) m _ (by omega) (by omega) (by simpa using ho)
theorem play_L0 {acts : List S_law35_Act} {n : Nat} (hs : acts.length ≤ 40) (hn : 2000 ≤ n) (hw : ∀ a ∈ acts, a.Tags.length ≤ 40 ∧ ∀ w ∈ a.Tags, w.length ≤ szMax ∧ w.length < n) : ∀ (q : List S_law35_Act) (i m : Nat) (x : Ix) (r : List En), acts.drop i = q → i + q.length = acts.length → q.length < m → Rel x r i →
    ∃ x' r' y, law35_play_L0 acts n m r (i : Int) x = some (.go (r', y, x')) ∧ Rel x' r' acts.length
  | [], i, m + 1, x, r, hd, hi, hm, hx => by
    simp only [List.length_nil, Nat.add_zero] at hi
    rw [law35_play_L0, if_neg (by simp; omega)]
    exact ⟨x, r, _, rfl, hi ▸ hx⟩
  | a :: q, i, m + 1, x, r, hd, hi, hm, hx => by
    obtain ⟨hix, hdr, hil⟩ := ix_drop hd
    simp only [List.length_cons] at hi hm
    have e1 : ((i : Int) + 1) = ((i + 1 : Nat) : Int) := by omega
    have hl := hx.len
    obtain ⟨ha, haw⟩ := hw a (List.mem_of_mem_drop (hd ▸ List.mem_cons_self ..))
    rw [law35_play_L0, if_pos (by simp; omega), hix, Option.bind_some]
    by_cases h : a.Remove = true
    · rw [if_pos h, remove_eq a.ID (by omega) (by omega), Option.bind_some, show tags_Index_Remove x a.ID = some ((mget x.entries a.ID).isSome, ⟨mdel x.entries a.ID⟩) from rfl, Option.bind_some, if_neg (by rw [del_lt hx a.ID]; simp), chk_bind (by constructor <;> omega), e1]
      exact play_L0 hs hn hw q (i + 1) m _ _ hdr (by omega) (by omega) (hx.del _)
    · obtain ⟨h1, h2⟩ := hx.put a.ID a.Tags
      obtain ⟨y, e2⟩ := play_L2 a (by omega) a.Tags.length 0 n a.Tags (by omega) (by omega) rfl
      simp only [Int.natCast_zero] at e2
      rw [if_neg h, chk_bind (by simp only [List.length_nil, lim]; omega), List.nil_append, put_eq, Option.bind_some, rput_eq a.ID (by omega) hn haw, Option.bind_some, h2, Option.bind_some, if_neg (by simp), e2, Option.bind_some, chk_bind (by constructor <;> omega), e1]
      exact play_L0 hs hn hw q (i + 1) m _ _ hdr (by omega) (by omega) h1
theorem is_L0 {x : Ix} {r : List En} {k n : Nat} (h : Rel x r k) (hk : k ≤ 100) (hn : 2000 ≤ n) {ids : List Str} (hl : ids.length ≤ 1000) : ∀ (q : List Str) (i m : Nat), ids.drop i = q → i + q.length = ids.length → q.length < m → ∃ y, law35_is_L0 ids x n r m (i : Int) = some (.go y)
  | [], i, m + 1, hd, hi, hm => by
    simp only [List.length_nil, Nat.add_zero] at hi
    rw [law35_is_L0, if_neg (by simp; omega)]
    exact ⟨_, rfl⟩
  | id :: q, i, m + 1, hd, hi, hm => by
    obtain ⟨hix, hdr, hil⟩ := ix_drop hd
    simp only [List.length_cons] at hi hm
    have hrl := h.len
    have hg := h.inv.get id
    obtain ⟨y, e2⟩ := is_L2 ((mget x.entries id).getD []) (by omega) ((mget x.entries id).getD []).length 0 n ((mget x.entries id).getD []) (by omega) (by omega) rfl
    simp only [Int.natCast_zero] at e2
    rw [law35_is_L0, if_pos (by simp; omega), hix, Option.bind_some, tags_eq h.inv, Option.bind_some, Option.bind_some, rtags_eq id (by omega) (by omega), Option.bind_some, ← h.eq, texts_eq (by omega), Option.bind_some, if_neg (by simp), e2, Option.bind_some, chk_bind (by constructor <;> omega), show ((i : Int) + 1) = ((i + 1 : Nat) : Int) from by omega]
    exact is_L0 h hk hn hl q (i + 1) m hdr (by omega) (by omega)
theorem is_eq {x : Ix} {r : List En} {k n : Nat} (h : Rel x r k) (hk : k ≤ 100) (hn : 2000 ≤ n) : law35_is n x r = some true := by
  have hl := h.inv.len
  have hs : (sortS (keys x.entries)).length = x.entries.length := by rw [sortS_len]; unfold keys; simp
  obtain ⟨y, e⟩ := is_L0 h hk hn (ids := sortS (keys x.entries)) (by omega) (sortS (keys x.entries)) 0 n rfl (by simp) (by omega)
  simp only [Int.natCast_zero] at e
  unfold law35_is
  rw [ids_eq (by omega), Option.bind_some, rids_eq h hk hn, Option.bind_some, texts_eq (by omega), Option.bind_some, if_neg (by simp), e]
  rfl
theorem plays_L2 {acts : List S_law35_Act} {x : Ix} {r : List En} {b : Bool} {k n : Nat} (h : Rel x r k) (hk : k ≤ 100) (hn : 2000 ≤ n) {j : Nat} {a : S_law35_Act} (hj : ix acts (j : Int) = some a) (ha : a.Tags.length ≤ 40) : ∀ (q : List Str) (i m : Nat), a.Tags.drop i = q → i + q.length = a.Tags.length → q.length < m →
    ∃ y, law35_TagsPlays_L2 acts (j : Int) (x, r, b) n m (i : Int) = some (.go y)
  | [], i, m + 1, hd, hi, hm => by
    simp only [List.length_nil, Nat.add_zero] at hi
    rw [law35_TagsPlays_L2, hj, Option.bind_some, if_neg (by simp; omega)]
    exact ⟨_, rfl⟩
  | w :: q, i, m + 1, hd, hi, hm => by
    obtain ⟨hix, hdr, hil⟩ := ix_drop hd
    simp only [List.length_cons] at hi hm
    have hl := h.inv.len
    have hs : (sortS (keys x.entries)).length = x.entries.length := by rw [sortS_len]; unfold keys; simp
    have hfl : ((sortS (keys x.entries)).filter fun id => decide (w ∈ (mget x.entries id).getD [])).length ≤ (sortS (keys x.entries)).length := List.length_filter_le _ _
    rw [law35_TagsPlays_L2, hj, Option.bind_some, if_pos (by simp; omega), Option.bind_some, hix, Option.bind_some, find_eq h.inv (by omega), Option.bind_some, rfind_eq h hk hn, Option.bind_some, texts_eq (by omega), Option.bind_some, if_neg (by simp), chk_bind (by constructor <;> omega), show ((i : Int) + 1) = ((i + 1 : Nat) : Int) from by omega]
    exact plays_L2 h hk hn hj ha q (i + 1) m hdr (by omega) (by omega)
theorem plays_L0 {acts : List S_law35_Act} {x : Ix} {r : List En} {b : Bool} {k n : Nat} (h : Rel x r k) (hk : k ≤ 100) (hn : 2000 ≤ n) (hs : acts.length ≤ 40) (hw : ∀ a ∈ acts, a.Tags.length ≤ 40) : ∀ (q : List S_law35_Act) (i m : Nat), acts.drop i = q → i + q.length = acts.length → q.length < m →
    ∃ y, law35_TagsPlays_L0 acts (x, r, b) n m (i : Int) = some (.go y)
  | [], i, m + 1, hd, hi, hm => by
    simp only [List.length_nil, Nat.add_zero] at hi
    rw [law35_TagsPlays_L0, if_neg (by simp; omega)]
    exact ⟨_, rfl⟩
  | a :: q, i, m + 1, hd, hi, hm => by
    obtain ⟨hix, hdr, hil⟩ := ix_drop hd
    simp only [List.length_cons] at hi hm
    have ha := hw a (List.mem_of_mem_drop (hd ▸ List.mem_cons_self ..))
    obtain ⟨y, e⟩ := plays_L2 (b := b) h hk hn hix ha a.Tags 0 n rfl (by simp) (by omega)
    simp only [Int.natCast_zero] at e
    rw [law35_TagsPlays_L0, if_pos (by simp; omega), e, Option.bind_some]
    obtain ⟨z, e2⟩ := plays_L0 (b := b) h hk hn hs hw q (i + 1) m hdr (by omega) (by omega)
    refine ⟨z, ?_⟩
    rw [el_go, chk_bind (by constructor <;> omega), show ((i : Int) + 1) = ((i + 1 : Nat) : Int) from by omega, e2]
theorem fits40_L0 (acts : List S_law35_Act) : ∀ (r : List S_law35_Act) (i n : Nat), acts.drop i = r → i + r.length = acts.length → r.length < n → acts.length ≤ szMax → ∃ y, law35_fits_L0 acts n (i : Int) = some y ∧ (y = .ret false ∨ ((∃ z, y = .go z) ∧ ∀ a ∈ r, a.Tags.length ≤ 40))
  | [], i, n + 1, hd, hi, hn, hs => by
    simp only [List.length_nil, Nat.add_zero] at hi
    rw [law35_fits_L0, if_neg (by simp; omega)]
    exact ⟨_, rfl, .inr ⟨⟨_, rfl⟩, by simp⟩⟩
  | a :: r, i, n + 1, hd, hi, hn, hs => by
    obtain ⟨hix, hdr, hil⟩ := ix_drop hd
    have hs' := hs
    simp only [List.length_cons, szMax] at hi hn hs
    rw [law35_fits_L0, if_pos (by simp; omega), hix, Option.bind_some]
    by_cases q : (a.Tags.length : Int) > 40
    · rw [if_pos (by simpa using q)]
      exact ⟨_, rfl, .inl rfl⟩
    · rw [if_neg (by simpa using q), chk_bind (by constructor <;> omega), show ((i : Int) + 1) = ((i + 1 : Nat) : Int) from by omega]
      obtain ⟨y, e, h⟩ := fits40_L0 acts r (i + 1) n hdr (by omega) (by omega) hs'
      refine ⟨y, e, h.imp id fun ⟨h1, h2⟩ => ⟨h1, fun b hb => ?_⟩⟩
      rcases List.mem_cons.1 hb with rfl | hb
      · omega
      · exact h2 b hb
theorem fits40_eq {acts : List S_law35_Act} {n : Nat} (hn : acts.length < n) (hs : acts.length ≤ szMax) : ∃ b, law35_fits n acts = some b ∧ (b = true → acts.length ≤ 40 ∧ ∀ a ∈ acts, a.Tags.length ≤ 40) := by
  obtain ⟨y, e, h⟩ := fits40_L0 acts acts 0 n rfl (by simp) hn hs
  simp only [Int.natCast_zero] at e
  unfold law35_fits
  rw [e]
  rcases h with rfl | ⟨⟨z, rfl⟩, h2⟩
  · exact ⟨false, rfl, fun h => by cases h⟩
  · refine ⟨_, rfl, fun h => ⟨?_, h2⟩⟩
    have := of_decide_eq_true h
    omega
theorem law35_TagsPlays_true (acts : List S_law35_Act) (tag : Str) (o0 : acts.length ≤ szMax ∧ ∀ y ∈ acts, S_law35_Act.ok y) (o1 : tag.length ≤ szMax) : ∃ n, law35_TagsPlays n acts tag = some true := by
  obtain ⟨n, hn⟩ : ∃ n, szMax + 5000 ≤ n := ⟨_, Nat.le_refl _⟩
  refine ⟨n, ?_⟩
  have ho := o0.1
  have hn2 : 2000 ≤ n := by omega
  obtain ⟨b, hb, h40⟩ := fits40_eq (n := n) (by omega) o0.1
  unfold law35_TagsPlays
  rw [awake_eq, Option.bind_some, hb]
  cases b with
  | false => rfl
  | true =>
    obtain ⟨hl, hw⟩ := h40 rfl
    have hw2 : ∀ a ∈ acts, a.Tags.length ≤ 40 ∧ ∀ w ∈ a.Tags, w.length ≤ szMax ∧ w.length < n := fun a ha => ⟨hw a ha, fun w hwa => by
      have := (o0.2 a ha).2.2.2 w hwa
      exact ⟨this, by omega⟩⟩
    obtain ⟨x, r, y, e, hx⟩ := play_L0 (n := n) hl hn2 hw2 acts 0 n ⟨[]⟩ [] rfl (by simp) (by omega) ⟨⟨Nd.nil, by simp, by simp⟩, by simp, by simp, fun id => rfl⟩
    simp only [Int.natCast_zero] at e
    have hp : law35_play n acts = some (x, r, true) := by
      unfold law35_play
      rw [show tags_New = some ⟨[]⟩ from rfl, Option.bind_some, e]; rfl
    have hxl := hx.inv.len
    have hs : (sortS (keys x.entries)).length = x.entries.length := by rw [sortS_len]; unfold keys; simp
    have hfl : ((sortS (keys x.entries)).filter fun id => decide (tag ∈ (mget x.entries id).getD [])).length ≤ (sortS (keys x.entries)).length := List.length_filter_le _ _
    obtain ⟨z, e2⟩ := plays_L0 (b := true) hx (by omega) hn2 hl hw acts 0 n rfl (by simp) (by omega)
    simp only [Int.natCast_zero] at e2
    have his := is_eq (n := n) hx (by omega) hn2
    rw [if_neg (by simp), Option.bind_some, Option.bind_some, if_neg (by simp), hp, Option.bind_some]
    rw [if_neg (by simp), his, Option.bind_some, Option.bind_some, if_neg (by simp), Option.bind_some, if_neg (by simp), find_eq hx.inv (by omega), Option.bind_some, rfind_eq hx (by omega) hn2, Option.bind_some, texts_eq (by omega), Option.bind_some, Option.bind_some, if_neg (by simp), e2, Option.bind_some, el_go]
