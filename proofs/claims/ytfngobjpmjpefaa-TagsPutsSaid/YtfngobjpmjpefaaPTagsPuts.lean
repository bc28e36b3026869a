import Derived.Test.YtfngobjpmjpefaaTagsF
set_option linter.unusedVariables false
set_option linter.unusedSimpArgs false
open Go Go.SL Go.Proofs Tags Pl
theorem mem_upTo (d : Array Str) : ∀ (m j : Nat), j < m → d[j]! ∈ Go.Lib.compactUpTo d m
  | 0, j, h => by omega
  | m + 1, j, h => by
    rw [Go.Lib.compactUpTo_succ]
    rcases Nat.lt_or_ge j m with q | q
    · exact List.mem_append_left _ (mem_upTo d m j q)
    · have : j = m := by omega
      subst this
      cases hk : Go.Lib.keeps d j with
      | true => simp
      | false =>
        have h2 : ¬ (j = 0 ∨ d[j]! ≠ d[j - 1]!) := by simpa [Go.Lib.keeps] using hk
        have h3 : j ≠ 0 := fun e => h2 (.inl e)
        have h4 : d[j]! = d[j - 1]! := Classical.byContradiction fun e => h2 (.inr e)
        rw [h4]
        exact List.mem_append_left _ (mem_upTo d j (j - 1) (by omega))
theorem mem_comp {l : List Str} {x : Str} : x ∈ Go.Lib.compact l ↔ x ∈ l := by
  constructor
  · intro h
    unfold Go.Lib.compact Go.Lib.compactUpTo at h
    obtain ⟨j, hj, rfl⟩ := List.mem_map.1 h
    have hj := List.mem_range.1 (List.mem_filter.1 hj).1
    have : l.toArray[j]! = l[j] := by simp [hj]
    rw [this]; exact List.getElem_mem hj
  · intro h
    obtain ⟨j, hj, rfl⟩ := List.getElem_of_mem h
    have := mem_upTo l.toArray l.length j hj
    have e : l.toArray[j]! = l[j] := by simp [hj]
    rw [e] at this; exact this
theorem texts_L0 (b : List Str) : ∀ (l pre : List Str), b = pre ++ l → base_Texts_L0 b l pre.length = some (.go ())
  | [], pre, h => by rw [base_Texts_L0]
  | x :: l, pre, h => by
    have ih := texts_L0 b l (pre ++ [x]) (by simp [h])
    rw [base_Texts_L0]
    have : ix b (pre.length : Int) = some x := by unfold ix; rw [if_pos (by omega), h]; simp
    rw [this]
    simpa using ih
theorem texts_eq {l : List Str} (h : l.length ≤ 100000) : base_Texts l l = some true := by
  unfold base_Texts
  rw [if_neg (by simp), chk_bind (by simp only [szMax]; omega)]
  have := texts_L0 l l [] rfl
  simp only [List.length_nil] at this
  rw [this]; rfl
theorem puts_L0 (acts : List S_law35_Act) (hs : acts.length ≤ 40) : ∀ (r : List S_law35_Act) (i n : Nat) (x : Ix), acts.drop i = r → i + r.length = acts.length → r.length < n → Inv x i →
    ∃ y x', law35_TagsPuts_L0 acts n (i : Int) x = some (y, x') ∧ Inv x' acts.length
  | [], i, n + 1, x, hd, hi, hn, hx => by
    simp only [List.length_nil, Nat.add_zero] at hi
    rw [law35_TagsPuts_L0, if_neg (by simp; omega)]
    exact ⟨_, x, rfl, hi ▸ hx⟩
  | a :: r, i, n + 1, x, hd, hi, hn, hx => by
    obtain ⟨hix, hdr, hil⟩ := ix_drop hd
    simp only [List.length_cons] at hi hn
    have e1 : ((i : Int) + 1) = ((i + 1 : Nat) : Int) := by omega
    rw [law35_TagsPuts_L0, if_pos (by simp; omega), hix, Option.bind_some, Option.bind_some, put_eq, Option.bind_some, chk_bind (by constructor <;> omega), e1]
    exact puts_L0 acts hs r (i + 1) n _ hdr (by omega) (by omega) (hx.put _ _)
abbrev val (x : Ix) (id : Str) : List Str := (mget x.entries id).getD []
theorem puts_L2 {x : Ix} {k : Nat} (h : Inv x k) (t : Int) {ids : List Str} (hl : ids.length ≤ 100) : ∀ (r pre : List Str) (m : Nat), ids = pre ++ r → r.length < m →
    ∃ y, law35_TagsPuts_L2 ids (t, x) m (pre.map (val x)) (pre.length : Int) = some (ids.map (val x), y)
  | [], pre, m + 1, e, hm => by
    have e' : ids = pre := by simpa using e
    rw [law35_TagsPuts_L2, if_neg (by rw [e']; simp), e']
    exact ⟨_, rfl⟩
  | id :: r, pre, m + 1, e, hm => by
    have hlen : pre.length < ids.length := by rw [e]; simp
    have hix : ix ids (pre.length : Int) = some id := by unfold ix; rw [if_pos (by omega), e]; simp
    obtain ⟨y, ih⟩ := puts_L2 h t hl r (pre ++ [id]) m (by simp [e]) (by simpa using hm)
    have e2 : ((pre.length : Int) + 1) = (((pre ++ [id]).length : Nat) : Int) := by simp
    have e3 : pre.map (val x) ++ [(mget x.entries id).getD []] = (pre ++ [id]).map (val x) := by simp
    refine ⟨y, ?_⟩
    rw [law35_TagsPuts_L2, if_pos (by simp; omega), hix, Option.bind_some, tags_eq h, Option.bind_some, chk_bind (by simp only [List.length_map, List.length_cons, List.length_nil, lim]; omega), chk_bind (by constructor <;> omega), e2, e3, ih]
theorem puts_L4 {x x2 : Ix} {k : Nat} (h2 : Inv x2 k) (a : S_law35_Act) (e : Err) (t : Int) {ids : List Str} (hl : ids.length ≤ 100) (hx : ∀ id, id ≠ a.ID ∨ e.isSome = true → val x2 id = val x id) (hv : ∀ id, (val x id).length ≤ 16) :
    ∀ (r pre : List Str) (m : Nat), ids = pre ++ r → r.length < m →
    ∃ y, law35_TagsPuts_L4 ids a (e, x2) (ids.map (val x), t) m (pre.length : Int) = some (.go y)
  | [], pre, m + 1, h, hm => by
    have e' : ids = pre := by simpa using h
    rw [law35_TagsPuts_L4, if_neg (by rw [e']; simp)]
    exact ⟨_, rfl⟩
  | id :: r, pre, m + 1, h, hm => by
    have hlen : pre.length < ids.length := by rw [h]; simp
    have hix : ix ids (pre.length : Int) = some id := by unfold ix; rw [if_pos (by omega), h]; simp
    have hix2 : ix (ids.map (val x)) (pre.length : Int) = some (val x id) := by unfold ix; rw [if_pos (by omega), h]; simp
    obtain ⟨y, ih⟩ := puts_L4 h2 a e t hl hx hv r (pre ++ [id]) m (by simp [h]) (by simpa using hm)
    have e2 : ((pre.length : Int) + 1) = (((pre ++ [id]).length : Nat) : Int) := by simp
    refine ⟨y, ?_⟩
    have key : (if (decide (id ≠ a.ID) || e.isSome) = true then (some id).bind fun x92 =>
      (tags_Index_Tags x2 x92).bind fun x94 =>
      (some (val x id)).bind fun x97 =>
      (base_Texts x94 x97).bind fun x99 =>
      some (!x99) else some false) = some false := by
      by_cases q : id ≠ a.ID ∨ e.isSome = true
      · rw [if_pos (by simpa using q), Option.bind_some, tags_eq h2, Option.bind_some, Option.bind_some]
        have := hx id q
        unfold val at this
        rw [show val x id = (mget x.entries id).getD [] from rfl, this, texts_eq (Nat.le_trans (hv id) (by omega))]; rfl
      · rw [if_neg (by simpa using q)]
    rw [law35_TagsPuts_L4, if_pos (by simp; omega), hix, Option.bind_some, hix2, key, Option.bind_some, if_neg (by simp), chk_bind (by constructor <;> omega), e2, ih]
theorem puts_L6 (a : S_law35_Act) {n : Nat} {C : List Str} (hC : C.length ≤ 100) (hn : 200 ≤ n) (ha : a.Tags.length ≤ 100) (hm : ∀ w ∈ a.Tags, w ∈ C) : ∀ (r : List Str) (i m : Nat), a.Tags.drop i = r → i + r.length = a.Tags.length → r.length < m →
    ∃ y, law35_TagsPuts_L6 a n C m (i : Int) = some (.go y)
  | [], i, m + 1, hd, hi, hn' => by
    simp only [List.length_nil, Nat.add_zero] at hi
    rw [law35_TagsPuts_L6, if_neg (by simp; omega)]
    exact ⟨_, rfl⟩
  | w :: r, i, m + 1, hd, hi, hn' => by
    obtain ⟨hix, hdr, hil⟩ := ix_drop hd
    simp only [List.length_cons] at hi hn'
    have hw : w ∈ C := hm w (List.mem_of_mem_drop (hd ▸ List.mem_cons_self ..))
    rw [law35_TagsPuts_L6, if_pos (by simp; omega), hix, Option.bind_some, has_eq w (by omega) (by omega), Option.bind_some, if_neg (by simp [hw]), chk_bind (by constructor <;> omega), show ((i : Int) + 1) = ((i + 1 : Nat) : Int) from by omega]
    exact puts_L6 a hC hn ha hm r (i + 1) m hdr (by omega) (by omega)
theorem puts_L8 (a : S_law35_Act) {n : Nat} {C : List Str} (hC : C.length ≤ 100) (hn : 200 ≤ n) (ha : a.Tags.length ≤ 100) (hm : ∀ w ∈ C, w ∈ a.Tags) : ∀ (r : List Str) (i m : Nat), C.drop i = r → i + r.length = C.length → r.length < m →
    ∃ y, law35_TagsPuts_L8 C n a m (i : Int) = some (.go y)
  | [], i, m + 1, hd, hi, hn' => by
    simp only [List.length_nil, Nat.add_zero] at hi
    rw [law35_TagsPuts_L8, if_neg (by simp; omega)]
    exact ⟨_, rfl⟩
  | w :: r, i, m + 1, hd, hi, hn' => by
    obtain ⟨hix, hdr, hil⟩ := ix_drop hd
    simp only [List.length_cons] at hi hn'
    have hw : w ∈ a.Tags := hm w (List.mem_of_mem_drop (hd ▸ List.mem_cons_self ..))
    rw [law35_TagsPuts_L8, if_pos (by simp; omega), hix, Option.bind_some, has_eq w (by omega) (by omega), Option.bind_some, if_neg (by simp [hw]), chk_bind (by constructor <;> omega), show ((i : Int) + 1) = ((i + 1 : Nat) : Int) from by omega]
    exact puts_L8 a hC hn ha hm r (i + 1) m hdr (by omega) (by omega)
theorem el_go {ρ σ γ : Type} {y : σ} {f : ρ → Option γ} {g : σ → Option γ} : (Fl.go y : Fl ρ σ).el f g = g y := rfl
theorem rem_eq (x : Ix) (id : Str) : tags_Index_Remove x id = some ((mget x.entries id).isSome, ⟨mdel x.entries id⟩) := rfl
theorem law35_TagsPuts_true (acts : List S_law35_Act) (a : S_law35_Act) (o0 : acts.length ≤ szMax ∧ ∀ y ∈ acts, S_law35_Act.ok y) (o1 : S_law35_Act.ok a) : ∃ n, law35_TagsPuts n acts a = some true := by
  refine ⟨acts.length + 1000, ?_⟩
  obtain ⟨b, hb, h40⟩ := fits_eq (n := acts.length + 1000) (by omega) o0.1
  obtain ⟨c, hc, _⟩ := fits_eq (acts := [a]) (n := acts.length + 1000) (by simp) (by simp only [List.length_cons, List.length_nil, szMax]; omega)
  unfold law35_TagsPuts
  rw [awake_eq, Option.bind_some, hb, hc]
  cases b with
  | false => rfl
  | true =>
    cases c with
    | false => rfl
    | true =>
    have hl := h40 rfl
    obtain ⟨y, x, e, hx⟩ := puts_L0 acts hl acts 0 (acts.length + 1000) ⟨[]⟩ rfl (by simp) (by omega) ⟨Nd.nil, by simp, by simp⟩
    simp only [Int.natCast_zero] at e
    have hxl := hx.len
    have hs : (sortS (keys x.entries)).length = x.entries.length := by rw [sortS_len]; unfold keys; simp
    obtain ⟨y2, e2⟩ := puts_L2 hx y (ids := sortS (keys x.entries)) (by omega) (sortS (keys x.entries)) [] (acts.length + 1000) rfl (by omega)
    simp only [List.map_nil, List.length_nil, Int.natCast_zero] at e2
    have hx2 := hx.put a.ID a.Tags
    have hset : ∀ id, id ≠ a.ID ∨ (putF x a.ID a.Tags).1.isSome = true → val (putF x a.ID a.Tags).2 id = val x id := by
      intro id q
      unfold putF at q ⊢
      split
      · rfl
      · rename_i h1
        rw [if_neg h1] at q
        split
        · rename_i h2
          rw [if_pos h2] at q
          simp only [Option.isSome_none, Bool.false_eq_true, or_false] at q
          unfold val
          simp only
          rw [mget_mset, if_neg fun h => q h.symm]
        · rfl
    obtain ⟨y4, e4⟩ := puts_L4 hx2 a (putF x a.ID a.Tags).1 y2 (ids := sortS (keys x.entries)) (by omega) hset (fun id => hx.get id) (sortS (keys x.entries)) [] (acts.length + 1000) rfl (by omega)
    simp only [List.length_nil, Int.natCast_zero] at e4
    rw [Option.bind_some, if_neg (by simp), Option.bind_some, Bool.not_true, Option.bind_some, if_neg (by simp), Option.bind_some, if_neg (by simp), show tags_New = some ⟨[]⟩ from rfl, Option.bind_some, e, Option.bind_some]
    rw [ids_eq (show x.entries.length ≤ 100000 by omega), Option.bind_some, e2, Option.bind_some, put_eq x a.ID a.Tags, Option.bind_some, e4, Option.bind_some]
    have hids : tags_Index_IDs x = some (sortS (keys x.entries)) := ids_eq (by omega)
    have htx : base_Texts (sortS (keys x.entries)) (sortS (keys x.entries)) = some true := texts_eq (by omega)
    show (if (putF x a.ID a.Tags).1.isSome = true then _ else _) = _
    by_cases h1 : 16 < a.Tags.length
    · have hp : putF x a.ID a.Tags = (some 5, x) := by unfold putF; rw [if_pos h1]
      have h16 : decide ((a.Tags.length : Int) > 16) = true := by simp; omega
      rw [hp]
      dsimp only
      rw [if_pos (by simp), show base_Is (some 5) 5 = some true from rfl, Option.bind_some, h16, if_pos (by simp), Option.bind_some, if_pos (by simp), hids, Option.bind_some, htx]
      rfl
    · by_cases h2 : a.Tags.all good = true
      · have hp : putF x a.ID a.Tags = (none, ⟨mset x.entries a.ID (Go.Lib.compact (sortS a.Tags))⟩) := by unfold putF; rw [if_neg h1, if_pos h2]
        rw [hp] at hx2 ⊢
        have hcl := compact_len a.Tags
        have hm : ∀ w, w ∈ Go.Lib.compact (sortS a.Tags) ↔ w ∈ a.Tags := fun w => by rw [mem_comp, mem_sortS]
        generalize hC : Go.Lib.compact (sortS a.Tags) = C at *
        have hg : mget (mset x.entries a.ID C) a.ID = some C := by rw [mget_mset, if_pos rfl]
        obtain ⟨y6, e6⟩ := puts_L6 a (n := acts.length + 1000) (C := C) (by omega) (by omega) (by omega) (fun w hw => (hm w).2 hw) a.Tags 0 (acts.length + 1000) rfl (by simp) (by omega)
        obtain ⟨y8, e8⟩ := puts_L8 a (n := acts.length + 1000) (C := C) (by omega) (by omega) (by omega) (fun w hw => (hm w).1 hw) C 0 (acts.length + 1000) rfl (by simp) (by omega)
        simp only [Int.natCast_zero] at e6 e8
        have hx3 := hx2.del a.ID
        have hx4 := hx3.del a.ID
        have hg3 : mget (mdel (mset x.entries a.ID C) a.ID) a.ID = none := by rw [mget_mdel, if_pos rfl]
        have hg4 : mget (mdel (mdel (mset x.entries a.ID C) a.ID) a.ID) a.ID = none := by rw [mget_mdel, if_pos rfl]
        have hk4 : a.ID ∉ keys (mdel (mdel (mset x.entries a.ID C) a.ID) a.ID) := fun q => by
          rw [mem_keys, hg4] at q; cases q
        have hl4 := hx4.len
        have hs4 : (sortS (keys (mdel (mdel (mset x.entries a.ID C) a.ID) a.ID))).length = (mdel (mdel (mset x.entries a.ID C) a.ID) a.ID).length := by rw [sortS_len]; unfold keys; simp
        simp only at hl4
        rw [if_neg (by simp), tags_eq hx2, Option.bind_some]
        dsimp only
        rw [hg, Option.getD_some, e6, Option.bind_some]
        show ((law35_TagsPuts_L8 _ _ _ _ _).bind _) = _
        rw [e8, Option.bind_some, el_go, rem_eq, Option.bind_some]
        dsimp only
        rw [hg, if_pos (by simp), rem_eq, Option.bind_some]
        dsimp only
        rw [hg3, if_pos (by simp), tags_eq hx4, Option.bind_some]
        dsimp only
        rw [hg4, Option.bind_some, if_pos (by simp), ids_eq (by simp only; omega), Option.bind_some, has_eq _ (by simp only; omega) (by simp only; omega)]
        simp [mem_sortS, hk4]
      · have hp : putF x a.ID a.Tags = (some 2, x) := by unfold putF; rw [if_neg h1, if_neg h2]
        rw [hp]
        dsimp only
        rw [if_pos (by simp), show base_Is (some 2) 5 = some false from rfl, Option.bind_some, Bool.false_and, if_neg (by simp), show base_Is (some 2) 2 = some true from rfl, Option.bind_some, Option.bind_some, if_pos (by simp), hids, Option.bind_some, htx]
        rfl
