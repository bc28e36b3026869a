import Derived.Test.YtagbphlipeepnaaHealthU
import Derived.Test.YtagbphlipeepnaaR
set_option linter.unusedVariables false
set_option linter.unusedSimpArgs false
open Go Go.SL Go.Proofs Health Pl
abbrev RN := S_ref32_Node
/-! ### the reference's list -/
def getR (l : List RN) (n : Str) : RN := (l.find? fun x => decide (x.Name = n)).getD ⟨n, [], false⟩
theorem get_L0 (n : Str) : ∀ (l : List RN) (i : Nat), ref32_Get_L0 n l i = some (match l.find? fun x => decide (x.Name = n) with | some x => .ret x | none => .go ())
  | [], i => by rw [ref32_Get_L0]; rfl
  | x :: l, i => by
    rw [ref32_Get_L0]
    by_cases h : x.Name = n
    · simp [h]
    · simp only [h, decide_false, Bool.false_eq_true, if_false, List.find?_cons, get_L0 n l]
theorem get_eq {l : List RN} (n : Str) (h : l.length ≤ 1000) : ref32_Get l n = some (getR l n) := by
  unfold ref32_Get getR
  rw [chk_bind (by simp only [szMax]; omega), get_L0]
  cases l.find? fun x => decide (x.Name = n) <;> rfl
theorem get_name (l : List RN) (n : Str) : (getR l n).Name = n := by
  unfold getR
  cases h : l.find? fun x => decide (x.Name = n) with
  | none => rfl
  | some x => simpa using List.find?_some h
/-- The state machine of the reference. -/
def refS (r f : Int) (s : S_health_status) (ok : Bool) : S_health_status := repS r f s ok
def ofs (r f : Int) (l : List Bool) : S_health_status := l.foldl (repS r f) ⟨0, 0⟩
theorem of_L0 {r f : Int} (hr : 1 ≤ r ∧ r ≤ 100) (hf : 1 ≤ f ∧ f ≤ 100) : ∀ (l : List Bool) (i : Nat) (s : S_health_status), ((0 ≤ s.run ∧ s.run ≤ 100) ∧ (s.state = 0 ∨ s.state = 1 ∨ s.state = 2)) → (s.state = 0 → s.run = 0) →
    ref32_Of_L0 f r l i s.state s.run = some ((l.foldl (repS r f) s).state, (l.foldl (repS r f) s).run)
  | [], i, s, _, _ => by rw [ref32_Of_L0]; rfl
  | b :: l, i, s, h, h0 => by
    have ih := of_L0 hr hf l (i + 1) (repS r f s b) (repS_in hr.2 hf.2 h) (fun e => absurd e (repS_ne r f s b))
    rw [List.foldl_cons, ← ih, ref32_Of_L0]
    obtain ⟨q, n⟩ := s
    simp only at h h0 ⊢
    have hI : InI (n + 1) := by constructor <;> omega
    have hr0 : ¬ (0 ≥ r) := by omega
    rcases h.2 with rfl | rfl | rfl
    · have := h0 rfl; subst this
      cases b <;> simp [repS]
    · cases b
      · simp only [repS]
        by_cases hc : n + 1 ≥ f <;> simp [hc, chk_t hI, hr0]
      · simp [repS]
    · cases b
      · simp [repS]
      · simp only [repS]
        by_cases hc : n + 1 ≥ r <;> simp [hc, chk_t hI, hr0]
theorem of_eq {r f : Int} (hr : 1 ≤ r ∧ r ≤ 100) (hf : 1 ≤ f ∧ f ≤ 100) {l : List Bool} (hl : l.length ≤ 1000) : ref32_Of l r f = some (ofs r f l).state := by
  unfold ref32_Of
  rw [chk_bind (by simp only [szMax]; omega)]
  have := of_L0 hr hf l 0 ⟨0, 0⟩ (by simp) (fun _ => rfl)
  simp only at this
  rw [this]; rfl
/-! ### Put -/
def putR (n : RN) : List RN → List RN
  | [] => [n]
  | x :: l => if n.Name < x.Name then n :: x :: l else if n.Name = x.Name then n :: l else x :: putR n l
def Asc (l : List RN) : Prop := l.Pairwise fun a b => a.Name < b.Name
theorem put_done (n : RN) : ∀ (l : List RN) (i : Nat) (o : List RN), (∀ x ∈ l, x.Name ≠ n.Name) → o.length + l.length ≤ 1000 → ref32_Put_L0 n l i o true = some (o ++ l, true)
  | [], i, o, _, _ => by rw [ref32_Put_L0]; simp
  | x :: l, i, o, h, hl => by
    simp only [List.length_cons] at hl
    have ih := put_done n l (i + 1) (o ++ [x]) (fun y hy => h y (by simp [hy])) (by simp; omega)
    rw [ref32_Put_L0]
    simp only [Bool.not_true, Bool.false_and, Bool.false_eq_true, if_false, h x (by simp), ne_eq, not_false_eq_true, decide_true, if_true]
    rw [chk_bind (by simp only [List.length_cons, List.length_nil, lim]; omega), ih]; simp
theorem put_L0 (n : RN) : ∀ (l : List RN) (i : Nat) (o : List RN), Asc l → o.length + l.length + 1 ≤ 1000 →
    ∃ o' b, ref32_Put_L0 n l i o false = some (o', b) ∧ o'.length ≤ 1000 ∧ (if b = false then o' ++ [n] else o') = o ++ putR n l
  | [], i, o, _, h => ⟨o, false, by rw [ref32_Put_L0], by simp at h; omega, by simp [putR]⟩
  | x :: l, i, o, ha, h => by
    simp only [List.length_cons] at h
    have hx := List.pairwise_cons.1 ha
    rw [ref32_Put_L0]
    rcases Classical.em (n.Name < x.Name) with hlt | hlt
    · have hne : x.Name ≠ n.Name := fun e => List.lt_irrefl _ (e ▸ hlt)
      have hd := put_done n l (i + 1) ((o ++ [n]) ++ [x]) (fun y hy e => List.lt_irrefl _ (List.lt_trans hlt (e ▸ hx.1 y hy))) (by simp; omega)
      refine ⟨((o ++ [n]) ++ [x]) ++ l, true, ?_, ?_, ?_⟩
      · simp only [Bool.not_false, Bool.true_and, bl_t.2 hlt, Bool.true_or, if_true, hne, ne_eq, not_false_eq_true, decide_true]
        rw [chk_bind (by simp only [List.length_cons, List.length_nil, lim]; omega), chk_bind (by simp only [List.length_append, List.length_cons, List.length_nil, lim]; omega), hd]
      · simp; omega
      · simp [putR, hlt]
    · rcases Classical.em (n.Name = x.Name) with he | he
      · have hd := put_done n l (i + 1) (o ++ [n]) (fun y hy e => List.lt_irrefl _ (show x.Name < x.Name by have := hx.1 y hy; rw [e, he] at this; exact this)) (by simp; omega)
        refine ⟨(o ++ [n]) ++ l, true, ?_, ?_, ?_⟩
        · simp only [Bool.not_false, Bool.true_and, bl, hlt, he, decide_true, decide_false, Bool.false_or, if_true, ne_eq, not_true_eq_false, Bool.false_eq_true, if_false]
          rw [chk_bind (by simp only [List.length_cons, List.length_nil, lim]; omega), hd]
          simp
        · simp; omega
        · simp [putR, hlt, he]
      · obtain ⟨o', b, e, h1, h2⟩ := put_L0 n l (i + 1) (o ++ [x]) hx.2 (by simp; omega)
        refine ⟨o', b, ?_, h1, ?_⟩
        · have he' : ¬ x.Name = n.Name := fun q => he q.symm
          simp only [Bool.not_false, Bool.true_and, bl, hlt, he, he', decide_true, decide_false, Bool.false_or, if_true, ne_eq, not_false_eq_true, Bool.false_eq_true, if_false]
          rw [chk_bind (by simp only [List.length_cons, List.length_nil, lim]; omega), e]
        · rw [h2]; simp [putR, hlt, he]
theorem put_eq {l : List RN} (n : RN) (ha : Asc l) (h : l.length + 1 ≤ 1000) : ref32_Put l n = some (putR n l) := by
  unfold ref32_Put
  obtain ⟨o, b, e, h1, h2⟩ := put_L0 n l 0 [] ha (by simpa using h)
  rw [chk_bind (by simp only [szMax]; omega), e, Option.bind_some]
  cases b
  · simp only [if_true, List.nil_append] at h2
    simp only [Bool.not_false, if_true]
    rw [chk_bind (by simp only [List.length_cons, List.length_nil, lim]; omega), h2]
  · simp at h2
    simp [h2]
theorem putR_mem (n : RN) : ∀ (l : List RN) (x : RN), x ∈ putR n l → x = n ∨ x ∈ l
  | [], x, h => by simp [putR] at h; exact .inl h
  | y :: l, x, h => by
    unfold putR at h
    split at h
    · simpa using h
    · split at h
      · rcases List.mem_cons.1 h with h | h
        · exact .inl h
        · exact .inr (by simp [h])
      · rcases List.mem_cons.1 h with h | h
        · exact .inr (by simp [h])
        · rcases putR_mem n l x h with h | h
          · exact .inl h
          · exact .inr (by simp [h])
theorem putR_asc (n : RN) : ∀ (l : List RN), Asc l → Asc (putR n l)
  | [], h => by simp [putR, Asc]
  | y :: l, h => by
    have hy := List.pairwise_cons.1 h
    unfold putR
    split
    · rename_i q
      exact List.pairwise_cons.2 ⟨fun z hz => by
        rcases List.mem_cons.1 hz with rfl | hz
        · exact q
        · exact List.lt_trans q (hy.1 z hz), h⟩
    · split
      · rename_i q; exact List.pairwise_cons.2 ⟨fun z hz => by rw [q]; exact hy.1 z hz, hy.2⟩
      · rename_i q1 q2
        refine List.pairwise_cons.2 ⟨fun z hz => ?_, putR_asc n l hy.2⟩
        rcases putR_mem n l z hz with rfl | hz
        · exact lt_of (List.not_lt.1 q1) fun e => q2 e.symm
        · exact hy.1 z hz
theorem get_putR (n : RN) (k : Str) : ∀ (l : List RN), Asc l → getR (putR n l) k = if n.Name = k then n else getR l k
  | [], h => by unfold putR getR; by_cases q : n.Name = k <;> simp [q]
  | y :: l, h => by
    have hy := List.pairwise_cons.1 h
    have ih := get_putR n k l hy.2
    have gc : ∀ (x : RN) (l : List RN), getR (x :: l) k = if x.Name = k then x else getR l k := fun x l => by
      unfold getR; by_cases q : x.Name = k <;> simp [q]
    unfold putR
    split
    · rw [gc]
    · split
      · rename_i q1 q2; rw [gc, gc]
        by_cases q : n.Name = k
        · simp [q]
        · rw [if_neg q, if_neg q, if_neg (fun e => q (q2.trans e))]
      · rename_i q1 q2; rw [gc, gc, ih]
        by_cases q : y.Name = k
        · rw [if_pos q, if_pos q, if_neg (fun e => q2 (e.trans q.symm))]
        · rw [if_neg q, if_neg q]
theorem get_mem {l : List RN} (ha : Asc l) {x : RN} (hx : x ∈ l) : getR l x.Name = x := by
  induction l with
  | nil => cases hx
  | cons y l ih =>
    have hy := List.pairwise_cons.1 ha
    unfold getR
    rcases List.mem_cons.1 hx with rfl | hx
    · simp
    · have : y.Name ≠ x.Name := ne_of (hy.1 x hx)
      simp only [List.find?_cons, this, decide_false]
      exact ih hy.2 hx
theorem putR_names (n : RN) {l : List RN} (hn : n.Name ∈ names5) (h : ∀ x ∈ l, x.Name ∈ names5) : ∀ x ∈ putR n l, x.Name ∈ names5 := fun x hx => by
  rcases putR_mem n l x hx with rfl | hx
  · exact hn
  · exact h x hx
theorem asc_len {l : List RN} (ha : Asc l) (h : ∀ x ∈ l, x.Name ∈ names5) : l.length ≤ 5 := by
  have hp : (l.map (·.Name)).Pairwise (· < ·) := List.pairwise_map.2 ha
  have := (nodup_len (nodup_of_lt hp) (fun x hx => by obtain ⟨y, hy, rfl⟩ := List.mem_map.1 hx; exact h y hy) names5_nd).length_eq
  have h2 := List.length_filter_le (fun x => decide (x ∈ l.map (·.Name))) names5
  have h3 : names5.length = 5 := rfl
  rw [List.length_map] at this
  omega
/-! ### Up -/
def upR (r f : Int) (x : RN) : Bool := !x.Drained && decide ((ofs r f x.Reports).state = 1)
theorem upR_L0 {r f : Int} (hr : 1 ≤ r ∧ r ≤ 100) (hf : 1 ≤ f ∧ f ≤ 100) : ∀ (l : List RN) (i : Nat) (o : List Str), (∀ x ∈ l, x.Reports.length ≤ 1000) → o.length + l.length ≤ 1000 →
    ref32_Up_L0 r f l i o = some (o ++ (l.filter (upR r f)).map (·.Name))
  | [], i, o, _, _ => by rw [ref32_Up_L0]; simp
  | x :: l, i, o, h, hl => by
    simp only [List.length_cons] at hl
    rw [ref32_Up_L0, of_eq hr hf (h x (by simp))]
    cases hd : x.Drained
    · by_cases hs : (ofs r f x.Reports).state = 1
      · simp only [hs, Bool.not_false, if_true, Option.bind_some, decide_true]
        rw [chk_bind (by simp only [List.length_cons, List.length_nil, lim]; omega), upR_L0 hr hf l _ _ (fun y hy => h y (by simp [hy])) (by simp; omega)]
        simp [upR, hd, hs]
      · simp only [hs, Bool.not_false, if_true, Option.bind_some, decide_false, Bool.false_eq_true, if_false]
        rw [upR_L0 hr hf l _ _ (fun y hy => h y (by simp [hy])) (by omega)]
        simp [upR, hd, hs]
    · simp only [Bool.not_true, Bool.false_eq_true, if_false, Option.bind_some]
      rw [upR_L0 hr hf l _ _ (fun y hy => h y (by simp [hy])) (by omega)]
      simp [upR, hd]
theorem texts_L0 (b : List Str) : ∀ (l pre : List Str), b = pre ++ l → base_Texts_L0 b l pre.length = some (.go ())
  | [], pre, h => by rw [base_Texts_L0]
  | x :: l, pre, h => by
    have ih := texts_L0 b l (pre ++ [x]) (by simp [h])
    rw [base_Texts_L0]
    have : ix b (pre.length : Int) = some x := by unfold ix; rw [if_pos (by omega), h]; simp
    rw [this]
    simpa using ih
theorem texts_eq {l : List Str} (h : l.length ≤ 1000) : base_Texts l l = some true := by
  unfold base_Texts
  rw [if_neg (by simp), chk_bind (by simp only [szMax]; omega)]
  have := texts_L0 l l [] rfl
  simp only [List.length_nil] at this
  rw [this]; rfl
/-! ### the program's checks and the reference's list -/
structure Rel (r f : Int) (m : Nat) (c : Ck) (l : List RN) : Prop where
  hr : c.rise = r
  hf : c.fall = f
  nd : Nod c
  kn : Kn c
  asc : Asc l
  nm : ∀ x ∈ l, x.Name ∈ names5
  st : ∀ n, stat c n = ofs r f (getR l n).Reports
  dr : ∀ n, dr c n = (getR l n).Drained
  len : ∀ n, (getR l n).Reports.length ≤ m
theorem ofs_ne {r f : Int} : ∀ {l : List Bool}, (decide ((ofs r f l).state ≠ 0)) = decide (0 < l.length) := by
  intro l
  rcases List.eq_nil_or_concat l with rfl | ⟨q, y, rfl⟩
  · rfl
  · have : ofs r f (q ++ [y]) = repS r f (ofs r f q) y := by unfold ofs; rw [List.foldl_append]; rfl
    simp only [List.concat_eq_append, this]
    simp [repS_ne]
theorem ofs_snoc (r f : Int) (l : List Bool) (b : Bool) : ofs r f (l ++ [b]) = repS r f (ofs r f l) b := by unfold ofs; rw [List.foldl_append]; rfl
theorem Rel.ups {r f : Int} {m : Nat} {c : Ck} {l : List RN} (h : Rel r f m c l) : ups c = (l.filter (upR r f)).map (·.Name) := by
  have hasc : (((l.filter (upR r f)).map (·.Name))).Pairwise (· < ·) := List.pairwise_map.2 (List.Pairwise.filter _ h.asc)
  refine eq_lt h.nd.lt hasc fun n => ?_
  rw [h.nd.mem, h.st, h.dr]
  simp only [List.mem_map, List.mem_filter, upR, Bool.and_eq_true, Bool.not_eq_true', decide_eq_true_eq]
  constructor
  · rintro ⟨h1, h2⟩
    have : getR l n ∈ l := by
      unfold getR at h1 ⊢
      cases hq : l.find? fun x => decide (x.Name = n) with
      | none => rw [hq] at h1; simp [ofs] at h1
      | some x => exact List.mem_of_find?_eq_some hq
    exact ⟨getR l n, ⟨this, h2, h1⟩, get_name l n⟩
  · rintro ⟨x, ⟨hx, h2, h1⟩, rfl⟩
    rw [get_mem h.asc hx]; exact ⟨h1, h2⟩
theorem Rel.repl {r f : Int} {m : Nat} {c : Ck} {l : List RN} (h : Rel r f m c l) : ∀ x ∈ l, x.Reports.length ≤ m := fun x hx => by
  have := h.len x.Name; rw [get_mem h.asc hx] at this; exact this
theorem Rel.len5 {r f : Int} {m : Nat} {c : Ck} {l : List RN} (h : Rel r f m c l) : l.length ≤ 5 := asc_len h.asc h.nm
theorem Rel.upsR {r f : Int} {m : Nat} {c : Ck} {l : List RN} (hr : 1 ≤ r ∧ r ≤ 100) (hf : 1 ≤ f ∧ f ≤ 100) (hm : m ≤ 1000) (h : Rel r f m c l) : ref32_Up l r f = some (Health.ups c) := by
  unfold ref32_Up
  have h5 := h.len5
  rw [chk_bind (by simp only [szMax]; omega), upR_L0 hr hf l 0 [] (fun x hx => Nat.le_trans (h.repl x hx) hm) (by simp; omega), h.ups]
  rfl
/-- The rest of a round. -/
theorem tail_L3 {L3 : S_law32_Limits → Nat → Nat → Option (Fl Bool Unit)} {x : S_law32_Limits} {m : Nat} {c : Ck} {l : List RN} (hr : 1 ≤ x.Rise ∧ x.Rise ≤ 100) (hf : 1 ≤ x.Fall ∧ x.Fall ≤ 100) (hm : m ≤ 1000) (h : Rel x.Rise x.Fall m c l)
    (e0 : ∀ i, L3 x 0 i = some (.go ()))
    (e1 : ∀ k i, L3 x (k + 1) i = ((law32_name (UInt8.ofNat i)).bind fun x146 => (ref32_Get l x146).bind fun x147 => (health_Checks_State c x147.Name).bind fun x151 => (ref32_Of x147.Reports x.Rise x.Fall).bind fun x158 =>
      (if decide (x151 ≠ x158) = true then some true else (health_Checks_Drained c x147.Name).bind fun x164 => some (!(x164 == x147.Drained))).bind fun x168 => if x168 = true then some (Fl.ret false) else L3 x k (i + 1))) :
    ∀ k i, L3 x k i = some (.go ())
  | 0, i => e0 i
  | k + 1, i => by
    have h5 := h.len5
    rw [e1, name_eq, Option.bind_some, get_eq _ (by omega), Option.bind_some, of_eq hr hf (Nat.le_trans (h.len _) hm)]
    simp only [state_eq, drained_eq, Option.bind_some, get_name, h.st, h.dr, ne_eq, not_true_eq_false, decide_false, Bool.false_eq_true, if_false, beq_self_eq_true, Bool.not_true]
    exact tail_L3 hr hf hm h e0 e1 k (i + 1)
theorem Rel.put {r f : Int} {m : Nat} {c c' : Ck} {l : List RN} {n : RN} (h : Rel r f m c l) (hr : c'.rise = r) (hf : c'.fall = f) (nd : Nod c') (kn : Kn c') (hn : n.Name ∈ names5)
    (h1 : ∀ k, stat c' k = if n.Name = k then ofs r f n.Reports else stat c k) (h2 : ∀ k, Health.dr c' k = if n.Name = k then n.Drained else Health.dr c k) (h3 : n.Reports.length ≤ m + 1) : Rel r f (m + 1) c' (putR n l) := by
  refine ⟨hr, hf, nd, kn, putR_asc n l h.asc, putR_names n hn h.nm, fun k => ?_, fun k => ?_, fun k => ?_⟩
  · rw [h1, get_putR n k l h.asc]; split
    · rfl
    · exact h.st k
  · rw [h2, get_putR n k l h.asc]; split
    · rfl
    · exact h.dr k
  · rw [get_putR n k l h.asc]; split
    · exact h3
    · exact Nat.le_succ_of_le (h.len k)
theorem inv_of {x : S_law32_Limits} {m : Nat} {c : Ck} {l : List RN} (hr : 1 ≤ x.Rise ∧ x.Rise ≤ 100) (hf : 1 ≤ x.Fall ∧ x.Fall ≤ 100) (h : Rel x.Rise x.Fall m c l) : Inv c :=
  ⟨by rw [h.hr]; exact hr.1, by rw [h.hr]; exact hr.2, by rw [h.hf]; exact hf.1, by rw [h.hf]; exact hf.2, fun k => by
    rw [h.st]
    generalize (getR l k).Reports = q
    have : ∀ (q : List Bool) (s : S_health_status), ((0 ≤ s.run ∧ s.run ≤ 100) ∧ (s.state = 0 ∨ s.state = 1 ∨ s.state = 2)) → ((0 ≤ (q.foldl (repS x.Rise x.Fall) s).run ∧ (q.foldl (repS x.Rise x.Fall) s).run ≤ 100) ∧ ((q.foldl (repS x.Rise x.Fall) s).state = 0 ∨ (q.foldl (repS x.Rise x.Fall) s).state = 1 ∨ (q.foldl (repS x.Rise x.Fall) s).state = 2)) := by
      intro q
      induction q with
      | nil => exact fun s h => h
      | cons b q ih => exact fun s h => ih _ (repS_in hr.2 hf.2 h)
    exact this q ⟨0, 0⟩ (by simp)⟩
theorem plays_L0 {x : S_law32_Limits} (hr : 1 ≤ x.Rise ∧ x.Rise ≤ 100) (hf : 1 ≤ x.Fall ∧ x.Fall ≤ 100) : ∀ (s : List S_law32_Step) (i m : Nat) {c : Ck} {l : List RN}, m + s.length ≤ 900 → Rel x.Rise x.Fall m c l → ∃ t, law32_HealthPlays_L0 x s i l c = some (.go t)
  | [], i, m, c, l, _, _ => ⟨_, by rw [law32_HealthPlays_L0]⟩
  | a :: s, i, m, c, l, hm, h => by
    simp only [List.length_cons] at hm
    have h5 := h.len5
    have inv := inv_of hr hf h
    have hn5 := nm5_mem a.Node
    have rest : ∀ {c' : Ck} {l' : List RN}, Rel x.Rise x.Fall (m + 1) c' l' → ∃ t, law32_HealthPlays_L0 x s (i + 1) l' c' = some (.go t) := fun h' => plays_L0 hr hf s (i + 1) (m + 1) (by omega) h'
    have hw : (a.What % 9).toNat < 9 := by rw [UInt8.toNat_mod]; exact Nat.mod_lt _ (by decide)
    have go : ∀ {c' : Ck} {l' : List RN}, Rel x.Rise x.Fall (m + 1) c' l' → health_Checks_Up c' = some (ups c') ∧ ref32_Up l' x.Rise x.Fall = some (ups c') ∧ base_Texts (ups c') (ups c') = some true := fun {c' l'} h' =>
      ⟨h'.nd.up, h'.upsR hr hf (by omega), texts_eq (by have := h'.nd.lenU; omega)⟩
    have hI : InI 5 := by constructor <;> omega
    have hlr := h.len (nm5 a.Node)
    have hgn := get_name l (nm5 a.Node)
    rw [law32_HealthPlays_L0, name_eq, Option.bind_some, get_eq _ (by omega), Option.bind_some]
    by_cases c1 : ((a.What % 9).toNat : Int) < 6
    · generalize hb : decide (((a.What % 9).toNat : Int) < 3) = b
      have hst : repS c.rise c.fall (stat c (nm5 a.Node)) b = ofs x.Rise x.Fall ((getR l (nm5 a.Node)).Reports ++ [b]) := by rw [ofs_snoc, h.hr, h.hf, h.st]
      have h' : Rel x.Rise x.Fall (m + 1) (rep c (nm5 a.Node) b) (putR ⟨(getR l (nm5 a.Node)).Name, (getR l (nm5 a.Node)).Reports ++ [b], (getR l (nm5 a.Node)).Drained⟩ l) := by
        refine h.put h.hr h.hf (h.nd.rep hn5 b) (h.kn.rep _ _) (by rw [hgn]; exact hn5) (fun k => ?_) (fun k => ?_) (by simp; omega)
        · rw [stat_rep, hgn, hst]
        · simp only [hgn, dr_rep]; split
          · rename_i e; rw [← h.dr, e]
          · rfl
      obtain ⟨t, ht⟩ := rest h'
      obtain ⟨g1, g2, g3⟩ := go h'
      refine ⟨t, ?_⟩
      simp only [c1, decide_true, if_true, List.nil_append]
      rw [chk_bind (by simp only [List.length_nil, lim]; omega), chk_bind (by simp only [List.length_cons, List.length_nil, lim]; omega), hgn, inv.report, Option.bind_some, of_eq hr hf (by simp; omega), Option.bind_some]
      rw [hgn] at h' g2 ht
      simp only [hst, ne_eq, not_true_eq_false, decide_false, Bool.false_eq_true, if_false]
      rw [put_eq _ h.asc (by omega), Option.bind_some, g1, Option.bind_some, g2, Option.bind_some, g3, Option.bind_some]
      simp only [Bool.not_true, Bool.false_eq_true, if_false]
      rw [chk_bind hI, tail_L3 (L3 := law32_HealthPlays_L3 _ _) (m := m + 1) hr hf (by omega) h' (fun i => by rw [law32_HealthPlays_L3]) (fun k i => by rw [law32_HealthPlays_L3])]
      exact ht
    · by_cases c2 : ((a.What % 9).toNat : Int) < 8
      · generalize hb : decide (((a.What % 9).toNat : Int) = 6) = b
        have h' : Rel x.Rise x.Fall (m + 1) (drain c (nm5 a.Node) b) (putR ⟨(getR l (nm5 a.Node)).Name, (getR l (nm5 a.Node)).Reports, b⟩ l) := by
          refine h.put h.hr h.hf (h.nd.drain _ b) h.kn (by rw [hgn]; exact hn5) (fun k => ?_) (fun k => ?_) (by simp; omega)
          · simp only [hgn]; split
            · rename_i e; rw [← h.st, e]; rfl
            · rfl
          · rw [dr_drain, hgn]
        obtain ⟨t, ht⟩ := rest h'
        obtain ⟨g1, g2, g3⟩ := go h'
        refine ⟨t, ?_⟩
        simp only [c1, c2, decide_true, decide_false, Bool.false_eq_true, if_false, if_true]
        rw [hgn, drain_eq, Option.bind_some]
        rw [hgn] at h' g2 ht
        rw [put_eq _ h.asc (by omega), Option.bind_some, g1, Option.bind_some, g2, Option.bind_some, g3, Option.bind_some]
        simp only [Bool.not_true, Bool.false_eq_true, if_false]
        rw [chk_bind hI, tail_L3 (L3 := law32_HealthPlays_L3b _ _) (m := m + 1) hr hf (by omega) h' (fun i => by rw [law32_HealthPlays_L3b]) (fun k i => by rw [law32_HealthPlays_L3b])]
        exact ht
      · have h' : Rel x.Rise x.Fall (m + 1) (forget c (nm5 a.Node)) (putR ⟨(getR l (nm5 a.Node)).Name, [], (getR l (nm5 a.Node)).Drained⟩ l) := by
          refine h.put h.hr h.hf (h.nd.forget _) (h.kn.forget _) (by rw [hgn]; exact hn5) (fun k => ?_) (fun k => ?_) (by simp)
          · rw [stat_forget, hgn]; rfl
          · simp only [hgn, dr_forget]; split
            · rename_i e; rw [← h.dr, e]
            · rfl
        obtain ⟨t, ht⟩ := rest h'
        obtain ⟨g1, g2, g3⟩ := go h'
        refine ⟨t, ?_⟩
        have hk : (mget c.nodes (nm5 a.Node)).isSome = decide (((getR l (nm5 a.Node)).Reports.length : Int) > 0) := by
          rw [h.kn, h.st, ofs_ne]
          congr 1; simp only [gt_iff_lt, eq_iff_iff]; omega
        simp only [c1, c2, decide_true, decide_false, Bool.false_eq_true, if_false, if_true]
        rw [hgn, forget_eq, Option.bind_some]
        rw [hgn] at h' g2 ht
        simp only [hk, beq_self_eq_true, Bool.not_true, Bool.false_eq_true, if_false]
        rw [put_eq _ h.asc (by omega), Option.bind_some, g1, Option.bind_some, g2, Option.bind_some, g3, Option.bind_some]
        simp only [Bool.not_true, Bool.false_eq_true, if_false]
        rw [chk_bind hI, tail_L3 (L3 := law32_HealthPlays_L3c _ _) (m := m + 1) hr hf (by omega) h' (fun i => by rw [law32_HealthPlays_L3c]) (fun k i => by rw [law32_HealthPlays_L3c])]
        exact ht
theorem law32_HealthPlays_true (x : S_law32_Limits) (script : List S_law32_Step) (o0 : S_law32_Limits.ok x) (o1 : script.length ≤ szMax ∧ ∀ y0 ∈ script, S_law32_Step.ok y0) :
    law32_HealthPlays x script = some true := by
  unfold law32_HealthPlays
  by_cases hl : (script.length : Int) > 100
  · simp [hl]
  simp only [hl, decide_false, Bool.false_eq_true, if_false, awake_eq, Option.bind_some, Bool.not_true]
  by_cases hx : 1 ≤ x.Rise ∧ x.Rise ≤ 100 ∧ 1 ≤ x.Fall ∧ x.Fall ≤ 100
  · have hb : (((decide (x.Rise < 1) || decide (x.Rise > 100)) || decide (x.Fall < 1)) || decide (x.Fall > 100)) = false := by simp; omega
    rw [new_eq _ _ hx]
    simp only [Option.bind_some, Option.elim, hb, Bool.false_eq_true, if_false, Option.isSome_none]
    obtain ⟨t, ht⟩ := plays_L0 (x := x) ⟨hx.1, hx.2.1⟩ hx.2.2 script 0 0 (c := ⟨x.Rise, x.Fall, [], []⟩) (l := []) (by omega)
      ⟨rfl, rfl, nod_made _ _, Kn.made _ _, List.Pairwise.nil, fun x hx => (by cases hx), fun n => rfl, fun n => rfl, fun n => Nat.le_refl _⟩
    rw [chk_bind o1.1, ht]; rfl
  · have hb : (((decide (x.Rise < 1) || decide (x.Rise > 100)) || decide (x.Fall < 1)) || decide (x.Fall > 100)) = true := by simp; omega
    have hn : health_New x.Rise x.Fall = some (none, some 1) := by unfold health_New; rw [if_pos (by simpa using hb)]
    rw [hn]
    simp only [Option.bind_some, Option.elim, hb, if_true]
    rfl
