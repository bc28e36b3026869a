import Derived.Test.YtpmdpondlmkojaaFanoutT
import Derived.Test.YtpmdpondlmkojaaR
set_option linter.unusedVariables false
set_option linter.unusedSimpArgs false
open Go Go.SL Go.Proofs Fanout Pl
/-- The end of a round. -/
theorem plays_tail {m : Nat} {s : Fs} {r : S_ref28_Stream} {α : Type} (h : PR m s r) (hm : m ≤ 1000) (k : Option (Fl Bool α)) :
    ((fanout_Stream_Readers s).bind fun x175 => (ref28_IDs r).bind fun x177 => (base_Ints x175 x177).bind fun x178 =>
      (if (!x178) = true then some true else (fanout_Stream_Least s).bind fun x182 => (ref28_Least r).bind fun x184 => some (decide (x182 ≠ x184))).bind fun x186 =>
      (if x186 = true then some true else (fanout_Stream_Written s).bind fun x189 => some (decide (x189 ≠ (r.Data.length : Int)))).bind fun x194 =>
      if x194 = true then some (Fl.ret false) else k) = k := by
  obtain ⟨h1, h2, h3, ⟨y, h4, h5⟩, h6⟩ := h.ends hm
  rw [h1, h2, h4, h5, h6]
  simp only [Option.bind_some, h3, Bool.not_true, Bool.false_eq_true, if_false, ne_eq, not_true_eq_false, decide_false]
theorem plays_L0 {n : Nat} (hn : n = 1000) : ∀ (l : List S_law28_Step) (i m : Nat) {s : Fs} {r : S_ref28_Stream}, m + l.length ≤ 900 → PR m s r → (∀ x ∈ l, x.Data.length ≤ 3000) →
    ∃ t, law28_FanoutPlays_L0b n l i r.Limit r.State r.Data r.Readers s = some (.go t)
  | [], i, m, s, r, _, _, _ => ⟨_, by rw [law28_FanoutPlays_L0b]⟩
  | x :: l, i, m, s, r, hm, h, hx => by
    simp only [List.length_cons] at hm
    have next : ∀ {s' : Fs} {r' : S_ref28_Stream}, PR (m + 1) s' r' → ∃ t, law28_FanoutPlays_L0b n l (i + 1) r'.Limit r'.State r'.Data r'.Readers s' = some (.go t) := fun h' => plays_L0 hn l (i + 1) (m + 1) (by omega) h' fun y hy => hx y (by simp [hy])
    have e0 : (⟨r.Limit, r.State, r.Data, r.Readers⟩ : S_ref28_Stream) = r := rfl
    have join : ∀ {s' : Fs} {r' : S_ref28_Stream} {b : Option (Fl Bool (Int × Int × Str × (List S_ref28_Reader) × S_fanout_Stream))}, PR (m + 1) s' r' → b = some (Fl.go (r'.Limit, r'.State, r'.Data, r'.Readers, s')) →
        ∃ t, (b.bind fun s927 => s927.el (fun q => some (Fl.ret q)) fun t927 =>
    (fanout_Stream_Readers t927.2.2.2.2).bind fun x175 =>
    (ref28_IDs (⟨t927.1, t927.2.1, t927.2.2.1, t927.2.2.2.1⟩ : S_ref28_Stream)).bind fun x177 =>
    (base_Ints x175 x177).bind fun x178 =>
    (if (!x178) = true then some true else (fanout_Stream_Least t927.2.2.2.2).bind fun x182 =>
    (ref28_Least (⟨t927.1, t927.2.1, t927.2.2.1, t927.2.2.2.1⟩ : S_ref28_Stream)).bind fun x184 =>
    some (decide (x182 ≠ x184))).bind fun x186 =>
    (if x186 = true then some true else (fanout_Stream_Written t927.2.2.2.2).bind fun x189 =>
    some (decide (x189 ≠ (t927.2.2.1.length : Int)))).bind fun x194 =>
    if x194 = true then
    some (Fl.ret false)
    else
    law28_FanoutPlays_L0b n l (i + 1) t927.1 t927.2.1 t927.2.2.1 t927.2.2.2.1 t927.2.2.2.2) = some (.go t) := by
      intro s' r' b h' hb
      obtain ⟨t, ht⟩ := next h'
      refine ⟨t, ?_⟩
      rw [hb, Option.bind_some]
      simp only [Fl.el]
      exact (plays_tail h' (by omega) _).trans ht
    obtain ⟨ea, ca, sa, ra, a1, a2, a3, a4⟩ := h.att (n := n) (by omega) hn x.ID x.N
    obtain ⟨ro, rq, re, rc, rs, rr, r1, r2, r3, r4⟩ := h.rd (n := n) (by omega) hn x.ID x.N
    obtain ⟨db, ds, drr, d1, d2, d3⟩ := h.det (n := n) (by omega) hn x.ID
    obtain ⟨we, wc, ws, wr, w1, w2, w3, w4⟩ := h.wr x.Data (hx x (by simp))
    rw [law28_FanoutPlays_L0b, e0]
    have hatt : ((fanout_Stream_Attach s x.ID x.N).bind fun x80 => (ref28_Attach n r x.ID x.N).bind fun x87 => (base_Num x80.1).bind fun x91 => if decide (x91 ≠ x87.2) = true then some (Fl.ret false) else some (Fl.go (x87.1.Limit, x87.1.State, x87.1.Data, x87.1.Readers, x80.2))) = some (Fl.go (ra.Limit, ra.State, ra.Data, ra.Readers, sa)) := by
      rw [a1, a2]; simp only [Option.bind_some, a3, ne_eq, not_true_eq_false, decide_false, Bool.false_eq_true, if_false]
    have hrd : ((fanout_Stream_Read s x.ID x.N).bind fun x105 => (ref28_Read n r x.ID x.N).bind fun x115 => (base_Num x105.2.2.1).bind fun x121 =>
        (if (decide (x121 ≠ x115.2.2.2) || decide (x105.2.1 ≠ x115.2.2.1)) = true then some true else (base_Bytes x105.1 x115.2.1).bind fun x132 => some (!x132)).bind fun x134 =>
        if x134 = true then some (Fl.ret false) else some (Fl.go (x115.1.Limit, x115.1.State, x115.1.Data, x115.1.Readers, x105.2.2.2))) = some (Fl.go (rr.Limit, rr.State, rr.Data, rr.Readers, rs)) := by
      rw [r1, r2]; simp only [Option.bind_some, r3, ne_eq, not_true_eq_false, decide_false, Bool.or_self, Bool.false_eq_true, if_false, base_Bytes, decide_true, Bool.not_true]
    have hdt : ((ref28_Detach n r x.ID).bind fun x141 => (fanout_Stream_Detach s x.ID).bind fun x147 => if (!(x147.1 == x141.2)) = true then some (Fl.ret false) else some (Fl.go (x141.1.Limit, x141.1.State, x141.1.Data, x141.1.Readers, x147.2))) = some (Fl.go (drr.Limit, drr.State, drr.Data, drr.Readers, ds)) := by
      rw [d1, d2]; simp only [Option.bind_some, beq_self_eq_true, Bool.not_true, Bool.false_eq_true, if_false]
    have hwr : ((ref28_Write r x.Data).bind fun x62 => (fanout_Stream_Write s x.Data).bind fun x68 => (base_Num x68.1).bind fun x69 => if decide (x69 ≠ x62.2) = true then some (Fl.ret false) else some (Fl.go (x62.1.Limit, x62.1.State, x62.1.Data, x62.1.Readers, x68.2))) = some (Fl.go (wr.Limit, wr.State, wr.Data, wr.Readers, ws)) := by
      rw [w1, w2]; simp only [Option.bind_some, w3, ne_eq, not_true_eq_false, decide_false, Bool.false_eq_true, if_false]
    obtain ⟨se, ee, hen⟩ : ∃ e s', fanout_Stream_End s = some (e, s') := by rw [end_if]; split <;> exact ⟨_, _, rfl⟩
    obtain ⟨sb, eb, hab⟩ : ∃ e s', fanout_Stream_Abort s = some (e, s') := by rw [abort_if]; split <;> exact ⟨_, _, rfl⟩
    obtain ⟨c1, f1, f2, f3, f4⟩ := h.fin 2 (.inl rfl) (by rw [← end_if]; exact hen)
    obtain ⟨c2, g1, g2, g3, g4⟩ := h.fin 3 (.inr rfl) (by rw [← abort_if]; exact hab)
    have hen' : ((ref28_Close r 2).bind fun x154 => (fanout_Stream_End s).bind fun x158 => (base_Num x158.1).bind fun x159 => if decide (x159 ≠ x154.2) = true then some (Fl.ret false) else some (Fl.go (x154.1.Limit, x154.1.State, x154.1.Data, x154.1.Readers, x158.2))) = some (Fl.go (f1.Limit, f1.State, f1.Data, f1.Readers, ee)) := by
      rw [f2, hen]; simp only [Option.bind_some, f3, ne_eq, not_true_eq_false, decide_false, Bool.false_eq_true, if_false]
    have hab' : ((ref28_Close r 3).bind fun x166 => (fanout_Stream_Abort s).bind fun x170 => (base_Num x170.1).bind fun x171 => if decide (x171 ≠ x166.2) = true then some (Fl.ret false) else some (Fl.go (x166.1.Limit, x166.1.State, x166.1.Data, x166.1.Readers, x170.2))) = some (Fl.go (g1.Limit, g1.State, g1.Data, g1.Readers, eb)) := by
      rw [g2, hab]; simp only [Option.bind_some, g3, ne_eq, not_true_eq_false, decide_false, Bool.false_eq_true, if_false]
    generalize ((x.What % (12 : UInt8)).toNat : Int) = w
    by_cases c3 : decide (w = 3) = true
    · rw [if_pos c3]; exact join a4 hatt
    rw [if_neg c3]
    by_cases c4 : decide (w = 4) = true
    · rw [if_pos c4]; exact join a4 hatt
    rw [if_neg c4]
    by_cases c5 : decide (w = 5) = true
    · rw [if_pos c5]; exact join r4 hrd
    rw [if_neg c5]
    by_cases c6 : decide (w = 6) = true
    · rw [if_pos c6]; exact join r4 hrd
    rw [if_neg c6]
    by_cases c7 : decide (w = 7) = true
    · rw [if_pos c7]; exact join r4 hrd
    rw [if_neg c7]
    by_cases c8 : decide (w = 8) = true
    · rw [if_pos c8]; exact join r4 hrd
    rw [if_neg c8]
    by_cases c9 : decide (w = 9) = true
    · rw [if_pos c9]; exact join d3 hdt
    rw [if_neg c9]
    by_cases c10 : decide (w = 10) = true
    · rw [if_pos c10]; exact join f4 hen'
    rw [if_neg c10]
    by_cases c11 : decide (w = 11) = true
    · rw [if_pos c11]; exact join g4 hab'
    rw [if_neg c11]
    exact join w4 hwr
theorem law28_FanoutPlays_true (limit : Int) (script : List S_law28_Step) (o0 : InK .i64 limit) (o1 : script.length ≤ szMax ∧ ∀ y0 ∈ script, S_law28_Step.ok y0) : ∃ n, law28_FanoutPlays n limit script = some true := by
  refine ⟨1000, ?_⟩
  unfold law28_FanoutPlays
  rcases large_eq script o1.1 (fun x hx => (o1.2 x hx).2.2.2.1) with hL | ⟨hL, h80, hd⟩
  · simp [hL]
  rw [hL, Option.bind_some, if_neg (by decide), awake_eq, Option.bind_some, Option.bind_some]
  simp only [Bool.not_true, Bool.false_eq_true, if_false]
  by_cases hl : limit < 1 ∨ limit > 65536
  · have hb : (decide (limit < 1) || decide (limit > 65536)) = true := by simpa using hl
    have h1 : fanout_New limit = some (none, some 1) := by unfold fanout_New; rw [if_pos hb]
    have h2 : ref28_New limit = some (⟨0, 0, [], []⟩, 1) := by unfold ref28_New; rw [if_pos hb]
    rw [h1, h2]
    rfl
  · have hb : ¬ (decide (limit < 1) || decide (limit > 65536)) = true := by simpa using hl
    have h1 : fanout_New limit = some (some ⟨limit, 1, [], []⟩, none) := by unfold fanout_New; rw [if_neg hb]
    have h2 : ref28_New limit = some (⟨limit, 1, [], []⟩, 0) := by unfold ref28_New; rw [if_neg hb]
    have h3 : base_Num none = some 0 := rfl
    obtain ⟨t, ht⟩ := plays_L0 (n := 1000) rfl script 0 0 (s := ⟨limit, 1, [], []⟩) (r := ⟨limit, 1, [], []⟩) (by omega)
      ⟨rfl, by simp only; omega, rfl, .inl rfl, rfl, by simp only [List.length_nil]; omega, Nd.nil, List.Pairwise.nil, fun k => rfl, fun k v hv => by simp at hv, Nat.le_refl _⟩ hd
    rw [h1, h2]
    simp only [Option.bind_some, Option.elim, h3, ne_eq, not_true_eq_false, decide_false, beq_self_eq_true, Bool.not_true, Bool.or_self, Bool.false_eq_true, if_false]
    rw [chk_bind o1.1, ht]
    rfl
