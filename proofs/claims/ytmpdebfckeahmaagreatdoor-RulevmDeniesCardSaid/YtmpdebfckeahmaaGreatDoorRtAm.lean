import Derived.Test.YtmpdebfckeahmaaGreatDoorRtAll
set_option linter.unusedVariables false
set_option linter.unusedSimpArgs false
open Go Go.SL Go.Proofs Pl
namespace Rt
def brn2 (k : N) : List N := if k.Ab = 2 then [k] else k.Aa
end Rt
namespace Rt.Rc
abbrev I := Jh
abbrev Sg := Str → Option Int
def sTrue : Str := [116, 114, 117, 101]
def opw (x : M) : Str := if x.Ab = 17 then [43] else if x.Ab = 18 then [45] else if x.Ab = 19 then [42] else x.Ac
def XE (ρ : Env) : Nat → M → Prop
 | 0, _ => False
 | d + 1, x => x.Ac.length ≤ 3000 ∧
  ((x.Ab = 20 ∧ nmr x.Ac = true ∧ x.Aa = []) ∨ (x.Ab = 21 ∧ prt x.Ac = true ∧ x.Aa = []) ∨ (x.Ab = 22 ∧ x.Aa = []) ∨ (x.Ab = 23 ∧ ρ x.Ac ≠ 0 ∧ x.Aa = []) ∨
   (((x.Ab = 24 ∧ (fnc x.Ac).2 ≠ 0) ∨ x.Ab = 15) ∧ ∃ k, x.Aa = [k] ∧ XE ρ d k) ∨
   ((x.Ab = 13 ∨ x.Ab = 14 ∨ x.Ab = 17 ∨ x.Ab = 18 ∨ x.Ab = 19 ∨ (x.Ab = 16 ∧ cmp x.Ac = true)) ∧ ∃ k l, x.Aa = [k, l] ∧ XE ρ d k ∧ XE ρ d l))
theorem kidsE_mem {f : M → Except Fault Int} : ∀ {l : List M} {ts : List Int}, kidsE f l = .ok ts → ∀ k ∈ l, ∃ t, f k = .ok t
 | [], _, _, k, hk => by cases hk
 | a :: l, ts, h, k, hk => by
  rw [kidsE] at h
  cases q : f a with
  | error e => rw [q] at h; cases h
  | ok t =>
   rw [q] at h
   simp only at h
   cases q2 : kidsE f l with
   | error e => rw [q2] at h; cases h
   | ok us =>
    rcases List.mem_cons.1 hk with rfl | hk
    ·exact ⟨t, q⟩
    ·exact kidsE_mem q2 k hk
theorem len2 {α : Type} {l : List α} (h : (l.length : Int) = 2) : ∃ a b, l = [a, b] := by
 match l, h with
 | [a, b], _ => exact ⟨a, b, rfl⟩
 | [], h => simp at h
 | [a], h => simp at h
 | a :: b :: c :: l, h => simp at h; omega
theorem len1 {α : Type} {l : List α} (h : (l.length : Int) = 1) : ∃ a, l = [a] := by
 match l, h with
 | [a], _ => exact ⟨a, rfl⟩
 | [], h => simp at h
 | a :: b :: l, h => simp at h; omega
theorem len0 {α : Type} {l : List α} (h : (l.length : Int) = 0) : l = [] := by
 cases l with
 | nil => rfl
 | cons a l => simp at h; omega
theorem operands_20 {m : Nat} {x : M} {k : Int} (ht : x.Ac.length ≤ 3000) (hk : x.Ab = 20) (h : Ju m x = some k) (h2 : k ≠ -2) : nmr x.Ac = true := by
 unfold Ju at h
 rw [hk] at h
 rw [if_neg (by decide), if_neg (by decide), if_neg (by decide), if_neg (by decide), if_neg (by decide), if_neg (by decide), if_neg (by decide), if_pos (by decide), digits_eq ht, Option.bind_some] at h
 cases q : nmr x.Ac with
 | true => rfl
 | false => rw [q, if_pos (by simp)] at h; cases h; exact absurd rfl h2
theorem operands_21 {m : Nat} {x : M} {k : Int} (ht : x.Ac.length ≤ 3000) (hk : x.Ab = 21) (h : Ju m x = some k) (h2 : k ≠ -2) : prt x.Ac = true := by
 unfold Ju at h
 rw [hk] at h
 rw [if_neg (by decide), if_neg (by decide), if_neg (by decide), if_neg (by decide), if_neg (by decide), if_neg (by decide), if_neg (by decide), if_neg (by decide), if_pos (by decide), printable_eq (by omega), Option.bind_some] at h
 cases q : prt x.Ac with
 | true => rfl
 | false => rw [q, if_pos (by simp)] at h; cases h; exact absurd rfl h2
theorem XE_of {ρ : Env} : ∀ {d m : Nat} {x : M} {t : Int}, Ok d x → Jq m x = some true → tyE d ρ x = .ok t → XE ρ d x
 | 0, _, _, _, h, _, _ => h.elim
 | d + 1, m, x, t, h, hv, ht => by
  obtain ⟨h1, h2, h3⟩ := h
  obtain ⟨m', k, rfl, hk, k2, k3, k4⟩ := expression_inv hv
  rw [tyE] at ht
  cases q : kidsE (tyE d ρ) x.Aa with
  | error e => rw [q] at ht; cases ht
  | ok ts =>
   rw [q] at ht
   simp only at ht
   have hm := kidsE_mem q
   have rec_ : ∀ c ∈ x.Aa, XE ρ d c := fun c hc => by
    obtain ⟨t', h'⟩ := hm c hc
    exact XE_of (h3 c hc) (k4 c hc) h'
   refine ⟨h1, ?_⟩
   have two : k = 2 → ∃ k l, x.Aa = [k, l] ∧ XE ρ d k ∧ XE ρ d l := fun e => by
    obtain ⟨a, b, e⟩ := len2 (by rw [k3 (by omega), e])
    exact ⟨a, b, e, rec_ a (by rw [e]; simp), rec_ b (by rw [e]; simp)⟩
   rcases operands_len hk k2 with ⟨q1, e⟩ | ⟨q1, e⟩ | ⟨q1, e, e2⟩ | ⟨q1, e⟩ | ⟨q1, e⟩
   ·exact .inr (.inr (.inr (.inr (.inr ⟨by omega, two e⟩))))
   ·obtain ⟨a, e⟩ := len1 (by rw [k3 (by omega), e])
    exact .inr (.inr (.inr (.inr (.inl ⟨.inr q1, a, e, rec_ a (by rw [e]; simp)⟩))))
   ·exact .inr (.inr (.inr (.inr (.inr ⟨.inr (.inr (.inr (.inr (.inr ⟨q1, e2⟩)))), two e⟩))))
   ·have e0 : x.Aa = [] := len0 (by rw [k3 (by omega), e])
    rcases q1 with q1 | q1 | q1 | q1
    ·exact .inl ⟨q1, operands_20 h1 q1 hk k2, e0⟩
    ·exact .inr (.inl ⟨q1, operands_21 h1 q1 hk k2, e0⟩)
    ·exact .inr (.inr (.inl ⟨q1, e0⟩))
    ·refine .inr (.inr (.inr (.inl ⟨q1, fun hz => ?_, e0⟩)))
     unfold tyN at ht
     rw [if_neg (by omega), if_neg (by omega), if_neg (by omega), if_pos q1, if_pos hz] at ht
     cases ht
   ·unfold tyN at ht
    rw [if_neg (by omega), if_neg (by omega), if_neg (by omega), if_neg (by omega), if_pos q1] at ht
    by_cases q0 : (fnc x.Ac).2 = 0
    ·rw [if_pos q0] at ht; cases ht
    ·rw [if_neg q0] at ht
     by_cases q3 : ts = [(fnc x.Ac).1]
     ·have hl := kidsE_len q
      obtain ⟨a, e'⟩ := len1 (l := x.Aa) (by rw [← hl, q3]; rfl)
      exact .inr (.inr (.inr (.inr (.inl ⟨.inl ⟨q1, q0⟩, a, e', rec_ a (by rw [e']; simp)⟩))))
     ·rw [if_neg q3] at ht; cases ht
theorem ix0 {α : Type} {a : α} {l : List α} : ix (a :: l) 0 = some a := rfl
theorem ix1 {α : Type} {a b : α} {l : List α} : ix (a :: b :: l) 1 = some b := rfl
def acw (x : M) : Option Str :=
 if x.Ab = 4 then some x.Ac
 else if x.Ab = 5 then some ([104, 101, 97, 100, 101, 114, 58] ++ x.Ac)
 else if x.Ab = 6 then some ([118, 97, 114, 121, 58] ++ x.Ac)
 else if x.Ab = 7 then some [116, 97, 103]
 else if x.Ab = 8 then some [116, 116, 108]
 else if x.Ab = 9 then some [100, 101, 110, 121]
 else if x.Ab = 10 then some [112, 97, 115, 115]
 else if x.Ab = 11 then some [116, 111, 107, 101, 110]
 else none
def acs (x : M) : List I := match acw x with
 | some w => [⟨11, 0, w⟩]
 | none => []
theorem if_kids {m : Nat} {x : M} (hk : x.Ab = 2) (h : Jr (m + 1) x = some true) : ∃ e t, t.Ab = 12 ∧ (x.Aa = [e, t] ∨ ∃ o, (o.Ab = 12 ∨ o.Ab = 2) ∧ x.Aa = [e, t, o]) := by
 obtain ⟨l3, k1⟩ := stated_if2 hk h
 have k2 := stated_if hk h
 obtain ⟨m', e, _, hv⟩ := stated_inv h
 cases e
 obtain ⟨l2, _⟩ := hv hk
 match hx : x.Aa, l2, l3 with
 | [e, t], _, _ => exact ⟨e, t, k1 t (by rw [hx]; rfl), .inl rfl⟩
 | [e, t, o], _, _ =>
  refine ⟨e, t, k1 t (by rw [hx]; rfl), .inr ⟨o, ?_, rfl⟩⟩
  by_cases q : o.Ab = 12
  ·exact .inl q
  ·exact .inr (k2 o (by rw [hx]; simp) q)
 | [], h, _ => simp at h
 | [a], h, _ => simp at h
 | a :: b :: c :: e :: l, _, h => simp at h
theorem brn12 {t : M} (h : t.Ab = 12) : brn t = t.Aa := by unfold brn; rw [if_pos h]
theorem brn2 {t : M} (h : t.Ab = 2) : brn t = [t] := by unfold brn; rw [if_neg (by omega)]
def SF (x : M) : Prop :=
 x.Ab = 2 ∨ (x.Ab = 3 ∧ x.Aa.length = 1) ∨ (x.Ab = 4 ∧ x.Aa.length = 1 ∧ (x.Ac = [112, 97, 116, 104] ∨ x.Ac = [113, 117, 101, 114, 121])) ∨ (x.Ab = 5 ∧ x.Aa.length = 1 ∧ prt x.Ac = true) ∨ (x.Ab = 6 ∧ x.Aa.length = 0 ∧ prt x.Ac = true) ∨
 ((x.Ab = 7 ∨ x.Ab = 8 ∨ x.Ab = 9) ∧ x.Aa.length = 1) ∨ ((x.Ab = 10 ∨ x.Ab = 11) ∧ x.Aa.length = 0)
theorem one_len {m : Nat} {x : M} (h : (if decide ((x.Aa.length : Int) = 1) = true then (ix x.Aa 0).bind fun x121 => (Jq m x121).bind fun x123 => some x123 else some false).bind (fun x124 => some x124) = some true) : x.Aa.length = 1 := by
 by_cases q : (x.Aa.length : Int) = 1
 ·omega
 ·rw [if_neg (by simpa using q)] at h; cases h
theorem stated_form {m : Nat} {x : M} (ht : x.Ac.length ≤ 3000) (h : Jr (m + 1) x = some true) : SF x := by
 unfold SF
 by_cases q2 : x.Ab = 2
 ·exact .inl q2
 rw [Jr, if_neg (by simpa using q2)] at h
 by_cases q6 : x.Ab = 6
 ·rw [if_pos (by simpa using q6), printable_eq (by omega), Option.bind_some] at h
  simp only [Option.some.injEq, Bool.and_eq_true, decide_eq_true_eq] at h
  exact .inr (.inr (.inr (.inr (.inl ⟨q6, by omega, h.1⟩))))
 rw [if_neg (by simpa using q6)] at h
 by_cases q10 : x.Ab = 10
 ·rw [if_pos (by simpa using q10)] at h
  simp only [Option.some.injEq, Bool.and_eq_true, decide_eq_true_eq] at h
  exact .inr (.inr (.inr (.inr (.inr (.inr ⟨.inl q10, by omega⟩)))))
 rw [if_neg (by simpa using q10)] at h
 by_cases q11 : x.Ab = 11
 ·rw [if_pos (by simpa using q11)] at h
  simp only [Option.some.injEq, Bool.and_eq_true, decide_eq_true_eq] at h
  exact .inr (.inr (.inr (.inr (.inr (.inr ⟨.inr q11, by omega⟩)))))
 rw [if_neg (by simpa using q11)] at h
 by_cases q3 : x.Ab = 3
 ·rw [if_pos (by simpa using q3)] at h
  obtain ⟨b, hb, h⟩ := bnd h
  cases b with
  | false => rw [if_pos (by simp)] at h; cases h
  | true => rw [if_neg (by simp)] at h; exact .inr (.inl ⟨q3, one_len h⟩)
 rw [if_neg (by simpa using q3)] at h
 by_cases q4 : x.Ab = 4
 ·rw [if_pos (by simpa using q4)] at h
  cases q : (decide (x.Ac ≠ ([112, 97, 116, 104] : Str)) && decide (x.Ac ≠ ([113, 117, 101, 114, 121] : Str))) with
  | true => rw [q, if_pos rfl] at h; cases h
  | false =>
   rw [q, if_neg (by simp)] at h
   refine .inr (.inr (.inl ⟨q4, one_len h, ?_⟩))
   simp only [Bool.and_eq_false_iff, decide_eq_false_iff_not, ne_eq, Classical.not_not] at q
   exact q
 rw [if_neg (by simpa using q4)] at h
 by_cases q5 : x.Ab = 5
 ·rw [if_pos (by simpa using q5), printable_eq (by omega), Option.bind_some] at h
  cases q : prt x.Ac with
  | false => rw [q, if_pos (by simp)] at h; cases h
  | true => rw [q, if_neg (by simp)] at h; exact .inr (.inr (.inr (.inl ⟨q5, one_len h, rfl⟩)))
 rw [if_neg (by simpa using q5)] at h
 by_cases q7 : x.Ab = 7
 ·rw [if_pos (by simpa using q7)] at h
  split at h
  ·cases h
  ·exact .inr (.inr (.inr (.inr (.inr (.inl ⟨.inl q7, one_len h⟩)))))
 rw [if_neg (by simpa using q7)] at h
 by_cases q8 : x.Ab = 8
 ·rw [if_pos (by simpa using q8)] at h
  split at h
  ·cases h
  ·exact .inr (.inr (.inr (.inr (.inr (.inl ⟨.inr (.inl q8), one_len h⟩)))))
 rw [if_neg (by simpa using q8)] at h
 by_cases q9 : x.Ab = 9
 ·rw [if_pos (by simpa using q9)] at h
  split at h
  ·cases h
  ·exact .inr (.inr (.inr (.inr (.inr (.inl ⟨.inr (.inr q9), one_len h⟩)))))
 rw [if_neg (by simpa using q9)] at h
 cases h
def isJ (i : I) : Bool := decide (i.Op = 9) || decide (i.Op = 10)
def Bd (b : Nat) (l : List I) : Prop := ∀ i ∈ l, isJ i = true → (b : Int) ≤ i.N ∧ i.N ≤ b + l.length
theorem Bd.nil (b : Nat) : Bd b [] := fun i hi _ => by cases hi
theorem Bd.one {b : Nat} {i : I} (h : isJ i = false) : Bd b [i] := fun j hj hx => by
 rw [List.mem_singleton.1 hj, h] at hx; cases hx
theorem Bd.no {b : Nat} {l : List I} (h : l.all (fun i => !isJ i) = true) : Bd b l := fun i hi hj => by
 have := List.all_eq_true.1 h i hi
 rw [hj] at this; cases this
theorem Bd.jump {b t : Nat} {o : Int} {l : List I} (h : Bd (b + 1) l) (h1 : b ≤ t) (h2 : t ≤ b + 1 + l.length) : Bd b (⟨o, (t : Int), []⟩ :: l) := fun i hi hj => by
 rw [List.length_cons]
 rcases List.mem_cons.1 hi with rfl | hi
 ·simp only; omega
 ·have := h i hi hj; omega
theorem small_cnt_L0 {e : Int} {f : M → Int → Int → Option (Bool × Int)} {d : Nat} (hf : ∀ k z m, f k z (e - 1) = some (true, m) → m + cnt d k ≤ z ∧ 0 ≤ m) : ∀ (l : List M) (i : Nat) (y : Int) (r : Fl (Bool × Int) Int), Jau e f l i y = some r → (∀ m, r = Fl.go m → m + cntL d l ≤ y ∧ (0 ≤ y → 0 ≤ m)) ∧ ∀ z, r = Fl.ret z → z.1 = false
 | [], i, y, r, h => by
  cases h
  exact ⟨fun m e => by cases e; simp [cntL], fun z e => by cases e⟩
 | k :: l, i, y, r, h => by
  rw [Jau] at h
  obtain ⟨_, h⟩ := chkb h
  obtain ⟨x, hx, h⟩ := bnd h
  obtain ⟨b, m⟩ := x
  cases b with
  | false =>
   rw [if_pos (by simp)] at h
   cases h
   exact ⟨fun m e => (by cases e), fun z e => by cases e; rfl⟩
  | true =>
   rw [if_neg (by simp)] at h
   obtain ⟨h1, h2⟩ := hf k y m hx
   obtain ⟨g1, g2⟩ := small_cnt_L0 hf l (i + 1) m r h
   refine ⟨fun m' e => ?_, g2⟩
   obtain ⟨a1, a2⟩ := g1 m' e
   rw [cntL_cons]
   exact ⟨by omega, fun _ => a2 h2⟩
theorem small_cnt : ∀ (n d : Nat) (x : M) (z e m : Int), Jas n x z e = some (true, m) → m + cnt d x ≤ z ∧ 0 ≤ m
 | 0, d, x, z, e, m, h => by rw [Jas] at h; cases h
 | n + 1, d, x, z, e, m, h => by
  rw [Jas] at h
  obtain ⟨_, h⟩ := chkb h
  split at h
  ·cases h
  ·rename_i hq
   simp only [Bool.or_eq_true, decide_eq_true_eq, not_or] at hq
   obtain ⟨_, h⟩ := chkb h
   obtain ⟨r, hr, h⟩ := bnd h
   have key : ∀ d', (∀ m, r = Fl.go m → m + cntL d' x.Aa ≤ z - 1 ∧ (0 ≤ z - 1 → 0 ≤ m)) ∧ ∀ z, r = Fl.ret z → z.1 = false := fun d' => small_cnt_L0 (d := d') (fun k z m hk => small_cnt n d' k z _ m hk) x.Aa 0 (z - 1) r hr
   cases r with
   | ret q =>
    rw [el_ret] at h
    have := (key 0).2 q rfl
    cases h
    cases this
   | go q =>
    rw [el_go] at h
    cases h
    cases d with
    | zero =>
     have h0 := (key 0).1 m rfl
     have hc : cnt 0 x = 0 := rfl
     rw [hc]
     have : (0 : Int) ≤ cntL 0 x.Aa := by omega
     exact ⟨by omega, h0.2 (by omega)⟩
    | succ d =>
     have h1 := (key d).1 m rfl
     rw [cnt_eq]
     exact ⟨by omega, h1.2 (by omega)⟩
theorem Valid_small {n : Nat} {x : M} (h : Jab n x = some true) (d : Nat) : cnt d x ≤ 512 := by
 unfold Jab at h
 split at h
 ·cases h
 ·obtain ⟨s, hs, h⟩ := bnd h
  obtain ⟨b, m⟩ := s
  cases b with
  | false => rw [if_pos (by simp)] at h; cases h
  | true =>
   have := small_cnt n d x 512 32 m hs
   omega
def NL : Nat → M → Prop
 | 0, _ => True
 | d + 1, x => x.Ab ≠ 3 ∧ ∀ k ∈ x.Aa, NL d k
theorem NL.kid {x k : M} (h : ∀ e, NL e x) (hk : k ∈ x.Aa) : ∀ e, NL e k := fun e => (h (e + 1)).2 k hk
theorem NL.up : ∀ {d : Nat} {x : M}, Ok d x → NL d x → ∀ e, NL e x
 | 0, _, h, _, _ => h.elim
 | d + 1, x, _, _, 0 => trivial
 | d + 1, x, h, hn, e + 1 => ⟨hn.1, fun k hk => (NL.up (h.2.2 k hk) (hn.2 k hk)) e⟩
def acts1 : List Str := [[112, 97, 116, 104], [113, 117, 101, 114, 121], [116, 97, 103], [116, 116, 108], [100, 101, 110, 121]]
def acts0 : List Str := [[112, 97, 115, 115], [116, 111, 107, 101, 110]]
def sHeader : Str := [104, 101, 97, 100, 101, 114, 58]
def sVary : Str := [118, 97, 114, 121, 58]
def hp (s p : Str) : Bool := decide (s.length ≥ p.length) && decide (s.take p.length = p)
def actK (s : Str) : Option Int :=
 if s ∈ acts1 then some 1 else if s ∈ acts0 then some 0 else if hp s sHeader = true then (if prt s = true then some 1 else none) else if (hp s sVary && prt s) = true then some 0 else none
def eff (x : I) : Option (Int × Int) :=
 if x.Op = 1 then (if x.S = [] ∧ 0 ≤ x.N ∧ x.N ≤ 999999999 then some (0, 1) else none)
 else if x.Op = 2 then (if x.N = 0 ∧ prt x.S = true then some (0, 1) else none)
 else if x.Op = 3 then (if x.S = [] ∧ 0 ≤ x.N ∧ x.N ≤ 511 then some (0, 1) else none)
 else if x.Op = 4 then (if x.S = [] ∧ 0 ≤ x.N ∧ x.N ≤ 511 then some (1, 0) else none)
 else if x.Op = 5 then (if x.N = 0 ∧ x.S ∈ J9 then some (0, 1) else none)
 else if x.Op = 6 then (if x.N = 0 ∧ x.S ∈ JaV then some (1, 1) else none)
 else if x.Op = 7 then (if x.N = 0 ∧ x.S ∈ JaW then some (2, 1) else none)
 else if x.Op = 8 then (if x.N = 0 ∧ x.S = [] then some (1, 1) else none)
 else if x.Op = 9 then (if x.S = [] then some (0, 0) else none)
 else if x.Op = 10 then (if x.S = [] then some (1, 0) else none)
 else if x.Op = 11 then (if x.N = 0 then (actK x.S).map fun t => (t, 0) else none)
 else if x.Op = 12 then (if x.N = 0 ∧ x.S = [] then some (0, 0) else none)
 else none
theorem cont_L0 (v : Str) : ∀ (l : List Str) (i : Nat), ∃ r, JX v l i = some r ∧ (v ∈ l → ∃ j : Nat, r = Fl.ret (j : Int)) ∧ (v ∉ l → r = Fl.go ())
 | [], i => ⟨_, rfl, fun h => (by cases h), fun _ => rfl⟩
 | a :: l, i => by
  rw [JX]
  by_cases q : v = a
  ·rw [if_pos (by simpa using q)]
   exact ⟨_, rfl, fun _ => ⟨i, rfl⟩, fun h => absurd (by simp [q]) h⟩
  ·rw [if_neg (by simpa using q)]
   obtain ⟨r, hr, h1, h2⟩ := cont_L0 v l (i + 1)
   exact ⟨r, hr, fun h => h1 (by simpa [q] using h), fun h => h2 (by simpa [q] using h)⟩
theorem cont_eq {l : List Str} {v : Str} (h : l.length ≤ 1000) : JO l v = some (decide (v ∈ l)) := by
 unfold JO Jbp
 obtain ⟨r, hr, h1, h2⟩ := cont_L0 v l 0
 rw [chk_bind (by simp only [szMax]; omega), hr, Option.bind_some]
 by_cases q : v ∈ l
 ·obtain ⟨j, rfl⟩ := h1 q
  rw [el_ret, Option.bind_some, decide_eq_true q, decide_eq_true (by omega)]
 ·rw [h2 q, el_go, Option.bind_some, decide_eq_false q]; rfl
theorem sub0 (s : Str) (k : Nat) : subL s (0 : Int) (k : Int) = s.take k := by
 unfold subL
 simp
theorem hp_eq (s p : Str) : (decide ((s.length : Int) ≥ (p.length : Int)) && decide (subL s (0 : Int) (p.length : Int) = p)) = hp s p := by
 rw [sub0]
 unfold hp
 congr 1
 rw [decide_eq_decide]; omega
theorem hp_app {s p : Str} (h : hp s p = true) : s = p ++ s.drop p.length := by
 simp only [hp, Bool.and_eq_true, decide_eq_true_eq] at h
 conv => lhs; rw [← List.take_append_drop p.length s, h.2]
theorem prt_append (a b : Str) : prt (a ++ b) = (prt a && prt b) := by simp [prt]
theorem hp_ne {s p q : Str} (h : hp s p = true) (hn : ∀ t, hp (p ++ t) q = false) : hp s q = false := by
 rw [hp_app h]; exact hn _
theorem hdvary (s : Str) (h : hp s sVary = true) : hp s sHeader = false := by
 refine hp_ne h fun t => ?_
 unfold hp sVary sHeader
 simp
theorem a1vary {s : Str} (h : hp s sVary = true) : s ∉ acts1 := by
 intro hs
 have : ∀ w ∈ acts1, hp w sVary = false := by decide
 rw [this s hs] at h; cases h
theorem header_acts0 {s : Str} (h : hp s sHeader = true) : s ∉ acts0 := by
 intro hs
 have : ∀ w ∈ acts0, hp w sHeader = false := by decide
 rw [this s hs] at h; cases h
abbrev AS := Option (Int × (Int → Bool))
abbrev AB := Nat → AS
def joinA (a : AS) (d : Int) (σ : Int → Bool) : Option AS := match a with
 | none => some (some (d, σ))
 | some (d0, σ0) => if d0 = d then some (some (d0, fun n => σ0 n && σ n)) else none
def updA (B : AB) (i : Nat) (a : AS) : AB := fun j => if j = i then a else B j
def nxt (x : I) (σ : Int → Bool) : Int → Bool := if x.Op = 4 then (fun n => decide (n = x.N) || σ n) else σ
def far (len i : Nat) (x : I) (B : AB) (d : Int) (σ : Int → Bool) : Option AB :=
 if isJ x = true then (if x.N ≤ i ∨ x.N ≥ len then none else (joinA (B x.N.toNat) d σ).map fun a => updA B x.N.toNat a) else some B
def near (i : Nat) (x : I) (B : AB) (d : Int) (σ : Int → Bool) : Option AB :=
 if x.Op = 9 then some B else (joinA (B (i + 1)) d σ).map fun a => updA B (i + 1) a
def stA (len i : Nat) (x : I) (B : AB) (g : Int) : Option (AB × Int) :=
 match eff x, B i with
 | some (t, l), some (d, σ) =>
  if d < t ∨ ¬ ((x.Op = 12) ↔ (i + 1 = len)) ∨ (x.Op = 3 ∧ σ x.N = false) then none
  else if x.Op = 12 then (if d = 0 then some (B, max (max g d) (d + (l - t))) else none)
  else (far len i x B (d + (l - t)) (nxt x σ)).bind fun B1 => (near i x B1 (d + (l - t)) (nxt x σ)).map fun B2 => (B2, max (max g d) (d + (l - t)))
 | _, _ => none
def wk (len : Nat) : Nat → List I → AB → Int → Option Int
 | _, [], _, g => some g
 | i, x :: l, B, g => (stA len i x B g).bind fun r => wk len (i + 1) l r.1 r.2
theorem wk_cons {len i : Nat} {x : I} {l : List I} {B : AB} {g : Int} : wk len i (x :: l) B g = (stA len i x B g).bind fun r => wk len (i + 1) l r.1 r.2 := rfl
def Asc (l : List Int) : Prop := l.Pairwise (· < ·)
def wth (n : Int) : List Int → List Int
 | [] => [n]
 | e :: l => if n < e then n :: e :: l else if n = e then e :: l else e :: wth n l
theorem wth_mem {n m : Int} : ∀ {l : List Int}, m ∈ wth n l ↔ m = n ∨ m ∈ l
 | [] => by simp [wth]
 | e :: l => by
  rw [wth]
  split
  ·simp
  ·split
   ·rename_i h; subst h; simp
   ·rw [List.mem_cons, wth_mem, List.mem_cons]
    constructor
    ·rintro (h | h | h)
     ·exact .inr (.inl h)
     ·exact .inl h
     ·exact .inr (.inr h)
    ·rintro (h | h | h)
     ·exact .inr (.inl h)
     ·exact .inl h
     ·exact .inr (.inr h)
theorem wth_asc {n : Int} : ∀ {l : List Int}, Asc l → Asc (wth n l)
 | [], _ => by simp [wth, Asc]
 | e :: l, h => by
  obtain ⟨h1, h2⟩ := List.pairwise_cons.1 h
  rw [wth]
  split
  ·rename_i hn
   refine List.pairwise_cons.2 ⟨fun m hm => ?_, h⟩
   rcases List.mem_cons.1 hm with rfl | hm
   ·exact hn
   ·have := h1 m hm; omega
  ·split
   ·exact h
   ·refine List.pairwise_cons.2 ⟨fun m hm => ?_, wth_asc h2⟩
    rcases wth_mem.1 hm with rfl | hm
    ·omega
    ·exact h1 m hm
structure SL (l : List Int) (σ : Int → Bool) : Prop where
 asc : Asc l
 rng : ∀ n ∈ l, 0 ≤ n ∧ n ≤ 511
 mem : ∀ n : Int, 0 ≤ n → n ≤ 511 → (n ∈ l ↔ σ n = true)
theorem SL.both {a b : List Int} {σ τ : Int → Bool} (ha : SL a σ) (hb : SL b τ) : SL (a.filter (fun n => decide (n ∈ b))) (fun n => σ n && τ n) :=
 ⟨ha.asc.filter _, fun n hn => ha.rng n (List.mem_filter.1 hn).1, fun n h0 h1 => by
  rw [List.mem_filter, ha.mem n h0 h1, decide_eq_true_eq, hb.mem n h0 h1]; simp⟩
theorem SL.with {x : I} {l : List Int} {σ : Int → Bool} (h : SL l σ) (q : x.Op = 4) (hx : 0 ≤ x.N ∧ x.N ≤ 511) : SL (wth x.N l) (nxt x σ) :=
 ⟨wth_asc h.asc, fun n hn => by rcases wth_mem.1 hn with rfl | hn; exact hx; exact h.rng n hn, fun n h0 h1 => by
  unfold nxt
  rw [if_pos q, wth_mem, h.mem n h0 h1]; simp⟩
abbrev St := Int → Bool
def cap (a b : St) : St := fun n => a n && b n
theorem joinA_ok {b : AS} {d : Int} (h : ∀ e, b = some e → e.1 = d) (σ : St) : ∃ τ, joinA b d σ = some (some (d, τ)) ∧ (b = none → τ = σ) := by
 cases b with
 | none => exact ⟨σ, rfl, fun _ => rfl⟩
 | some p =>
  obtain ⟨d0, σ0⟩ := p
  have := h _ rfl
  simp only at this
  subst this
  exact ⟨cap σ0 σ, by simp only [joinA, if_true]; rfl, fun e => by cases e⟩
def Sg1 (len b : Nat) (L : List I) (d δ : Int) (σ : St) (Q : St → Prop) : Prop :=
 ∀ (B : AB) (g : Int), B b = some (d, σ) → (∀ j, b < j → j < b + L.length → B j = none) → (∀ e, B (b + L.length) = some e → e.1 = d + δ) →
  ∃ σ' B' g', Q σ' ∧ (∀ R, wk len b (L ++ R) B g = wk len (b + L.length) R B' g') ∧ joinA (B (b + L.length)) (d + δ) σ' = some (B' (b + L.length)) ∧ ∀ j, b + L.length < j → B' j = B j
def Seg (len b : Nat) (L : List I) (d δ : Int) (σ : St) (Q : St → Prop) : Prop := (L = [] ∧ δ = 0 ∧ Q σ) ∨ (L ≠ [] ∧ Sg1 len b L d δ σ Q)
theorem Seg.mono {len b : Nat} {L : List I} {d δ : Int} {σ : St} {Q R : St → Prop} (h : Seg len b L d δ σ Q) (hq : ∀ τ, Q τ → R τ) : Seg len b L d δ σ R := by
 rcases h with ⟨h1, h2, h3⟩ | ⟨h1, h2⟩
 ·exact .inl ⟨h1, h2, hq _ h3⟩
 ·exact .inr ⟨h1, fun B g a b c => by obtain ⟨σ', B', g', k, r⟩ := h2 B g a b c; exact ⟨σ', B', g', hq _ k, r⟩⟩
theorem Seg.run {len b : Nat} {L : List I} {d δ : Int} {σ : St} {Q : St → Prop} (h : Seg len b L d δ σ Q) {B : AB} {g : Int} (hB : B b = some (d, σ)) (hn : ∀ j, b < j → j ≤ b + L.length → B j = none) :
  ∃ σ' B' g', Q σ' ∧ (∀ R, wk len b (L ++ R) B g = wk len (b + L.length) R B' g') ∧ B' (b + L.length) = some (d + δ, σ') ∧ ∀ j, b + L.length < j → B' j = B j := by
 rcases h with ⟨rfl, rfl, h3⟩ | ⟨h1, h2⟩
 ·exact ⟨σ, B, g, h3, fun R => rfl, by simpa using hB, fun j _ => rfl⟩
 ·have hl : 0 < L.length := List.length_pos_iff.2 h1
  have he : B (b + L.length) = none := hn _ (by omega) (Nat.le_refl _)
  obtain ⟨σ', B', g', k1, k2, k3, k4⟩ := h2 B g hB (fun j a b => hn j a (by omega)) fun e h => by rw [he] at h; cases h
  rw [he] at k3
  exact ⟨σ', B', g', k1, k2, (Option.some.inj k3).symm, k4⟩
theorem Seg.one {len b : Nat} {x : I} {d t l : Int} {σ : St} (he : eff x = some (t, l)) (ht : t ≤ d) (hj : isJ x = false) (h12 : x.Op ≠ 12) (h3 : x.Op = 3 → σ x.N = true) (hb : b + 1 < len) : Seg len b [x] d (l - t) σ (fun τ => τ = nxt x σ) := by
 refine .inr ⟨by simp, fun B g a1 a2 a3 => ?_⟩
 simp only [List.length_cons, List.length_nil, Nat.zero_add] at a2 a3 ⊢
 obtain ⟨τ, ha, _⟩ := joinA_ok a3 (nxt x σ)
 refine ⟨nxt x σ, updA B (b + 1) (some (d + (l - t), τ)), max (max g d) (d + (l - t)), rfl, fun R => ?_, ?_, fun j hj => ?_⟩
 ·have h9 : x.Op ≠ 9 := by unfold isJ at hj; simp at hj; exact hj.1
  rw [List.cons_append, List.nil_append, wk_cons]
  unfold stA
  rw [he, a1]
  simp only
  have hno : ¬ (d < t ∨ ¬ ((x.Op = 12) ↔ (b + 1 = len)) ∨ (x.Op = 3 ∧ σ x.N = false)) := by
   intro h
   rcases h with h | h | h
   ·omega
   ·exact h ⟨fun q => absurd q h12, fun q => by omega⟩
   ·have := h3 h.1
    rw [h.2] at this
    cases this
  rw [if_neg hno, if_neg h12]
  unfold far near
  rw [if_neg (by simp [hj]), Option.bind_some, if_neg h9, ha]
  rfl
 ·rw [ha]; unfold updA; rw [if_pos rfl]
 ·unfold updA; rw [if_neg (by omega)]
def Rel (ρ : Env) (s : Sg) (σ : St) : Prop := (∀ q k, s q = some k → 0 ≤ k ∧ k ≤ 511 ∧ σ k = true) ∧ ∀ q, s q = none → ρ q ≠ 0 → q ∈ J9
theorem Rel.mono {ρ : Env} {s : Sg} {σ τ : St} (h : Rel ρ s σ) (hs : ∀ n, σ n = true → τ n = true) : Rel ρ s τ :=
 ⟨fun q k e => by obtain ⟨a, b, c⟩ := h.1 q k e; exact ⟨a, b, hs _ c⟩, h.2⟩
theorem pre_mem {s : Str} (h : base s ≠ 0) : s ∈ J9 := by
 unfold base pre at h
 split at h
 ·rename_i q
  unfold J9
  simp only [Bool.or_eq_true, decide_eq_true_eq] at q
  rcases q with ((q | q) | q) | q <;> subst q <;> simp
 ·exact absurd rfl h
theorem Rel.nil : Rel Rt.base (fun _ => none) (fun _ => false) := ⟨fun q k e => (by cases e), fun q _ h => pre_mem h⟩
theorem hp_pre (p s : Str) : hp (p ++ s) p = true := by simp [hp]
theorem acs_eff {x : M} (h : SF x) (h2 : x.Ab ≠ 2) (h3 : x.Ab ≠ 3) : ∃ w, acs x = [⟨11, 0, w⟩] ∧ eff ⟨11, 0, w⟩ = some ((x.Aa.length : Int), 0) := by
 have go : ∀ w k, acw x = some w → actK w = some k → k = (x.Aa.length : Int) → ∃ w, acs x = [⟨11, 0, w⟩] ∧ eff ⟨11, 0, w⟩ = some ((x.Aa.length : Int), 0) := fun w k h1 h2 h3 => by
  subst h3
  refine ⟨w, by unfold acs; rw [h1], ?_⟩
  simp [eff, h2]
 rcases h with q | ⟨q, _⟩ | ⟨q, l, t⟩ | ⟨q, l, t⟩ | ⟨q, l, t⟩ | ⟨q, l⟩ | ⟨q, l⟩
 ·exact absurd q h2
 ·exact absurd q h3
 ·rcases t with t | t
  ·exact go _ 1 (by unfold acw; rw [if_pos q, t]) (by decide) (by rw [l]; rfl)
  ·exact go _ 1 (by unfold acw; rw [if_pos q, t]) (by decide) (by rw [l]; rfl)
 ·refine go (sHeader ++ x.Ac) 1 (by unfold acw; rw [if_neg (by omega), if_pos q]; rfl) ?_ (by rw [l]; rfl)
  have h0 := hp_pre sHeader x.Ac
  unfold actK
  rw [if_neg (fun m => ?_), if_neg (header_acts0 h0), if_pos h0, prt_append, t, if_pos (by decide)]
  ·revert m
   unfold acts1 sHeader
   simp
 ·refine go (sVary ++ x.Ac) 0 (by unfold acw; rw [if_neg (by omega), if_neg (by omega), if_pos q]; rfl) ?_ (by rw [l]; rfl)
  have h0 := hp_pre sVary x.Ac
  have h1 := hdvary _ h0
  unfold actK
  rw [if_neg (a1vary h0), if_neg (fun m => ?_), if_neg (by rw [h1]; simp), h0, prt_append, t, if_pos (by decide)]
  ·revert m
   unfold acts0 sVary
   simp
 ·rcases q with q | q | q
  ·exact go [116, 97, 103] 1 (by unfold acw; rw [if_neg (by omega), if_neg (by omega), if_neg (by omega), if_pos q]) (by decide) (by rw [l]; rfl)
  ·exact go [116, 116, 108] 1 (by unfold acw; rw [if_neg (by omega), if_neg (by omega), if_neg (by omega), if_neg (by omega), if_pos q]) (by decide) (by rw [l]; rfl)
  ·exact go [100, 101, 110, 121] 1 (by unfold acw; rw [if_neg (by omega), if_neg (by omega), if_neg (by omega), if_neg (by omega), if_neg (by omega), if_pos q]) (by decide) (by rw [l]; rfl)
 ·rcases q with q | q
  ·exact go [112, 97, 115, 115] 0 (by unfold acw; rw [if_neg (by omega), if_neg (by omega), if_neg (by omega), if_neg (by omega), if_neg (by omega), if_neg (by omega), if_pos q]) (by decide) (by rw [l]; rfl)
  ·exact go [116, 111, 107, 101, 110] 0 (by unfold acw; rw [if_neg (by omega), if_neg (by omega), if_neg (by omega), if_neg (by omega), if_neg (by omega), if_neg (by omega), if_neg (by omega), if_pos q]) (by decide) (by rw [l]; rfl)
theorem acs_S {x : M} (h : x.Ac.length ≤ 3000) : ∀ i ∈ acs x, i.S.length ≤ 100000 := by
 intro i hi
 unfold acs acw at hi
 split at hi
 ·rename_i w hw
  simp only [List.mem_singleton] at hi
  subst hi
  show w.length ≤ 100000
  have go : ∀ v : Str, some v = some w → v.length ≤ 100000 → w.length ≤ 100000 := fun v e h => by cases e; exact h
  repeat' split at hw
  all_goals first | exact go _ hw (by simp only [List.length_append, List.length_cons, List.length_nil]; omega) | exact go _ hw (by omega) | cases hw
 ·cases hi
end Rt.Rc
namespace Vary
abbrev RF := Jj
abbrev FF := Jd
def lowB (c : UInt8) : UInt8 := if (decide ((c.toNat : Int) ≥ 65) && decide ((c.toNat : Int) ≤ 90)) then c + 32 else c
def low (s : Str) : Str := s.map lowB
theorem ix_mid {α : Type} (p r : List α) (c : α) : ix (p ++ c :: r) (p.length : Int) = some c := by
 unfold ix
 rw [if_pos (by omega)]
 simp
theorem set_mid {α : Type} (p r : List α) (c v : α) : (p ++ c :: r).set (((p.length : Nat) : Int).toNat) v = (p ++ [v]) ++ r := by
 simp [List.set_append]
theorem flower_L0 : ∀ (r p : Str), JaY r.length p.length (p ++ r) = some (p ++ low r)
 | [], p => by simp [JaY, low]
 | c :: r, p => by
  rw [List.length_cons, JaY, ix_mid, Option.bind_some]
  have ih := flower_L0 r (p ++ [lowB c])
  simp only [List.length_append, List.length_cons, List.length_nil, Nat.zero_add] at ih
  have e : p ++ low (c :: r) = p ++ [lowB c] ++ low r := by simp [low]
  split
  ·rename_i h
   rw [Option.bind_some, set_mid, e]
   rw [show c + 32 = lowB c from by unfold lowB; rw [if_pos h]]
   exact ih
  ·rename_i h
   rw [e, show p ++ c :: r = p ++ [lowB c] ++ r from by unfold lowB; rw [if_neg h]; simp]
   exact ih
theorem flower {s : Str} (h : s.length ≤ 1073741824) : JbX s = some (low s) := by
 unfold JbX
 rw [chk_bind (by simp only [lim]; omega), chk_bind (by constructor <;> omega)]
 have := flower_L0 s []
 simp only [List.nil_append, List.length_nil] at this
 rw [show ((s.length : Int)).toNat = s.length from by omega, this]; rfl
theorem rlower_L0 : ∀ (s : Str) (i : Nat) (y : Str), y.length + s.length ≤ 1073741824 → Jb5 s i y = some (y ++ low s)
 | [], i, y, h => by simp [Jb5, low]
 | c :: r, i, y, h => by
  simp only [List.length_cons] at h
  have ih := rlower_L0 r (i + 1) (y ++ [lowB c]) (by simp <;> omega)
  have e : y ++ low (c :: r) = y ++ [lowB c] ++ low r := by simp [low]
  rw [Jb5, e, ← ih]
  split
  ·rename_i k
   rw [chk_bind (by simp only [lim, List.length_cons, List.length_nil]; omega)]
   rw [show c + 32 = lowB c from by unfold lowB; rw [if_pos k]]
  ·rename_i k
   rw [chk_bind (by simp only [lim, List.length_cons, List.length_nil]; omega)]
   rw [show lowB c = c from by unfold lowB; rw [if_neg k]]
theorem rlower {s : Str} (h : s.length ≤ 536870912) : Jcx s = some (low s) := by
 unfold Jcx
 rw [chk_bind (by simp only [szMax]; omega), rlower_L0 s 0 [] (by simp <;> omega)]; rfl
def ffs (f : List RF) : List FF := f.map fun x => ⟨x.Name, x.Value⟩
def vals (f : List RF) (n : Str) : List Str := (f.filter fun x => decide (low x.Name = low n)).map (·.Value)
def tot (f : List RF) : Nat := (f.map fun x => x.Name.length + x.Value.length + 2).sum
theorem tot_cons (x : RF) (f : List RF) : tot (x :: f) = x.Name.length + x.Value.length + 2 + tot f := by simp [tot]
theorem tot_len : ∀ (f : List RF), f.length ≤ tot f
 | [] => Nat.zero_le _
 | x :: f => by have := tot_len f; rw [tot_cons, List.length_cons]; omega
theorem vals_cons (x : RF) (f : List RF) (n : Str) : vals (x :: f) n = (if decide (low x.Name = low n) then [x.Value] else []) ++ vals f n := by
 unfold vals
 by_cases h : low x.Name = low n
 ·simp [h]
 ·simp [h]
theorem fall_L0 {n : Str} : ∀ (f : List RF) (i : Nat) (y : List Str), tot f ≤ 1000000 → y.length + f.length ≤ 1073741824 → Jbh (low n) (ffs f) i y = some (y ++ vals f n)
 | [], i, y, _, _ => by simp [ffs, Jbh, vals]
 | x :: f, i, y, h, hy => by
  rw [tot_cons] at h
  simp only [List.length_cons] at hy
  have ih := fall_L0 (n := n) f (i + 1) (y ++ (if decide (low x.Name = low n) then [x.Value] else [])) (by omega) (by split <;> simp <;> omega)
  rw [List.append_assoc, ← vals_cons] at ih
  rw [← ih]
  show Jbh (low n) (⟨x.Name, x.Value⟩ :: ffs f) i y = _
  rw [Jbh, flower (by show x.Name.length ≤ _; omega), Option.bind_some]
  by_cases k : low x.Name = low n
  ·rw [if_pos (by simpa using k), if_pos (by simpa using k), chk_bind (by simp only [lim, List.length_cons, List.length_nil]; omega)]
  ·rw [if_neg (by simpa using k), if_neg (by simpa using k), List.append_nil]
theorem fall {f : List RF} {n : Str} (h : tot f ≤ 1000000) (hn : n.length ≤ 1000000) : JdY (ffs f) n = some (vals f n) := by
 have := tot_len f
 unfold JdY
 rw [flower (by omega), Option.bind_some, chk_bind (by simp only [ffs, List.length_map, szMax]; omega), fall_L0 f 0 [] h (by simp <;> omega)]; rfl
theorem rall_L0 {n : Str} (hn : n.length ≤ 1000000) : ∀ (f : List RF) (i : Nat) (y : List Str), tot f ≤ 1000000 → y.length + f.length ≤ 1073741824 → JcC n f i y = some (y ++ vals f n)
 | [], i, y, _, _ => by simp [JcC, vals]
 | x :: f, i, y, h, hy => by
  rw [tot_cons] at h
  simp only [List.length_cons] at hy
  have ih := rall_L0 hn f (i + 1) (y ++ (if decide (low x.Name = low n) then [x.Value] else [])) (by omega) (by split <;> simp <;> omega)
  rw [List.append_assoc, ← vals_cons] at ih
  rw [← ih, JcC]
  unfold Je2
  rw [rlower (by omega), Option.bind_some, rlower (by omega), Option.bind_some, Option.bind_some]
  by_cases k : low x.Name = low n
  ·rw [if_pos (by simpa using k), if_pos (by simpa using k), chk_bind (by simp only [lim, List.length_cons, List.length_nil]; omega)]
  ·rw [if_neg (by simpa using k), if_neg (by simpa using k), List.append_nil]
theorem rall {f : List RF} {n : Str} (h : tot f ≤ 1000000) (hn : n.length ≤ 1000000) : Jfc f n = some (vals f n) := by
 have := tot_len f
 unfold Jfc
 rw [chk_bind (by simp only [szMax]; omega), rall_L0 hn f 0 [] h (by simp <;> omega)]; rfl
def isB (c : UInt8) : Bool := decide ((c.toNat : Int) = 32) || decide ((c.toNat : Int) = 9)
def cl (c : UInt8) : UInt8 := if (decide ((c.toNat : Int) < 32) || decide ((c.toNat : Int) = 127)) then 63 else c
def rel (y : Str) (b : Bool) : Str := if (b && decide ((y.length : Int) > 0)) then y ++ [32] else y
def nst (p : Str × Bool) (c : UInt8) : Str × Bool := if isB c then (p.1, true) else (rel p.1 p.2 ++ [cl c], false)
def norm (s : Str) : Str := (s.foldl nst ([], false)).1
structure Inv (y : Str) : Prop where
 hd : ∀ a r, y = a :: r → isB a = false
 lt : ∀ r z, y = r ++ [z] → isB z = false
theorem cl_nb {c : UInt8} (h : isB c = false) : isB (cl c) = false := by
 unfold cl; split
 ·decide
 ·exact h
theorem rel_cons {y : Str} {b : Bool} (h : y ≠ []) : ∃ r, rel y b = y ++ r := by
 unfold rel; split
 ·exact ⟨_, rfl⟩
 ·exact ⟨[], by simp⟩
theorem Inv.step {y : Str} {b : Bool} {c : UInt8} (h : Inv y) (hc : isB c = false) : Inv (rel y b ++ [cl c]) := by
 refine ⟨fun a r e => ?_, fun r z e => ?_⟩
 ·cases y with
  | nil =>
   have : rel [] b = [] := by unfold rel; simp
   rw [this] at e
   simp at e
   rw [← e.1]; exact cl_nb hc
  | cons x y =>
   obtain ⟨q, hq⟩ := rel_cons (y := x :: y) (b := b) (by simp)
   rw [hq] at e
   simp at e
   exact e.1 ▸ h.hd x y rfl
 ·have := List.append_inj' e rfl
  simp at this
  rw [← this.2]; exact cl_nb hc
theorem Inv.nil : Inv [] := ⟨fun a r e => absurd e (by simp), fun r z e => absurd e (by simp)⟩
abbrev jn := Go.Lib.join
abbrev jt := Go.Lib.joinTail
theorem jt_cons (sep x : Str) (r : List Str) : jt sep (x :: r) = sep ++ x ++ jt sep r := by simp [jt, Go.Lib.joinTail]
theorem jt_nil (sep : Str) : jt sep [] = [] := rfl
theorem jn_cons (sep x : Str) (r : List Str) : jn (x :: r) sep = x ++ jt sep r := Go.Lib.join_cons x r sep
theorem jn_nil (sep : Str) : jn [] sep = [] := Go.Lib.join_nil sep
def sumL (l : List Str) : Nat := (l.map fun x => x.length + 1).sum
theorem sumL_cons (x : Str) (l : List Str) : sumL (x :: l) = x.length + 1 + sumL l := by simp [sumL]
theorem sumL_nil : sumL [] = 0 := rfl
theorem sumL_len : ∀ (l : List Str), l.length ≤ sumL l
 | [] => Nat.zero_le _
 | x :: l => by have := sumL_len l; rw [sumL_cons, List.length_cons]; omega
theorem sumL_append (l k : List Str) : sumL (l ++ k) = sumL l + sumL k := by simp [sumL]
theorem sumL_vals (n : Str) : ∀ (f : List RF), sumL (vals f n) ≤ tot f
 | [] => Nat.zero_le _
 | x :: f => by
  have := sumL_vals n f
  rw [vals_cons, sumL_append, tot_cons]
  split
  ·rw [sumL_cons, sumL_nil]; omega
  ·rw [sumL_nil]; omega
def esc (c : UInt8) : Str := if (decide ((c.toNat : Int) = 34) || decide ((c.toNat : Int) = 92)) then [92, c] else [c]
def quo (s : Str) : Str := [34] ++ s.flatMap esc ++ [34]
theorem el_go {ρ σ γ : Type} {y : σ} {f : ρ → Option γ} {g : σ → Option γ} : (Fl.go y : Fl ρ σ).el f g = g y := rfl
def item (f : List RF) (m : Str) : Str := if vals f m = [] then m else m ++ [61] ++ quo (jn ((vals f m).map norm) [44])
def key (names : List Str) (f : List RF) : Str := jn (names.map (item f)) [38]
theorem joinM_t {l : List Str} {sep : Str} (h1 : l.length ≤ 1000000) (h2 : (jn l sep).length ≤ 1000000000) : joinM l sep = some (jn l sep) := by
 unfold joinM; rw [if_pos ⟨by simp only [lim]; omega, by show (jn l sep).length ≤ _; simp only [lim]; omega⟩]
theorem fields_L0 : ∀ (l : List RF) (i : Nat) (y : List FF), y.length + l.length ≤ 1073741824 → Ja3 l i y = some (y ++ ffs l)
 | [], i, y, _ => by simp [Ja3, ffs]
 | x :: l, i, y, h => by
  simp only [List.length_cons] at h
  have ih := fields_L0 l (i + 1) (y ++ [⟨x.Name, x.Value⟩]) (by simp only [List.length_append, List.length_cons, List.length_nil]; omega)
  rw [Ja3, chk_bind (by simp only [lim, List.length_cons, List.length_nil]; omega), ih]
  simp [ffs]
theorem fields_eq {l : List RF} (h : l.length ≤ 536870912) : JcZ l = some (ffs l) := by
 unfold JcZ
 rw [chk_bind (by simp only [szMax]; omega), fields_L0 l 0 [] (by simp <;> omega)]; rfl
def bl9 (c : UInt8) : Bool := ([32, 9] : Str).contains c
def rd : Str → Str
 | [] => []
 | x :: t => match rd t with
  | [] => if bl9 x = true then [] else [x]
  | y :: ys => x :: y :: ys
theorem rd_snoc (r : Str) (z : UInt8) : rd (r ++ [z]) = if bl9 z = true then rd r else r ++ [z] := by
 induction r with
 | nil => simp [rd]
 | cons x r ih =>
  rw [List.cons_append, rd, ih]
  by_cases q : bl9 z = true
  ·rw [if_pos q, if_pos q, rd]
  ·rw [if_neg q, if_neg q]
   cases h : r ++ [z] with
   | nil => simp at h
   | cons a b => rfl
theorem rev_rd (s : Str) : (s.reverse.dropWhile bl9).reverse = rd s := by
 have : ∀ r : Str, rd r.reverse = (r.dropWhile bl9).reverse := fun r => by
  induction r with
  | nil => rfl
  | cons x r ih =>
   rw [List.reverse_cons, rd_snoc, List.dropWhile_cons]
   by_cases q : bl9 x = true
   ·rw [if_pos q, if_pos q, ih]
   ·rw [if_neg q, if_neg q, List.reverse_cons]
 rw [← this, List.reverse_reverse]
theorem dw_rd : ∀ s : Str, (rd s).dropWhile bl9 = rd (s.dropWhile bl9)
 | [] => rfl
 | x :: t => by
  rw [rd, List.dropWhile_cons]
  by_cases q : bl9 x = true
  ·rw [if_pos q, if_pos q, ← dw_rd t]
   cases rd t with
   | nil => rfl
   | cons a b => simp only; rw [List.dropWhile_cons, if_pos q]
  ·rw [if_neg q, if_neg q, rd, if_neg q]
   cases rd t with
   | nil => simp only; rw [List.dropWhile_cons, if_neg q]
   | cons a b => simp only; rw [List.dropWhile_cons, if_neg q]
def trm (s : Str) : Str := rd (s.dropWhile bl9)
theorem trimM_eq {s : Str} (h : s.length ≤ 100000000) : trimM s ([32, 9] : Str) = some (trm s) := by
 unfold trimM
 rw [if_pos ⟨by omega, by simp, by decide⟩]
 show some ((Go.Lib.trimRightS s [32, 9]).dropWhile (([32, 9] : Str).contains ·)) = _
 have e : Go.Lib.trimRightS s [32, 9] = rd s := rev_rd s
 rw [e]
 exact congrArg some (dw_rd s)
theorem tl {c : UInt8} {t : Str} : subL (c :: t) (1 : Int) (((c :: t).length : Nat) : Int) = t := by
 unfold subL
 rw [show ((1 : Int)).toNat = 1 from rfl, List.drop_succ_cons, List.drop_zero, List.take_of_length_le (by simp only [List.length_cons]; omega)]
theorem tch_all : ∀ n : Fin 256, ∃ b, syntax_tchar (UInt8.ofNat n.val) = some b ∧ JdM (UInt8.ofNat n.val) = some b := by
 have h : ∀ n : Fin 256, syntax_tchar (UInt8.ofNat n.val) = JdM (UInt8.ofNat n.val) ∧ (syntax_tchar (UInt8.ofNat n.val)).isSome = true := by decide +kernel
 intro n
 obtain ⟨h1, h2⟩ := h n
 obtain ⟨b, hb⟩ := Option.isSome_iff_exists.1 h2
 exact ⟨b, hb, by rw [← h1, hb]⟩
theorem tch (c : UInt8) : ∃ b, syntax_tchar c = some b ∧ JdM c = some b := by
 have := tch_all ⟨c.toNat, c.toNat_lt⟩
 simpa using this
theorem tok_L0 : ∀ (s : Str) (i j : Nat), ∃ b : Bool, syntax_Token_L0 s i = some (if b = true then Fl.go () else Fl.ret false) ∧ JcW s j = some (if b = true then Fl.go () else Fl.ret false)
 | [], i, j => ⟨true, rfl, rfl⟩
 | c :: s, i, j => by
  obtain ⟨b, h1, h2⟩ := tch c
  rw [syntax_Token_L0, JcW, h1, h2, Option.bind_some, Option.bind_some]
  cases b with
  | false => exact ⟨false, rfl, rfl⟩
  | true => exact tok_L0 s (i + 1) (j + 1)
theorem tok {s : Str} (h : s.length ≤ 100000000) : ∃ b, syntax_Token s = some b ∧ Jdf s = some b := by
 obtain ⟨b, h1, h2⟩ := tok_L0 s 0 0
 unfold syntax_Token Jdf
 rw [chk_bind (by simp only [szMax]; omega), chk_bind (by simp only [szMax]; omega), h1, h2, Option.bind_some, Option.bind_some]
 cases b with
 | false => exact ⟨false, rfl, rfl⟩
 | true =>
  refine ⟨decide (s ≠ []), rfl, ?_⟩
  simp only [if_true, el_go]
  congr 1
  apply decide_eq_decide.2
  cases s <;> simp
theorem ix_ok {α : Type} {s : List α} {i : Int} (h0 : 0 ≤ i) (h1 : i < (s.length : Int)) : ∃ x, ix s i = some x := by
 unfold ix
 rw [if_pos h0]
 exact ⟨s[i.toNat]'(by omega), List.getElem?_eq_getElem (by omega)⟩
def ctl (s : Str) : Bool := s.any fun c => (decide ((c.toNat : Int) < 32) && decide ((c.toNat : Int) ≠ 9)) || decide ((c.toNat : Int) = 127)
end Vary
open Go Go.SL Go.Proofs Pl Vary
namespace Rt.Rv
def hd (p : Str) : List Str → List Str
 | [] => [p]
 | x :: r => (p ++ x) :: r
def spl (c : UInt8) : Str → List Str
 | [] => [[]]
 | b :: s => if b = c then [] :: spl c s else hd [b] (spl c s)
theorem spl_ne (c : UInt8) (s : Str) : spl c s ≠ [] := by
 cases s with
 | nil => simp [spl]
 | cons b s =>
  rw [spl]
  split
  ·simp
  ·cases spl c s <;> simp [hd]
theorem hd_nil {l : List Str} (h : l ≠ []) : hd [] l = l := by
 cases l with
 | nil => exact absurd rfl h
 | cons a b => rfl
theorem hd_hd (p q : Str) (l : List Str) : hd p (hd q l) = hd (p ++ q) l := by cases l <;> simp [hd]
theorem pre_one (c b : UInt8) (l : Str) : ([c] : Str).isPrefixOf (b :: l) = (c == b) := by simp [List.isPrefixOf]
theorem ind_eq (c : UInt8) (l : Str) : Go.Lib.index (c :: l) [c] = 0 := by rw [Go.Lib.index, if_pos (by simp [List.isPrefixOf])]
theorem ind_ne {c b : UInt8} (h : b ≠ c) (l : Str) : Go.Lib.index (b :: l) [c] = if Go.Lib.index l [c] = -1 then -1 else Go.Lib.index l [c] + 1 := by
 have : (c == b) = false := by simp; exact fun e => h e.symm
 rw [Go.Lib.index, pre_one, this]
 simp
theorem spK_cons {b c : UInt8} (h : b ≠ c) (k : Nat) (l : Str) : Go.Lib.splitK [c] 0 k (b :: l) = hd [b] (Go.Lib.splitK [c] 0 k l) := by
 cases k with
 | zero => rfl
 | succ k =>
  have hg := Go.Lib.index_ge l [c]
  rw [Go.Lib.splitK, Go.Lib.splitK, ind_ne h]
  by_cases q : Go.Lib.index l [c] = -1
  ·rw [q]; simp [hd]
  ·rw [if_neg q]
   have e : (Go.Lib.index l [c] + 1).toNat = (Go.Lib.index l [c]).toNat + 1 := by omega
   rw [if_neg (by simp; omega), if_neg (by simpa using q), e]
   simp [hd, Nat.add_right_comm]
theorem split_eq (c : UInt8) : ∀ s : Str, Go.Lib.split s [c] = spl c s
 | [] => by unfold Go.Lib.split; rw [Go.Lib.count_one]; rfl
 | b :: l => by
  have ih := split_eq c l
  unfold Go.Lib.split at ih ⊢
  rw [spl]
  by_cases q : b = c
  ·subst q
   rw [if_pos rfl, Go.Lib.count_cons_eq, Nat.add_comm, Go.Lib.splitK, ind_eq, if_neg (by decide), ← ih]
   simp
  ·rw [if_neg q, Go.Lib.count_cons_ne b c l q, spK_cons q, ih]
theorem index_spl (c : UInt8) : ∀ s : Str, (Go.Lib.index s [c] = -1 ∧ spl c s = [s] ∧ c ∉ s) ∨ (∃ i : Nat, Go.Lib.index s [c] = i ∧ i < s.length ∧ spl c s = s.take i :: spl c (s.drop (i + 1)))
 | [] => .inl ⟨rfl, rfl, by simp⟩
 | b :: l => by
  by_cases q : b = c
  ·subst q
   exact .inr ⟨0, ind_eq _ _, by simp, by rw [spl, if_pos rfl]; simp⟩
  ·rcases index_spl c l with ⟨h1, h2, h3⟩ | ⟨i, h1, h2, h3⟩
   ·exact .inl ⟨by rw [ind_ne q, if_pos h1], by rw [spl, if_neg q, h2]; rfl, by simp [h3]; exact fun e => q e.symm⟩
   ·refine .inr ⟨i + 1, by rw [ind_ne q, h1, if_neg (by omega)]; omega, by simp; omega, ?_⟩
    rw [spl, if_neg q, h3]
    simp [hd]
theorem lim32_eq : lim32 = 4294967281 := rfl
theorem splitM_eq {s : Str} (c : UInt8) (h : s.length ≤ 1000000) : splitM s [c] = some (spl c s) := by
 unfold splitM
 rw [if_pos ⟨by rw [lim32_eq]; omega, by simp⟩, split_eq]
def segs (s : Str) : List Str := (spl 47 s).tail
theorem cut_spl (c : UInt8) (s : Str) : (Go.Lib.cut s [c] = (s, [], false) ∧ spl c s = [s]) ∨ (∃ i : Nat, i < s.length ∧ Go.Lib.cut s [c] = (s.take i, s.drop (i + 1), true) ∧ spl c s = s.take i :: spl c (s.drop (i + 1))) := by
 unfold Go.Lib.cut
 rcases index_spl c s with ⟨h1, h2, _⟩ | ⟨i, h1, h2, h3⟩
 ·left; rw [h1]; exact ⟨by simp, h2⟩
 ·right; rw [h1]; exact ⟨i, h2, by simp, h3⟩
theorem segs_eq {s : Str} (h : s.length ≤ 1000000) : Jb3 s = some (segs s) := by
 unfold Jb3 cutM segs
 rw [if_pos (by rw [lim32_eq]; omega), Option.bind_some]
 rcases cut_spl 47 s with ⟨h1, h2⟩ | ⟨i, h2, h1, h3⟩
 ·rw [h1, h2]; rfl
 ·rw [h1, h3, if_neg (by simp)]
  simp only
  rw [splitM_eq 47 (by rw [List.length_drop]; omega)]; rfl
theorem byte_eq {a b : UInt8} : decide ((a.toNat : Int) = (b.toNat : Int)) = decide (a = b) := by
 rw [decide_eq_decide]
 exact ⟨fun e => UInt8.toNat_inj.1 (by omega), fun e => by rw [e]⟩
theorem sub_mid (q p r : Str) : subL (q ++ p ++ r) (q.length : Int) ((q ++ p).length : Int) = p := by
 unfold subL
 rw [List.append_assoc, Int.toNat_natCast, List.drop_left, List.length_append]
 have : (((q.length + p.length : Nat) : Int) - (q.length : Int)).toNat = p.length := by omega
 rw [this, List.take_left]
theorem cut_L0 {c : UInt8} {s : Str} (hs : s.length ≤ 1000000) : ∀ (r q p : Str) (y : List Str), s = q ++ p ++ r → y.length ≤ q.length →
  ∃ z a, JcB c s r (q ++ p).length y (q.length : Int) = some (z, a) ∧ 0 ≤ a ∧ a ≤ (s.length : Int) ∧ z.length ≤ s.length ∧ z ++ [subL s a (s.length : Int)] = y ++ hd p (spl c r)
 | [], q, p, y, e, hy => by
  have hl : s.length = (q ++ p).length := by rw [e]; simp
  have hq : q.length ≤ s.length := by rw [hl]; simp
  refine ⟨y, q.length, rfl, by omega, by omega, by omega, ?_⟩
  rw [hl, e, sub_mid]; simp [spl, hd]
 | b :: r, q, p, y, e, hy => by
  have hl : s.length = q.length + p.length + (r.length + 1) := by rw [e]; simp; omega
  rw [JcB, byte_eq]
  by_cases h : b = c
  ·subst h
   have hsub : subL s (q.length : Int) ((q ++ p).length : Int) = p := by rw [e, sub_mid]
   rw [if_pos (by simp), chk_bind (by simp only [List.length_append]; omega), hsub, chk_bind (by simp only [lim, List.length_cons, List.length_nil]; omega)]
   have ih := cut_L0 (c := b) hs r (q ++ p ++ [b]) [] (y ++ [p]) (by rw [e]; simp) (by simp; omega)
   have e1 : ((q ++ p ++ [b]) ++ ([] : Str)).length = (q ++ p).length + 1 := by simp; omega
   have e2 : (((q ++ p ++ [b]).length : Nat) : Int) = ((q ++ p).length : Int) + 1 := by simp; omega
   rw [e1, e2] at ih
   obtain ⟨z, a, h1, h2, h3, h4, h5⟩ := ih
   refine ⟨z, a, h1, h2, h3, h4, ?_⟩
   rw [h5, spl, if_pos rfl, hd_nil (spl_ne _ _)]; simp [hd]
  ·rw [if_neg (by simpa using h)]
   have ih := cut_L0 (c := c) hs r q (p ++ [b]) y (by rw [e]; simp) hy
   have e1 : (q ++ (p ++ [b])).length = (q ++ p).length + 1 := by simp; omega
   rw [e1] at ih
   obtain ⟨z, a, h1, h2, h3, h4, h5⟩ := ih
   refine ⟨z, a, h1, h2, h3, h4, ?_⟩
   rw [h5, spl, if_neg h, hd_hd]
theorem cut2_eq {s : Str} (c : UInt8) (hs : s.length ≤ 1000000) : Jez s c = some (spl c s) := by
 unfold Jez
 obtain ⟨z, a, h1, h2, h3, h4, h5⟩ := cut_L0 (c := c) hs s [] [] [] rfl (Nat.le_refl _)
 have h1' : JcB c s s 0 [] 0 = some (z, a) := h1
 rw [chk_bind (by simp only [szMax]; omega), h1', Option.bind_some, chk_bind (by omega), chk_bind (by simp only [lim, List.length_cons, List.length_nil]; omega)]
 simp only
 rw [h5, hd_nil (spl_ne _ _)]; rfl
theorem hd_len (p : Str) {l : List Str} (h : l ≠ []) : (hd p l).length = l.length := by
 cases l with
 | nil => exact absurd rfl h
 | cons a b => rfl
theorem spl_len (c : UInt8) : ∀ s : Str, 1 ≤ (spl c s).length ∧ (spl c s).length ≤ s.length + 1
 | [] => by simp [spl]
 | b :: l => by
  have := spl_len c l
  rw [spl]
  split
  ·simp; omega
  ·rw [hd_len _ (spl_ne _ _)]; simp; omega
theorem spl_mem (c : UInt8) : ∀ (s x : Str), x ∈ spl c s → x.length ≤ s.length
 | [], x, h => by simp [spl] at h; subst h; simp
 | b :: l, x, h => by
  have ih := spl_mem c l
  rw [spl] at h
  split at h
  ·rcases List.mem_cons.1 h with rfl | h
   ·simp
   ·have := ih x h; simp; omega
  ·cases e : spl c l with
   | nil => exact absurd e (spl_ne _ _)
   | cons a r =>
    rw [e] at h ih
    rcases List.mem_cons.1 h with rfl | h
    ·have := ih a (by simp); simp; omega
    ·have := ih x (by simp [h]); simp; omega
theorem segs2_eq {s : Str} (hs : s.length ≤ 1000000) : Jdu s = some (segs s) := by
 unfold Jdu segs
 have h := spl_len 47 s
 rw [cut2_eq 47 hs, Option.bind_some, chk_bind (by omega)]
 congr 1
 unfold subL
 rw [show ((1 : Int)).toNat = 1 from rfl, List.drop_one, List.take_of_length_le (by rw [List.length_tail]; omega)]
theorem segs_mem {s x : Str} (h : x ∈ segs s) : x.length ≤ s.length := spl_mem _ _ _ (List.mem_of_mem_tail h)
theorem segs_len (s : Str) : (segs s).length ≤ s.length := by have := spl_len 47 s; unfold segs; rw [List.length_tail]; omega
def argL (nm : Str) : List Str → Str
 | [] => []
 | x :: r => if Rc.hp x (nm ++ [61]) = true then x.drop (nm.length + 1) else argL nm r
def argB (nm : Str) : List Str → Bool
 | [] => false
 | x :: r => if Rc.hp x (nm ++ [61]) = true then true else argB nm r
theorem drop_sub (x : Str) (n : Nat) : subL x ((n : Int) + 1) (x.length : Int) = x.drop (n + 1) := by
 unfold subL
 rw [show ((n : Int) + 1).toNat = n + 1 by omega, List.take_of_length_le (by rw [List.length_drop]; omega)]
theorem arg_L0 {nm : Str} (hn : nm.length ≤ 1000000) : ∀ (l : List Str) (i : Nat), JbI nm l i = some (if argB nm l = true then Fl.ret (argL nm l, true) else Fl.go ())
 | [], i => rfl
 | x :: l, i => by
  have hpx : J1 x (nm ++ ([61] : Str)) = some (Rc.hp x (nm ++ [61])) := by rw [prefix_ok, Rc.hp_eq]
  rw [JbI, chk_bind (by simp only [lim, List.length_cons, List.length_nil]; omega), hpx, Option.bind_some, argL, argB]
  by_cases q : Rc.hp x (nm ++ [61]) = true
  ·have hl : nm.length + 1 ≤ x.length := by
    have := q; unfold Rc.hp at this; simp at this; omega
   rw [if_pos q, if_pos q, if_pos q, chk_bind (by constructor <;> omega), chk_bind (by omega), drop_sub]; rfl
  ·rw [if_neg q, if_neg q, if_neg q, arg_L0 hn l (i + 1)]
theorem hp_iff (x nm : Str) : Rc.hp x (nm ++ [61]) = ((decide ((x.length : Int) > (nm.length : Int)) && decide (x.take nm.length = nm)) && decide (x[nm.length]? = some 61)) := by
 unfold Rc.hp
 by_cases h : nm.length < x.length
 ·have e : x.take (nm ++ [61]).length = x.take nm.length ++ [x[nm.length]] := by
   rw [List.length_append, List.length_cons, List.length_nil, List.take_add_one, List.getElem?_eq_getElem h]; rfl
  rw [e, List.getElem?_eq_getElem h]
  have hl : decide (x.length ≥ (nm ++ [61]).length) = true := by simp; omega
  have hl2 : decide ((x.length : Int) > (nm.length : Int)) = true := by simp; omega
  rw [hl, hl2, Bool.true_and, Bool.true_and]
  have : (x.take nm.length ++ [x[nm.length]] = nm ++ [61]) ↔ (x.take nm.length = nm ∧ x[nm.length] = 61) := by
   constructor
   ·intro h2
    have h3 := List.append_inj h2 (by simp; omega)
    exact ⟨h3.1, by simpa using h3.2⟩
   ·rintro ⟨h1, h2⟩; rw [h1, h2]
  rw [decide_eq_decide.2 this, Bool.decide_and]
  simp
 ·have h1 : decide (x.length ≥ (nm ++ [61]).length) = false := by simp; omega
  have h2 : decide ((x.length : Int) > (nm.length : Int)) = false := by simp; omega
  rw [h1, h2]; rfl
theorem arg2_L0 {nm : Str} (hn : nm.length ≤ 1000000) : ∀ (l : List Str) (i : Nat), Jdn nm l i = some (if argB nm l = true then Fl.ret (argL nm l, true) else Fl.go ())
 | [], i => rfl
 | x :: l, i => by
  have hc : ((((if decide ((x.length : Int) > (nm.length : Int)) then (chk (0 ≤ (0 : Int) ∧ (0 : Int) ≤ (nm.length : Int) ∧ (nm.length : Int) ≤ (x.length : Int))).bind fun _ =>
    some (decide ((subL x (0 : Int) (nm.length : Int)) = nm)) else some false).bind fun x37 =>
    (if x37 then (ix x (nm.length : Int)).bind fun x45 => some (decide ((x45.toNat : Int) = 61)) else some false).bind fun x47 => some x47) : Option (Bool))) = some (Rc.hp x (nm ++ [61])) := by
   rw [hp_iff]
   by_cases h : nm.length < x.length
   ·rw [if_pos (by simpa using h), chk_bind (by omega), Option.bind_some, Rc.sub0, decide_eq_true (show (x.length : Int) > (nm.length : Int) by omega), Bool.true_and]
    by_cases h2 : x.take nm.length = nm
    ·rw [decide_eq_true h2, if_pos rfl]
     unfold ix
     rw [if_pos (by omega), Int.toNat_natCast, List.getElem?_eq_getElem h, Option.bind_some, Option.bind_some, Bool.true_and]
     have := @byte_eq (x[nm.length]) 61
     simpa using this
    ·rw [decide_eq_false h2, if_neg (by simp), Option.bind_some, Bool.false_and]
   ·rw [if_neg (by simpa using h), Option.bind_some, if_neg (by simp), decide_eq_false (by omega)]; rfl
  rw [Jdn, hc, Option.bind_some, argL, argB]
  by_cases q : Rc.hp x (nm ++ [61]) = true
  ·have hl : nm.length + 1 ≤ x.length := by
    have := q; unfold Rc.hp at this; simp at this; omega
   rw [if_pos q, if_pos q, if_pos q, chk_bind (by constructor <;> omega), chk_bind (by omega), drop_sub]; rfl
  ·rw [if_neg q, if_neg q, if_neg q, arg2_L0 hn l (i + 1)]
def argP (q nm : Str) : Str := argL nm (spl 38 q)
theorem argL_f {nm : Str} : ∀ {l : List Str}, argB nm l = false → argL nm l = []
 | [], _ => rfl
 | x :: l, h => by
  rw [argB] at h
  split at h
  ·cases h
  ·rename_i q; rw [argL, if_neg q]; exact argL_f h
theorem argL_len {nm : Str} {m : Nat} : ∀ {l : List Str}, (∀ x ∈ l, x.length ≤ m) → (argL nm l).length ≤ m
 | [], _ => Nat.zero_le _
 | x :: l, h => by
  rw [argL]
  split
  ·have := h x (by simp); rw [List.length_drop]; omega
  ·exact argL_len fun y hy => h y (by simp [hy])
theorem argP_len (q nm : Str) : (argP q nm).length ≤ q.length := argL_len (spl_mem _ _)
theorem arg_eq {q nm : Str} (hq : q.length ≤ 1000000) (hn : nm.length ≤ 1000000) : ∃ b, Jc7 ⟨[], [], q, true⟩ nm = some (argP q nm, b) := by
 have h := spl_len 38 q
 unfold Jc7 argP
 rw [if_neg (by simp), splitM_eq 38 hq, Option.bind_some, chk_bind (by simp only [szMax]; omega), arg_L0 hn, Option.bind_some]
 cases e : argB nm (spl 38 q) with
 | true => rw [if_pos rfl]; exact ⟨_, rfl⟩
 | false => rw [if_neg (by simp), argL_f e]; exact ⟨_, rfl⟩
theorem arg2_eq {q nm : Str} (hq : q.length ≤ 1000000) (hn : nm.length ≤ 1000000) : ∃ b, Jfd ⟨[], [], q, true⟩ nm = some (argP q nm, b) := by
 have h := spl_len 38 q
 unfold Jfd argP
 rw [if_neg (by simp), cut2_eq 38 hq, Option.bind_some, chk_bind (by simp only [szMax]; omega), arg2_L0 hn, Option.bind_some]
 cases e : argB nm (spl 38 q) with
 | true => rw [if_pos rfl]; exact ⟨_, rfl⟩
 | false => rw [if_neg (by simp), argL_f e]; exact ⟨_, rfl⟩
theorem sub_take (s : Str) {i n : Nat} : subL s (i : Int) ((i : Int) + (n : Int)) = (s.drop i).take n := by
 unfold subL
 rw [Int.toNat_natCast, show ((i : Int) + (n : Int) - (i : Int)).toNat = n by omega]
theorem cont_L0 {t s : Str} (hs : s.length ≤ 1000000) (ht : t.length ≤ 1000000) : ∀ (m i : Nat), s.length + 1 - i < m → i ≤ s.length + 1 → (∀ j, j < i → Go.Lib.occAt s t j = false) →
  ∃ r, Jcm t s m (i : Int) = some r ∧ (Go.Lib.contains s t = true → r = .ret true) ∧ (Go.Lib.contains s t = false → ∃ z, r = .go z)
 | 0, i, h, _, _ => by omega
 | m + 1, i, h, hi, hn => by
  rw [Jcm, chk_bind (by constructor <;> omega)]
  by_cases q : i + t.length ≤ s.length
  ·rw [if_pos (by simp; omega), chk_bind (by constructor <;> omega), chk_bind (by omega), sub_take]
   by_cases q2 : (s.drop i).take t.length = t
   ·rw [if_pos (by simpa using q2)]
    have ho : Go.Lib.occAt s t i = true := by rw [Go.Lib.occAt_iff_take s t i q]; simpa using q2
    have hc : Go.Lib.contains s t = true := by
     unfold Go.Lib.contains
     rw [Go.Lib.index_first (by omega) ho hn]; simp
    exact ⟨_, rfl, fun _ => rfl, fun e => by rw [hc] at e; cases e⟩
   ·rw [if_neg (by simpa using q2), chk_bind (by constructor <;> omega)]
    have ho : Go.Lib.occAt s t i = false := by rw [Go.Lib.occAt_iff_take s t i q]; simpa using q2
    exact cont_L0 hs ht m (i + 1) (by omega) (by omega) fun j hj => by
     by_cases e : j = i
     ·rw [e]; exact ho
     ·exact hn j (by omega)
  ·rw [if_neg (by simp; omega)]
   have hc : Go.Lib.contains s t = false := by
    unfold Go.Lib.contains
    rw [Go.Lib.index_none fun j hj => ?_]; · rfl
    by_cases e : j < i
    ·exact hn j e
    ·cases ho : Go.Lib.occAt s t j with
     | false => rfl
     | true =>
      rcases Go.Lib.occAt_room ho with h1 | h1
      ·omega
      ·subst h1; simp at q; omega
   exact ⟨_, rfl, (fun e => by rw [hc] at e; cases e), fun _ => ⟨_, rfl⟩⟩
theorem cont2_eq {n : Nat} {s t : Str} (hn : 1000002 ≤ n) (hs : s.length ≤ 1000000) (ht : t.length ≤ 1000000) : Jdv n s t = some (Go.Lib.contains s t) := by
 unfold Jdv
 obtain ⟨r, h1, h2, h3⟩ := cont_L0 hs ht n 0 (by omega) (by omega) (fun j hj => by omega)
 rw [show (0 : Int) = ((0 : Nat) : Int) from rfl, h1, Option.bind_some]
 cases e : Go.Lib.contains s t with
 | true => rw [h2 e]; rfl
 | false => obtain ⟨z, rfl⟩ := h3 e; rfl
theorem containsM_eq {s t : Str} (hs : s.length ≤ 1000000) : containsM s t = some (Go.Lib.contains s t) := by
 unfold containsM; rw [if_pos (by rw [lim32_eq]; omega)]
theorem dec_len : ∀ (m u : Nat), u < 10 ^ (m + 1) → (Go.Lib.decDigits u).length ≤ m + 1
 | 0, u, h => by rw [Go.Lib.decDigits, dif_pos (by omega)]; simp
 | m + 1, u, h => by
  rw [Go.Lib.decDigits]
  split
  ·simp
  ·have := dec_len m (u / 10) (by rw [Nat.pow_succ] at h; omega)
   simp; omega
theorem u8_dig (u : Nat) : u8of (48 + Int.tmod (u : Int) 10) = UInt8.ofNat (48 + u % 10) := by
 have e : Int.tmod (u : Int) 10 = ((u % 10 : Nat) : Int) := by rw [Int.tmod_eq_emod_of_nonneg (by omega)]; omega
 unfold u8of
 rw [e]
 congr 1
 omega
theorem dec_L : ∀ (m u : Nat) (k : Nat), u < 10 ^ (m + 1) → m ≤ 17 → m < k → JbH k (u : Int) = some (Go.Lib.decDigits u)
 | m, u, 0, h, hm, hk => by omega
 | 0, u, k + 1, h, hm, hk => by
  have hu : u < 10 := by omega
  have e : Int.tmod (u : Int) 10 = ((u % 10 : Nat) : Int) := by rw [Int.tmod_eq_emod_of_nonneg (by omega)]; omega
  rw [JbH, if_neg (by simp), chk_bind (by rw [e]; constructor <;> omega), if_pos (by simp; omega), u8_dig, Go.Lib.decDigits, dif_pos hu, Nat.mod_eq_of_lt hu]
 | m + 1, u, k + 1, h, hm, hk => by
  have e : Int.tmod (u : Int) 10 = ((u % 10 : Nat) : Int) := by rw [Int.tmod_eq_emod_of_nonneg (by omega)]; omega
  have e2 : Int.tdiv (u : Int) 10 = ((u / 10 : Nat) : Int) := by rw [Int.tdiv_eq_ediv_of_nonneg (by omega)]; omega
  have hp : (10 : Nat) ^ (m + 1 + 1) ≤ 10 ^ 19 := Nat.pow_le_pow_right (by decide) (by omega)
  rw [JbH, if_neg (by simp), chk_bind (by rw [e]; constructor <;> omega), Go.Lib.decDigits]
  by_cases hu : u < 10
  ·rw [if_pos (by simp; omega), u8_dig, dif_pos hu, Nat.mod_eq_of_lt hu]
  ·have hu2 : u / 10 < 10 ^ (m + 1) := by rw [Nat.pow_succ] at h; omega
   have hp2 : (10 : Nat) ^ (m + 1) ≤ 10 ^ 18 := Nat.pow_le_pow_right (by decide) (by omega)
   have hl := dec_len m (u / 10) hu2
   rw [if_neg (by simp; omega), e2, chk_bind ⟨by decide, by constructor <;> omega⟩, dec_L m (u / 10) k hu2 (by omega) (by omega), Option.bind_some, chk_bind (by simp only [lim, List.length_cons, List.length_nil]; omega), u8_dig, dif_neg hu]
theorem dec_eq {n : Nat} {x : Int} (hn : 30 ≤ n) (h0 : -1099511627776 ≤ x) (h1 : x ≤ 1099511627776) : JbH n x = some (Go.Lib.itoa x) := by
 unfold Go.Lib.itoa
 by_cases q : x < 0
 ·obtain ⟨k, rfl⟩ : ∃ k, n = k + 1 := ⟨n - 1, by omega⟩
  obtain ⟨u, hu⟩ : ∃ u : Nat, -x = (u : Int) := ⟨(-x).toNat, by omega⟩
  have h10 : (10 : Nat) ^ (17 + 1) = 1000000000000000000 := by decide
  have hu2 : u < 10 ^ (17 + 1) := by omega
  have hl := dec_len 17 u hu2
  rw [JbH, if_pos (by simpa using q), chk_bind (by constructor <;> omega), hu, dec_L 17 u k hu2 (by omega) (by omega), Option.bind_some, chk_bind (by simp only [lim, List.length_cons, List.length_nil]; omega), if_pos q, show x.natAbs = u by omega]
  rfl
 ·obtain ⟨u, hu⟩ : ∃ u : Nat, x = (u : Int) := ⟨x.toNat, by omega⟩
  have h10 : (10 : Nat) ^ (17 + 1) = 1000000000000000000 := by decide
  have hu2 : u < 10 ^ (17 + 1) := by omega
  rw [if_neg q, hu, Int.toNat_natCast, dec_L 17 u n hu2 (by omega) (by omega)]
theorem itoa_len {x : Int} (h0 : -1099511627776 ≤ x) (h1 : x ≤ 1099511627776) : (Go.Lib.itoa x).length ≤ 20 := by
 unfold Go.Lib.itoa
 have hp : (10 : Nat) ^ (17 + 1) = 1000000000000000000 := by decide
 split
 ·have := dec_len 17 x.natAbs (by omega); simp; omega
 ·have := dec_len 17 x.toNat (by omega); omega
theorem itoaM_eq {x : Int} (h0 : -1099511627776 ≤ x) (h1 : x ≤ 1099511627776) : itoaM x = some (Go.Lib.itoa x) := by
 unfold itoaM; rw [if_pos (by constructor <;> omega)]
def dig (c : UInt8) : Bool := !(decide ((c.toNat : Int) < 48) || decide ((c.toNat : Int) > 57))
def nst (n : Int) (c : UInt8) : Int := 10 * n + ((c - (48 : UInt8)).toNat : Int)
def numP (s : Str) : Int := if s.length ≤ 15 ∧ s.all dig = true then s.foldl nst 0 else 0
theorem dig_or (c : UInt8) : (if decide ((c.toNat : Int) < 48) then some true else some (decide ((c.toNat : Int) > 57))) = some (!dig c) := by
 unfold dig; cases decide ((c.toNat : Int) < 48) <;> simp
theorem dig_val {c : UInt8} (h : dig c = true) : 0 ≤ ((c - (48 : UInt8)).toNat : Int) ∧ ((c - (48 : UInt8)).toNat : Int) ≤ 9 := by
 unfold dig at h
 simp at h
 have h48 : (48 : UInt8) ≤ c := by rw [UInt8.le_iff_toNat_le]; simp; omega
 rw [UInt8.toNat_sub_of_le _ _ h48]
 simp; omega
theorem nst_bd {i : Nat} {y : Int} {c : UInt8} (hc : dig c = true) (h0 : 0 ≤ y) (h1 : y < 10 ^ i) : 0 ≤ nst y c ∧ nst y c < 10 ^ (i + 1) := by
 have := dig_val hc
 unfold nst
 rw [Int.pow_succ]
 omega
theorem p15 {i : Nat} (h : i ≤ 15) : (10 : Int) ^ i ≤ 1000000000000000 := by
 have h1 : (10 : Nat) ^ i ≤ 10 ^ 15 := Nat.pow_le_pow_right (by decide) h
 have h2 : ((10 ^ i : Nat) : Int) = (10 : Int) ^ i := by rw [Int.natCast_pow]; rfl
 rw [← h2]
 have h3 : (10 : Nat) ^ 15 = 1000000000000000 := by decide
 omega
theorem num_L0 : ∀ (r : Str) (i : Nat) (j : Nat) (y : Int), 0 ≤ y → y < 10 ^ i → i + r.length ≤ 15 → Ja7 r j y = some (if r.all dig = true then .go (r.foldl nst y) else .ret 0)
 | [], i, j, y, _, _, _ => rfl
 | c :: r, i, j, y, h0, h1, h => by
  simp only [List.length_cons] at h
  rw [Ja7, dig_or, Option.bind_some, List.all_cons]
  cases q : dig c with
  | false => rw [if_pos (by simp)]; simp
  | true =>
   have hb := nst_bd q h0 h1
   have hp := p15 (show i ≤ 15 by omega)
   have hp1 := p15 (show i + 1 ≤ 15 by omega)
   have hd := dig_val q
   have e : (10 * y) + ((c - (48 : UInt8)).toNat : Int) = nst y c := rfl
   rw [if_neg (by simp), chk_bind (by constructor <;> omega), e, chk_bind (by constructor <;> omega), num_L0 r (i + 1) (j + 1) _ hb.1 hb.2 (by omega), Bool.true_and, List.foldl_cons]
theorem vnum1 (s : Str) : Jcj s = some (numP s) := by
 unfold Jcj numP
 by_cases q : s.length < 1 ∨ s.length > 15
 ·rw [if_pos (by simp; omega)]
  rcases q with q | q
  ·have : s = [] := List.length_eq_zero_iff.1 (by omega)
   subst this; rfl
  ·rw [if_neg (by omega)]
 ·rw [if_neg (by simp; omega), chk_bind (by simp only [szMax]; omega), num_L0 s 0 0 0 (by omega) (by decide) (by omega), Option.bind_some]
  by_cases q2 : s.all dig = true
  ·rw [if_pos q2, if_pos ⟨by omega, q2⟩]; rfl
  ·rw [if_neg q2, if_neg (by simp [q2])]; rfl
theorem num2_L0 {s : Str} (hs : s.length ≤ 1000000) : ∀ (m j : Nat) (y : Int), 0 ≤ y → y < 10 ^ j → j ≤ 15 → j ≤ s.length → s.length - j < m →
  JcN s m y (j : Int) = some (if s.length ≤ 15 ∧ (s.drop j).all dig = true then .go ((s.drop j).foldl nst y, (s.length : Int)) else .ret 0)
 | 0, j, y, _, _, _, _, h => by omega
 | m + 1, j, y, h0, h1, hj, hl, h => by
  rw [JcN]
  by_cases q : j < s.length
  ·have hix : ix s (j : Int) = some s[j] := by unfold ix; rw [if_pos (by omega), Int.toNat_natCast, List.getElem?_eq_getElem q]
   have hc : (((ix s (j : Int)).bind fun x13 =>
     (if decide ((x13.toNat : Int) < 48) then some true else (ix s (j : Int)).bind fun x18 => some (decide ((x18.toNat : Int) > 57))).bind fun x20 =>
     some (x20 || decide ((j : Int) = 15))) : Option (Bool)) = some (!dig s[j] || decide ((j : Int) = 15)) := by
    rw [hix, Option.bind_some, Option.bind_some, dig_or, Option.bind_some]
   rw [if_pos (by simpa using q), hc, Option.bind_some, hix, List.drop_eq_getElem_cons q, List.all_cons, List.foldl_cons]
   cases qd : dig s[j] with
   | false => rw [if_pos (by simp), if_neg (by simp)]
   | true =>
    by_cases q15 : j = 15
    ·rw [if_pos (by simp; omega), if_neg (by omega)]
    ·have hb := nst_bd qd h0 h1
     have hp := p15 (show j ≤ 15 by omega)
     have hp1 := p15 (show j + 1 ≤ 15 by omega)
     have hd := dig_val qd
     have e : (10 * y) + ((s[j] - (48 : UInt8)).toNat : Int) = nst y s[j] := rfl
     rw [if_neg (by simp; omega), chk_bind (by constructor <;> omega), Option.bind_some, e, chk_bind (by constructor <;> omega), chk_bind (by constructor <;> omega)]
     have ih := num2_L0 hs m (j + 1) (nst y s[j]) hb.1 hb.2 (by omega) (by omega) (by omega)
     rw [show ((j : Int) + 1) = ((j + 1 : Nat) : Int) by omega, ih, Bool.true_and]
  ·have e : j = s.length := by omega
   subst e
   rw [if_neg (by simp), List.drop_length, if_pos ⟨hj, rfl⟩]; rfl
theorem vnum2 {n : Nat} {s : Str} (hn : 1000002 ≤ n) (hs : s.length ≤ 1000000) : Jdo n s = some (numP s) := by
 unfold Jdo numP
 have h := num2_L0 hs n 0 0 (by omega) (by decide) (by omega) (by omega) (by omega)
 rw [show ((0 : Nat) : Int) = 0 from rfl] at h
 rw [h, Option.bind_some, List.drop_zero]
 by_cases q : s.length ≤ 15 ∧ s.all dig = true
 ·rw [if_pos q, if_pos q]; rfl
 ·rw [if_neg q, if_neg q]; rfl
theorem vlower_L0 : ∀ (r p : Str), JaK r.length p.length (p ++ r) = some (p ++ low r)
 | [], p => by simp [JaK, low]
 | c :: r, p => by
  rw [List.length_cons, JaK, ix_mid, Option.bind_some]
  have hl : (p ++ [lowB c]).length = p.length + 1 := by simp
  by_cases q : (decide ((c.toNat : Int) ≥ 65) && decide ((c.toNat : Int) ≤ 90)) = true
  ·have e : lowB c = c + 32 := by unfold lowB; rw [if_pos q]
   rw [if_pos q, Option.bind_some, set_mid, ← e, ← hl, vlower_L0 r (p ++ [lowB c])]; simp [low]
  ·have e : lowB c = c := by unfold lowB; rw [if_neg q]
   have e2 : p ++ c :: r = (p ++ [lowB c]) ++ r := by rw [e]; simp
   rw [if_neg q, e2, ← hl, vlower_L0 r (p ++ [lowB c])]; simp [low]
theorem vlower {s : Str} (h : s.length ≤ 1073741824) : JcY s = some (low s) := by
 unfold JcY
 have := vlower_L0 s []
 simp only [List.length_nil, List.nil_append] at this
 rw [chk_bind (by simp only [lim]; omega), chk_bind (by constructor <;> omega), Int.toNat_natCast, this]; rfl
theorem low_len (s : Str) : (low s).length = s.length := by simp [low]
theorem jt2_len (sep : Str) : ∀ l : List Str, (jt sep l).length ≤ sep.length * l.length + sumL l
 | [] => by simp [jt_nil]
 | x :: l => by
  have := jt2_len sep l
  rw [jt_cons, sumL_cons, List.length_append, List.length_append, List.length_cons, Nat.mul_succ]
  omega
theorem jn2_len (sep : Str) (l : List Str) : (jn l sep).length ≤ sep.length * l.length + sumL l := by
 cases l with
 | nil => rw [jn_nil]; simp
 | cons x l =>
  have := jt2_len sep l
  rw [jn_cons, sumL_cons, List.length_append, List.length_cons, Nat.mul_succ]; omega
def getP (f : List RF) (nm : Str) : Str := jn (vals f nm) [44, 32]
theorem getP_len (f : List RF) (nm : Str) : (getP f nm).length ≤ 3 * tot f := by
 have h1 := jn2_len [44, 32] (vals f nm)
 have h2 := sumL_vals nm f
 have h3 := sumL_len (vals f nm)
 unfold getP
 simp only [List.length_cons, List.length_nil] at h1
 omega
theorem get_eq {f : List RF} {nm : Str} (h : tot f ≤ 1000000) (hn : nm.length ≤ 1000000) : Jdw (ffs f) nm = some (getP f nm, decide (((vals f nm).length : Int) > 0)) := by
 have h1 := getP_len f nm
 have h2 := sumL_vals nm f
 have h3 := sumL_len (vals f nm)
 unfold getP at h1
 unfold Jdw getP
 rw [fall h hn, Option.bind_some, joinM_t (by omega) (by omega), Option.bind_some]
theorem get_L0 : ∀ (l : List Str) (i : Nat) (y : Str), 0 < i → y.length + (jt [44, 32] l).length ≤ 100000000 → Jch l i y = some (y ++ jt [44, 32] l)
 | [], i, y, _, _ => by simp [Jch, jt_nil]
 | x :: l, i, y, hi, h => by
  rw [jt_cons] at h ⊢
  simp only [List.length_append, List.length_cons, List.length_nil] at h
  rw [Jch, if_pos (by simpa using hi), chk_bind (by simp only [lim, List.length_cons, List.length_nil]; omega), chk_bind (by simp only [lim, List.length_append, List.length_cons, List.length_nil]; omega), get_L0 l (i + 1) _ (by omega) (by simp only [List.length_append, List.length_cons, List.length_nil]; omega)]
  simp
theorem get2_eq {f : List RF} {nm : Str} (h : tot f ≤ 1000000) (hn : nm.length ≤ 1000000) : JeA f nm = some (getP f nm, decide (((vals f nm).length : Int) > 0)) := by
 have h1 := getP_len f nm
 have h2 := sumL_vals nm f
 have h3 := sumL_len (vals f nm)
 unfold getP at h1
 unfold JeA getP
 rw [rall h hn, Option.bind_some, chk_bind (by simp only [szMax]; omega)]
 cases e : vals f nm with
 | nil => rfl
 | cons x l =>
  rw [e, jn_cons] at h1
  simp only [List.length_append] at h1
  rw [Jch, if_neg (by simp), chk_bind (by simp only [lim, List.length_nil]; omega), get_L0 l _ _ (by omega) (by simp; omega), jn_cons]; rfl
abbrev V1 := Jc
abbrev V2 := Js
abbrev In1 := JE
abbrev In2 := Jw
def clip (n : Int) : Int := max (-1099511627776) (min n 1099511627776)
theorem clip_bd (n : Int) : -1099511627776 ≤ clip n ∧ clip n ≤ 1099511627776 := by unfold clip; omega
def nm' (n : Int) : V1 := ⟨2, clip n, [], false⟩
def tx' (s : Str) : V1 := ⟨1, 0, s, false⟩
def tr' (b : Bool) : V1 := ⟨3, 0, [], b⟩
def cv2 (x : V1) : V2 := ⟨x.kind, x.n, x.s, x.At⟩
def inp (i : In2) : In1 := ⟨i.Am, i.An, i.Ae, i.Af, ffs i.Ao⟩
structure IOK (i : In2) : Prop where
 m : i.Am.length ≤ 10000
 h : i.An.length ≤ 10000
 p : i.Ae.length ≤ 10000
 q : i.Af.length ≤ 10000
 f : tot i.Ao ≤ 10000
def VOK (m : Nat) (x : V1) : Prop := x.s.length ≤ m ∧ -1099511627776 ≤ x.n ∧ x.n ≤ 1099511627776
theorem num1 (n : Int) : Jbw n = some (nm' n) := rfl
theorem text1 (s : Str) : Jaw s = some (tx' s) := rfl
theorem truth1 (b : Bool) : Jay b = some (tr' b) := rfl
theorem num2 (n : Int) : Jcs n = some (cv2 (nm' n)) := rfl
theorem text2 (s : Str) : Ja6 s = some (cv2 (tx' s)) := rfl
theorem nm_ok (m : Nat) (n : Int) : VOK m (nm' n) := ⟨Nat.zero_le _, (clip_bd n).1, (clip_bd n).2⟩
theorem tr_ok (m : Nat) (b : Bool) : VOK m (tr' b) := ⟨Nat.zero_le _, by simp [tr'], by simp [tr']⟩
theorem tx_ok {m : Nat} {s : Str} (h : s.length ≤ m) : VOK m (tx' s) := ⟨h, by simp [tx'], by simp [tx']⟩
theorem abs_mul (a b : Int) : 0 ≤ max a (-a) * max b (-b) ∧ ((decide (a < 0) == decide (b < 0)) = true → a * b = max a (-a) * max b (-b)) ∧ ((decide (a < 0) == decide (b < 0)) = false → a * b = -(max a (-a) * max b (-b))) := by
 have ha : 0 ≤ max a (-a) := by omega
 have hb : 0 ≤ max b (-b) := by omega
 refine ⟨Int.mul_nonneg ha hb, ?_, ?_⟩
 ·intro h
  by_cases qa : a < 0 <;> by_cases qb : b < 0
  ·rw [show max a (-a) = -a by omega, show max b (-b) = -b by omega, Int.neg_mul_neg]
  ·simp [qa, qb] at h
  ·simp [qa, qb] at h
  ·rw [show max a (-a) = a by omega, show max b (-b) = b by omega]
 ·intro h
  by_cases qa : a < 0 <;> by_cases qb : b < 0
  ·simp [qa, qb] at h
  ·rw [show max a (-a) = -a by omega, show max b (-b) = b by omega, Int.neg_mul, Int.neg_neg]
  ·rw [show max a (-a) = a by omega, show max b (-b) = -b by omega, Int.mul_neg, Int.neg_neg]
  ·simp [qa, qb] at h
theorem prod_eq {a b : Int} (a0 : -1099511627776 ≤ a) (a1 : a ≤ 1099511627776) (b0 : -1099511627776 ≤ b) (b1 : b ≤ 1099511627776) : Jcq a b = some (nm' (a * b)) := by
 unfold Jcq
 by_cases q0 : a = 0 ∨ b = 0
 ·rw [if_pos (by simpa using q0), num1, Option.bind_some]
  rcases q0 with rfl | rfl <;> simp
 ·rw [if_neg (by simpa using q0), chk_bind (by constructor <;> omega), chk_bind (by constructor <;> omega)]
  obtain ⟨p0, p1, p2⟩ := abs_mul a b
  have hx : 0 < max a (-a) := by omega
  have hy : 0 < max b (-b) := by omega
  have hx1 : max a (-a) ≤ 1099511627776 := by omega
  have hy1 : max b (-b) ≤ 1099511627776 := by omega
  have hng : (!(decide (a < 0) == decide (b < 0))) = true ↔ (decide (a < 0) == decide (b < 0)) = false := by simp
  generalize max a (-a) = x at *
  generalize max b (-b) = y at *
  have ed : Int.tdiv 1099511627776 y = 1099511627776 / y := Int.tdiv_eq_ediv_of_nonneg (by omega)
  have hq0 : 0 ≤ 1099511627776 / y := Int.ediv_nonneg (by omega) (by omega)
  have hq1 : 1099511627776 / y ≤ 1099511627776 := Int.ediv_le_self _ (by omega)
  rw [ed, chk_bind ⟨by omega, by omega, by omega⟩]
  by_cases q : x > 1099511627776 / y
  ·have hxy : 1099511627776 < x * y := (Int.ediv_lt_iff_lt_mul hy).1 q
   rw [if_pos (by simpa using q), Option.bind_some]
   by_cases qs : (decide (a < 0) == decide (b < 0)) = true
   ·rw [if_neg (by simp [qs]), chk_bind (by decide), num1, Option.bind_some, p1 qs]
    congr 1
    unfold nm' clip; congr 1; omega
   ·have qs : (decide (a < 0) == decide (b < 0)) = false := by simpa using qs
    rw [if_pos (hng.2 qs), chk_bind (by decide), chk_bind (by decide), num1, Option.bind_some, p2 qs]
    congr 1
    unfold nm' clip; congr 1; omega
  ·have hxy : x * y ≤ 1099511627776 := by
    by_cases w : 1099511627776 < x * y
    ·exact absurd ((Int.ediv_lt_iff_lt_mul hy).2 w) q
    ·omega
   rw [if_neg (by simpa using q), Option.bind_some]
   by_cases qs : (decide (a < 0) == decide (b < 0)) = true
   ·rw [if_neg (by simp [qs]), chk_bind (by simp only; constructor <;> omega), num1, Option.bind_some, p1 qs]
   ·have qs : (decide (a < 0) == decide (b < 0)) = false := by simpa using qs
    rw [if_pos (hng.2 qs), chk_bind (by simp only; constructor <;> omega), chk_bind (by simp only; rw [Int.neg_mul]; constructor <;> omega), num1, Option.bind_some, p2 qs]
    simp only [Int.neg_mul]
theorem prod2_eq {a b : Int} (a0 : -1099511627776 ≤ a) (a1 : a ≤ 1099511627776) (b0 : -1099511627776 ≤ b) (b1 : b ≤ 1099511627776) : JdL a b = some (cv2 (nm' (a * b))) := by
 unfold JdL
 by_cases q0 : a = 0
 ·subst q0
  rw [if_neg (by simp), Option.bind_some, if_neg (by simp), Int.zero_mul, chk_bind (by decide), num2]; rfl
 ·obtain ⟨p0, p1, p2⟩ := abs_mul a b
  have hx : 0 < max a (-a) := by omega
  have hx1 : max a (-a) ≤ 1099511627776 := by omega
  have hy0 : 0 ≤ max b (-b) := by omega
  have ed : Int.tdiv 2199023255552 (max a (-a)) = 2199023255552 / max a (-a) := Int.tdiv_eq_ediv_of_nonneg (by omega)
  have hq0 : 0 ≤ 2199023255552 / max a (-a) := Int.ediv_nonneg (by omega) (by omega)
  have hq1 : 2199023255552 / max a (-a) ≤ 2199023255552 := Int.ediv_le_self _ (by omega)
  have hc : ((if decide (a ≠ 0) then
   (chk (InI (-a))).bind fun _ =>
   (chk ((max a (-a)) ≠ 0 ∧ InI (Int.tdiv 2199023255552 (max a (-a))))).bind fun _ =>
   (if decide (b > (Int.tdiv 2199023255552 (max a (-a)))) then some true else (chk (InI (-a))).bind fun _ =>
   (chk ((max a (-a)) ≠ 0 ∧ InI (Int.tdiv 2199023255552 (max a (-a))))).bind fun _ =>
   (chk (InI (-(Int.tdiv 2199023255552 (max a (-a)))))).bind fun _ =>
   some (decide (b < (-(Int.tdiv 2199023255552 (max a (-a))))))).bind fun x24 =>
   some x24
   else
   some false) : Option (Bool)) = some (decide (max b (-b) > 2199023255552 / max a (-a))) := by
   rw [ed, if_pos (by simpa using q0), chk_bind (by constructor <;> omega), chk_bind ⟨by omega, by omega, by omega⟩]
   by_cases q : b > 2199023255552 / max a (-a)
   ·rw [if_pos (by simpa using q), Option.bind_some, decide_eq_true (by omega)]
   ·rw [if_neg (by simpa using q), chk_bind (by constructor <;> omega), chk_bind ⟨by omega, by omega, by omega⟩, chk_bind (by constructor <;> omega), Option.bind_some]
    congr 1
    rw [decide_eq_decide]; omega
  rw [hc, Option.bind_some]
  by_cases q : max b (-b) > 2199023255552 / max a (-a)
  ·have hxy : 2199023255552 < max a (-a) * max b (-b) := by rw [Int.mul_comm]; exact (Int.ediv_lt_iff_lt_mul hx).1 q
   have hb0 : b ≠ 0 := fun e => by subst e; omega
   rw [if_pos (by simpa using q)]
   have es : (decide (a > 0) == decide (b > 0)) = (decide (a < 0) == decide (b < 0)) := by
    by_cases qa : a < 0 <;> by_cases qb : b < 0
    ·rw [decide_eq_false (show ¬ a > 0 by omega), decide_eq_false (show ¬ b > 0 by omega), decide_eq_true qa, decide_eq_true qb]; rfl
    ·rw [decide_eq_false (show ¬ a > 0 by omega), decide_eq_true (show b > 0 by omega), decide_eq_true qa, decide_eq_false qb]; rfl
    ·rw [decide_eq_true (show a > 0 by omega), decide_eq_false (show ¬ b > 0 by omega), decide_eq_false qa, decide_eq_true qb]; rfl
    ·rw [decide_eq_true (show a > 0 by omega), decide_eq_true (show b > 0 by omega), decide_eq_false qa, decide_eq_false qb]; rfl
   rw [es]
   by_cases qs : (decide (a < 0) == decide (b < 0)) = true
   ·rw [if_pos qs, num2, Option.bind_some, p1 qs]
    congr 2
    unfold nm' clip; congr 1; omega
   ·have qs : (decide (a < 0) == decide (b < 0)) = false := by simpa using qs
    rw [if_neg (by simp [qs]), num2, Option.bind_some, p2 qs]
    congr 2
    unfold nm' clip; congr 1; omega
  ·have hxy : max a (-a) * max b (-b) ≤ 2199023255552 := by
    by_cases w : 2199023255552 < max a (-a) * max b (-b)
    ·exact absurd ((Int.ediv_lt_iff_lt_mul hx).2 (by rw [Int.mul_comm]; exact w)) q
    ·omega
   have hin : InI (a * b) := by
    by_cases qs : (decide (a < 0) == decide (b < 0)) = true
    ·rw [p1 qs]; constructor <;> omega
    ·rw [p2 (by simpa using qs)]; constructor <;> omega
   rw [if_neg (by simpa using q), chk_bind hin, num2]; rfl
theorem call_sim {n m : Nat} {nm : Str} {x : V1} {i : In2} (hn : 1000002 ≤ n) (hm : m ≤ 20000) (hi : IOK i) (hx : VOK m x) :
  ∃ v ok, JK nm x (inp i) = some (v, ok) ∧ (∃ w, Jbn n nm (cv2 x) i = some (w, ok) ∧ (ok = true → w = cv2 v)) ∧ (ok = true → VOK 40000 v) := by
 obtain ⟨hx0, hx1, hx2⟩ := hx
 have hsg := segs_len i.Ae
 have hip := hi.p
 have hsl : x.s.length ≤ 1000000 := by omega
 have hft : tot i.Ao ≤ 1000000 := by have := hi.f; omega
 have hgl := getP_len i.Ao x.s
 have hif := hi.f
 have hs2 : (cv2 x).N = x.n := rfl
 have main2 : ∀ {b : V1}, VOK 40000 b → ∀ {o1 : Option (V1 × Bool)} {o2 : Option (V2 × Bool)}, o1 = (if decide (x.kind ≠ 2) = true then some (⟨0, 0, [], false⟩, false) else some (b, true)) → (∃ w, o2 = some (w, decide ((cv2 x).As = 2)) ∧ (x.kind = 2 → w = cv2 b)) →
   ∃ v ok, o1 = some (v, ok) ∧ (∃ w, o2 = some (w, ok) ∧ (ok = true → w = cv2 v)) ∧ (ok = true → VOK 40000 v) := by
  rintro b hb o1 o2 h1 ⟨w, h2, h3⟩
  by_cases k : x.kind = 2
  ·rw [if_neg (by simpa using k)] at h1
   rw [decide_eq_true (show (cv2 x).As = 2 from k)] at h2
   exact ⟨_, _, h1, ⟨_, h2, fun _ => h3 k⟩, fun _ => hb⟩
  ·rw [if_pos (by simpa using k)] at h1
   rw [decide_eq_false (show ¬ (cv2 x).As = 2 from k)] at h2
   exact ⟨_, _, h1, ⟨_, h2, fun h => by cases h⟩, fun h => by cases h⟩
 by_cases q1 : nm = [112, 97, 114, 116]
 ·subst q1
  have e1 : JK [112, 97, 114, 116] x (inp i) = if decide (x.kind ≠ 2) = true then some (⟨0, 0, [], false⟩, false) else if (decide (x.n < 0) || decide (x.n ≥ ((segs i.Ae).length : Int))) = true then some (tx' [], true) else (ix (segs i.Ae) x.n).bind fun z => some (tx' z, true) := by
   unfold JK
   rw [if_pos (by decide), if_neg (show ¬ decide (([112, 97, 114, 116] : Str) = [116, 101, 120, 116]) = true by decide), show (inp i).Ae = i.Ae from rfl, segs_eq (by omega)]
   rfl
  have e2 : Jbn n [112, 97, 114, 116] (cv2 x) i = if ((decide ((cv2 x).As = 2) && decide (x.n ≥ 0)) && decide (x.n < ((segs i.Ae).length : Int))) = true then (ix (segs i.Ae) x.n).bind fun z => some (cv2 (tx' z), true) else some (cv2 (tx' []), decide ((cv2 x).As = 2)) := by
   unfold Jbn
   rw [if_pos (by decide), segs2_eq (by omega)]
   rfl
  by_cases r : 0 ≤ x.n ∧ x.n < (segs i.Ae).length
  ·obtain ⟨z, hz⟩ := ix_ok r.1 r.2
   have hzl : z.length ≤ i.Ae.length := by
    unfold ix at hz
    rw [if_pos r.1] at hz
    exact segs_mem (List.mem_of_getElem? hz)
   rw [hz, Option.bind_some] at e1 e2
   refine main2 (b := tx' z) (tx_ok (by omega)) ?_ ?_
   ·rw [e1]; congr 1; rw [if_neg (by simp; omega)]
   ·rw [e2]
    by_cases k : x.kind = 2
    ·rw [if_pos (by simp [cv2, k]; omega)]
     exact ⟨_, by rw [decide_eq_true (show (cv2 x).As = 2 from k)], fun _ => rfl⟩
    ·rw [if_neg (by simp [cv2, k])]
     exact ⟨_, rfl, fun h => absurd h k⟩
  ·refine main2 (b := tx' []) (tx_ok (by simp)) ?_ ?_
   ·rw [e1]; congr 1; rw [if_pos (by simp; omega)]
   ·rw [e2, if_neg (by simp; omega)]
    exact ⟨_, rfl, fun _ => rfl⟩
 by_cases q2 : nm = [116, 101, 120, 116]
 ·subst q2
  have hil := itoa_len hx1 hx2
  refine main2 (b := tx' (Go.Lib.itoa x.n)) (tx_ok (by omega)) ?_ ?_
  ·unfold JK
   rw [if_pos (by decide), if_pos (show decide (([116, 101, 120, 116] : Str) = [116, 101, 120, 116]) = true by decide), itoaM_eq hx1 hx2]; rfl
  ·unfold Jbn
   rw [if_neg (by decide), if_pos (by decide), hs2, dec_eq (by omega) hx1 hx2]
   exact ⟨_, rfl, fun _ => rfl⟩
 have hs : (cv2 x).S = x.s := rfl
 have main : ∀ {b : V1}, VOK 40000 b → ∀ {o1 : Option (V1 × Bool)} {o2 : Option (V2 × Bool)}, o1 = (if decide (x.kind ≠ 1) = true then some (⟨0, 0, [], false⟩, false) else some (b, true)) → o2 = some (cv2 b, decide ((cv2 x).As = 1)) →
   ∃ v ok, o1 = some (v, ok) ∧ (∃ w, o2 = some (w, ok) ∧ (ok = true → w = cv2 v)) ∧ (ok = true → VOK 40000 v) := by
  intro b hb o1 o2 h1 h2
  by_cases k : x.kind = 1
  ·rw [if_neg (by simpa using k)] at h1
   rw [decide_eq_true (show (cv2 x).As = 1 from k)] at h2
   exact ⟨_, _, h1, ⟨_, h2, fun _ => rfl⟩, fun _ => hb⟩
  ·rw [if_pos (by simpa using k)] at h1
   rw [decide_eq_false (show ¬ (cv2 x).As = 1 from k)] at h2
   exact ⟨_, _, h1, ⟨_, h2, fun h => by cases h⟩, fun h => by cases h⟩
 by_cases q3 : nm = [104, 101, 97, 100, 101, 114]
 ·subst q3
  refine main (b := tx' (getP i.Ao x.s)) (tx_ok (by omega)) ?_ ?_
  ·unfold JK
   rw [if_neg (by decide)]
   congr 1
   rw [if_pos (by decide), show (inp i).Ao = ffs i.Ao from rfl, get_eq hft hsl]; rfl
  ·unfold Jbn
   rw [if_neg (by decide), if_neg (by decide), if_pos (by decide), hs, get2_eq hft hsl]; rfl
 by_cases q4 : nm = [104, 97, 115]
 ·subst q4
  refine main (b := tr' (decide (((vals i.Ao x.s).length : Int) > 0))) (tr_ok _ _) ?_ ?_
  ·unfold JK
   rw [if_neg (by decide)]
   congr 1
   rw [if_neg (by decide), if_pos (by decide), show (inp i).Ao = ffs i.Ao from rfl, get_eq hft hsl]; rfl
  ·unfold Jbn
   rw [if_neg (by decide), if_neg (by decide), if_neg (by decide), if_pos (by decide), hs, get2_eq hft hsl]; rfl
 by_cases q5 : nm = [97, 114, 103]
 ·subst q5
  have hqq := hi.q
  have hal := argP_len i.Af x.s
  obtain ⟨b1, h1⟩ := arg_eq (q := i.Af) (nm := x.s) (by omega) hsl
  obtain ⟨b2, h2⟩ := arg2_eq (q := i.Af) (nm := x.s) (by omega) hsl
  refine main (b := tx' (argP i.Af x.s)) (tx_ok (by omega)) ?_ ?_
  ·unfold JK
   rw [if_neg (by decide)]
   congr 1
   rw [if_neg (by decide), if_neg (by decide), if_pos (by decide), show (inp i).Af = i.Af from rfl, h1]; rfl
  ·unfold Jbn
   rw [if_neg (by decide), if_neg (by decide), if_neg (by decide), if_neg (by decide), if_pos (by decide), hs, h2]; rfl
 by_cases q6 : nm = [108, 101, 110]
 ·subst q6
  refine main (b := nm' (x.s.length : Int)) (nm_ok _ _) ?_ ?_
  ·unfold JK
   rw [if_neg (by decide)]
   congr 1
  ·unfold Jbn
   rw [if_neg (by decide), if_neg (by decide), if_neg (by decide), if_neg (by decide), if_neg (by decide), if_pos (by decide)]; rfl
 by_cases q7 : nm = [108, 111, 119, 101, 114]
 ·subst q7
  refine main (b := tx' (low x.s)) (tx_ok (by rw [low_len]; omega)) ?_ ?_
  ·unfold JK
   rw [if_neg (by decide)]
   congr 1
   rw [if_neg (by decide), if_neg (by decide), if_neg (by decide), if_neg (by decide), if_pos (by decide), vlower (by omega)]; rfl
  ·unfold Jbn
   rw [if_neg (by decide), if_neg (by decide), if_neg (by decide), if_neg (by decide), if_neg (by decide), if_neg (by decide), if_pos (by decide), hs, rlower (by omega)]; rfl
 refine main (b := nm' (numP x.s)) (nm_ok _ _) ?_ ?_
 ·unfold JK
  rw [if_neg (by simp [q1, q2])]
  congr 1
  rw [if_neg (by simpa using q3), if_neg (by simpa using q4), if_neg (by simpa using q5), if_neg (by simpa using q6), if_neg (by simpa using q7), vnum1]; rfl
 ·unfold Jbn
  rw [if_neg (by simpa using q1), if_neg (by simpa using q2), if_neg (by simpa using q3), if_neg (by simpa using q4), if_neg (by simpa using q5), if_neg (by simpa using q6), if_neg (by simpa using q7), hs, vnum2 hn hsl]; rfl
def sfxB (a b : Str) : Bool := decide ((a.length : Int) ≥ (b.length : Int)) && decide (subL a ((a.length : Int) - (b.length : Int)) (a.length : Int) = b)
theorem sfx {a b : Str} (h : a.length ≤ 1000000) (hb : b.length ≤ 1000000) : JbS a b = some (sfxB a b) := by
 unfold JbS Jaz sfxB
 by_cases h : (a.length : Int) ≥ (b.length : Int)
 ·rw [if_pos (by simpa using h), chk_bind (by constructor <;> omega), chk_bind (by omega)]; simp [h]
 ·rw [if_neg (by simpa using h)]
  have : ¬ b.length ≤ a.length := by omega
  simp [this]
theorem pfx (a b : Str) : J1 a b = some (Rc.hp a b) := by rw [prefix_ok, Rc.hp_eq]
theorem pfx2 (a b : Str) : (if decide ((a.length : Int) ≥ (b.length : Int)) then (chk (0 ≤ (0 : Int) ∧ (0 : Int) ≤ (min (a.length : Int) (b.length : Int)) ∧ (min (a.length : Int) (b.length : Int)) ≤ (a.length : Int))).bind fun _ =>
 some (decide ((subL a (0 : Int) (min (a.length : Int) (b.length : Int))) = b)) else some false) = some (Rc.hp a b) := by
 rw [← Rc.hp_eq]
 by_cases h : (a.length : Int) ≥ (b.length : Int)
 ·rw [if_pos (by simpa using h), chk_bind (by omega), decide_eq_true h, Bool.true_and, show min (a.length : Int) (b.length : Int) = b.length by omega]
 ·rw [if_neg (by simpa using h), decide_eq_false h, Bool.false_and]
theorem sfx2 {a b : Str} (ha : a.length ≤ 1000000) (hb : b.length ≤ 1000000) : (if decide ((a.length : Int) ≥ (b.length : Int)) then (chk (InI ((a.length : Int) - (b.length : Int)))).bind fun _ =>
 (chk (0 ≤ (max 0 ((a.length : Int) - (b.length : Int))) ∧ (max 0 ((a.length : Int) - (b.length : Int))) ≤ (a.length : Int) ∧ (a.length : Int) ≤ (a.length : Int))).bind fun _ =>
 some (decide ((subL a (max 0 ((a.length : Int) - (b.length : Int))) (a.length : Int)) = b)) else some false) = some (sfxB a b) := by
 unfold sfxB
 by_cases h : (a.length : Int) ≥ (b.length : Int)
 ·rw [if_pos (by simpa using h), chk_bind (by constructor <;> omega), chk_bind (by omega), decide_eq_true h, Bool.true_and, show max 0 ((a.length : Int) - (b.length : Int)) = (a.length : Int) - (b.length : Int) by omega]
 ·rw [if_neg (by simpa using h), decide_eq_false h, Bool.false_and]
def eqB (a b : V1) : Bool := decide (a.kind = b.kind) && (decide (a.n = b.n) && (decide (a.s = b.s) && (a.At == b.At)))
theorem op_sim {n m : Nat} {op : Str} {a b : V1} (hn : 1000002 ≤ n) (hm : m ≤ 20000) (ha : VOK m a) (hb : VOK m b) :
  ∃ v ok, JR op a b = some (v, ok) ∧ (∃ w, JZ n op (cv2 a) (cv2 b) = some (w, ok) ∧ (ok = true → w = cv2 v)) ∧ (ok = true → VOK 40000 v) := by
 obtain ⟨ha0, ha1, ha2⟩ := ha
 obtain ⟨hb0, hb1, hb2⟩ := hb
 have hA : a.s.length ≤ 1000000 := by omega
 have hB : b.s.length ≤ 1000000 := by omega
 have main : ∀ {T : Int} {v : V1}, VOK 40000 v → ∀ {o1 : Option (V1 × Bool)} {o2 : Option (V2 × Bool)}, o1 = (if decide (a.kind ≠ b.kind) = true then some (⟨0, 0, [], false⟩, false) else some (v, decide (a.kind = T))) → o2 = some (cv2 v, decide (a.kind = T) && decide (b.kind = T)) →
   ∃ v ok, o1 = some (v, ok) ∧ (∃ w, o2 = some (w, ok) ∧ (ok = true → w = cv2 v)) ∧ (ok = true → VOK 40000 v) := by
  intro T v hv o1 o2 h1 h2
  by_cases k : a.kind = b.kind
  ·rw [if_neg (by simpa using k)] at h1
   rw [← k, Bool.and_self] at h2
   exact ⟨_, _, h1, ⟨_, h2, fun _ => rfl⟩, fun _ => hv⟩
  ·rw [if_pos (by simpa using k)] at h1
   have : (decide (a.kind = T) && decide (b.kind = T)) = false := by
    by_cases q : a.kind = T
    ·have : ¬ b.kind = T := fun e => k (by rw [q, e])
     simp [this]
    ·simp [q]
   rw [this] at h2
   exact ⟨_, _, h1, ⟨_, h2, fun h => by cases h⟩, fun h => by cases h⟩
 have mainE : ∀ {v : V1}, VOK 40000 v → ∀ {o1 : Option (V1 × Bool)} {o2 : Option (V2 × Bool)}, o1 = (if decide (a.kind ≠ b.kind) = true then some (⟨0, 0, [], false⟩, false) else some (v, true)) → o2 = some (cv2 v, decide (a.kind = b.kind)) →
   ∃ v ok, o1 = some (v, ok) ∧ (∃ w, o2 = some (w, ok) ∧ (ok = true → w = cv2 v)) ∧ (ok = true → VOK 40000 v) := by
  intro v hv o1 o2 h1 h2
  by_cases k : a.kind = b.kind
  ·rw [if_neg (by simpa using k)] at h1
   rw [decide_eq_true k] at h2
   exact ⟨_, _, h1, ⟨_, h2, fun _ => rfl⟩, fun _ => hv⟩
  ·rw [if_pos (by simpa using k)] at h1
   rw [decide_eq_false k] at h2
   exact ⟨_, _, h1, ⟨_, h2, fun h => by cases h⟩, fun h => by cases h⟩
 by_cases q1 : op = [43]
 ·subst q1
  have e1 : JR [43] a b = if decide (a.kind ≠ b.kind) = true then some (⟨0, 0, [], false⟩, false) else if decide (a.kind = 1) = true then some (tx' (a.s ++ b.s), true) else some (nm' (a.n + b.n), decide (a.kind = 2)) := by
   unfold JR
   congr 1
   rw [if_pos (by decide)]
   congr 1
   ·rw [chk_bind (by simp only [lim]; omega), text1]; rfl
   ·rw [chk_bind (by constructor <;> omega), num1]; rfl
  have e2 : JZ n [43] (cv2 a) (cv2 b) = if (decide (a.kind = 1) && decide (b.kind = 1)) = true then some (cv2 (tx' (a.s ++ b.s)), true) else some (cv2 (nm' (a.n + b.n)), (decide (a.kind = 2) && decide (b.kind = 2))) := by
   unfold JZ
   rw [if_pos (by decide)]
   congr 1
   ·rw [chk_bind (by simp only [lim, cv2]; omega), text2]; rfl
   ·rw [chk_bind (by simp only [cv2]; constructor <;> omega), num2]; rfl
  by_cases k : a.kind = 1
  ·by_cases k2 : b.kind = 1
   ·rw [if_neg (by simp [k, k2]), if_pos (by simpa using k)] at e1
    rw [if_pos (by simp [k, k2])] at e2
    exact ⟨_, _, e1, ⟨_, e2, fun _ => rfl⟩, fun _ => tx_ok (by simp; omega)⟩
   ·rw [if_pos (by rw [k]; simp; exact fun e => k2 e.symm)] at e1
    rw [if_neg (by simp [k2]), show (decide (a.kind = 2) && decide (b.kind = 2)) = false by simp [k]] at e2
    exact ⟨_, _, e1, ⟨_, e2, fun h => by cases h⟩, fun h => by cases h⟩
  ·exact main (nm_ok 40000 (a.n + b.n)) (by rw [e1]; congr 1; rw [if_neg (by simpa using k)]) (by rw [e2, if_neg (by simp [k])])
 by_cases q2 : op = [45]
 ·subst q2
  refine main (T := 2) (nm_ok 40000 (a.n - b.n)) ?_ ?_
  ·unfold JR
   congr 1
   rw [if_neg (by decide), if_pos (by decide), chk_bind (by constructor <;> omega), num1]; rfl
  ·unfold JZ
   rw [if_neg (by decide), if_pos (by decide), chk_bind (by simp only [cv2]; constructor <;> omega), num2]; rfl
 by_cases q3 : op = [42]
 ·subst q3
  have e1 : JR [42] a b = if decide (a.kind ≠ b.kind) = true then some (⟨0, 0, [], false⟩, false) else if (!decide (a.kind = 2)) = true then some (⟨0, 0, [], false⟩, false) else some (nm' (a.n * b.n), true) := by
   unfold JR
   congr 1
   rw [if_neg (by decide), if_neg (by decide), if_pos (by decide), prod_eq ha1 ha2 hb1 hb2]; rfl
  have e2 : JZ n [42] (cv2 a) (cv2 b) = some (cv2 (nm' (a.n * b.n)), (decide (a.kind = 2) && decide (b.kind = 2))) := by
   unfold JZ
   rw [if_neg (by decide), if_neg (by decide), if_pos (by decide), show (cv2 a).N = a.n from rfl, show (cv2 b).N = b.n from rfl, prod2_eq ha1 ha2 hb1 hb2]; rfl
  by_cases k : a.kind = 2
  ·exact main (T := 2) (nm_ok 40000 (a.n * b.n)) (by rw [e1]; congr 1; rw [if_neg (by simp [k]), decide_eq_true k]) e2
  ·rw [if_pos (show (!decide (a.kind = 2)) = true by simp [k])] at e1
   rw [show (decide (a.kind = 2) && decide (b.kind = 2)) = false by simp [k]] at e2
   refine ⟨⟨0, 0, [], false⟩, false, ?_, ⟨_, e2, fun h => by cases h⟩, fun h => by cases h⟩
   rw [e1]; split <;> rfl
 by_cases q4 : op = [61, 61]
 ·subst q4
  refine mainE (tr_ok 40000 (eqB a b)) ?_ ?_
  ·unfold JR
   congr 1
  ·unfold JZ
   rw [if_neg (by decide), if_neg (by decide), if_neg (by decide), if_pos (by decide)]; rfl
 by_cases q5 : op = [33, 61]
 ·subst q5
  refine mainE (tr_ok 40000 (!eqB a b)) ?_ ?_
  ·unfold JR
   congr 1
  ·unfold JZ
   rw [if_neg (by decide), if_neg (by decide), if_neg (by decide), if_neg (by decide), if_pos (by decide)]; rfl
 by_cases q6 : op = [60]
 ·subst q6
  refine main (T := 2) (tr_ok 40000 (decide (a.n < b.n))) ?_ ?_
  ·unfold JR
   congr 1
  ·unfold JZ
   rw [if_neg (by decide), if_neg (by decide), if_neg (by decide), if_neg (by decide), if_neg (by decide), if_pos (by decide)]; rfl
 by_cases q7 : op = [60, 61]
 ·subst q7
  refine main (T := 2) (tr_ok 40000 (decide (a.n ≤ b.n))) ?_ ?_
  ·unfold JR
   congr 1
  ·unfold JZ
   rw [if_neg (by decide), if_neg (by decide), if_neg (by decide), if_neg (by decide), if_neg (by decide), if_neg (by decide), if_pos (by decide)]; rfl
 by_cases q8 : op = [115, 116, 97, 114, 116, 115]
 ·subst q8
  refine main (T := 1) (tr_ok 40000 (Rc.hp a.s b.s)) ?_ ?_
  ·unfold JR
   congr 1
   rw [if_neg (by decide), if_neg (by decide), if_neg (by decide), if_neg (by decide), if_neg (by decide), if_neg (by decide), if_neg (by decide), if_pos (by decide), pfx]; rfl
  ·unfold JZ
   rw [if_neg (by decide), if_neg (by decide), if_neg (by decide), if_neg (by decide), if_neg (by decide), if_neg (by decide), if_neg (by decide), if_pos (by decide), show (cv2 a).S = a.s from rfl, show (cv2 b).S = b.s from rfl, pfx2]; rfl
 by_cases q9 : op = [101, 110, 100, 115]
 ·subst q9
  refine main (T := 1) (tr_ok 40000 (sfxB a.s b.s)) ?_ ?_
  ·unfold JR
   congr 1
   rw [if_neg (by decide), if_neg (by decide), if_neg (by decide), if_neg (by decide), if_neg (by decide), if_neg (by decide), if_neg (by decide), if_neg (by decide), if_pos (by decide), sfx hA hB]; rfl
  ·unfold JZ
   rw [if_neg (by decide), if_neg (by decide), if_neg (by decide), if_neg (by decide), if_neg (by decide), if_neg (by decide), if_neg (by decide), if_neg (by decide), if_pos (by decide), show (cv2 a).S = a.s from rfl, show (cv2 b).S = b.s from rfl, sfx2 hA hB]; rfl
 refine main (T := 1) (tr_ok 40000 (Go.Lib.contains a.s b.s)) ?_ ?_
 ·unfold JR
  congr 1
  rw [if_neg (by simpa using q1), if_neg (by simpa using q2), if_neg (by simpa using q3), if_neg (by simpa using q4), if_neg (by simpa using q5), if_neg (by simpa using q6), if_neg (by simpa using q7), if_neg (by simpa using q8), if_neg (by simpa using q9), containsM_eq hA]; rfl
 ·unfold JZ
  rw [if_neg (by simpa using q1), if_neg (by simpa using q2), if_neg (by simpa using q3), if_neg (by simpa using q4), if_neg (by simpa using q5), if_neg (by simpa using q6), if_neg (by simpa using q7), if_neg (by simpa using q8), if_neg (by simpa using q9), show (cv2 a).S = a.s from rfl, show (cv2 b).S = b.s from rfl, cont2_eq hn hA hB]; rfl
theorem pre_sim {nm : Str} {i : In2} (hi : IOK i) : ∃ v, Jal nm (inp i) = some v ∧ JdK nm i = some (cv2 v) ∧ VOK 10000 v := by
 unfold Jal JdK
 by_cases q1 : nm = [109, 101, 116, 104, 111, 100]
 ·subst q1; exact ⟨_, rfl, rfl, tx_ok hi.m⟩
 by_cases q2 : nm = [104, 111, 115, 116]
 ·subst q2; exact ⟨_, rfl, rfl, tx_ok hi.h⟩
 by_cases q3 : nm = [112, 97, 116, 104]
 ·subst q3; exact ⟨_, rfl, rfl, tx_ok hi.p⟩
 rw [if_neg (by simpa using q1), if_neg (by simpa using q2), if_neg (by simpa using q3), if_neg (by simpa using q1), if_neg (by simpa using q2), if_neg (by simpa using q3)]
 exact ⟨_, rfl, rfl, tx_ok hi.q⟩
noncomputable def tokB (s : Str) : Bool := (Jdf s).getD false
theorem tokB_eq {s : Str} (h : s.length ≤ 100000000) : syntax_Token s = some (tokB s) ∧ Jdf s = some (tokB s) := by
 obtain ⟨b, h1, h2⟩ := tok h
 unfold tokB
 rw [h1, h2]; exact ⟨rfl, rfl⟩
noncomputable def nmO (s : Str) : Option Str := if tokB s = true ∧ s.length ≤ 64 then some (low s) else none
noncomputable def nmC (s : Str) : Int := if tokB s = true then 5 else 8
theorem nmO_len {s m : Str} (h : nmO s = some m) : m.length ≤ 64 := by
 unfold nmO at h
 split at h
 ·rename_i k; cases h; rw [low_len]; exact k.2
 ·cases h
theorem name1 {s : Str} (h : s.length ≤ 100000000) : Jdy s = some ((nmO s).getD [], if (nmO s).isSome = true then none else some (nmC s)) := by
 unfold Jdy nmO nmC
 rw [(tokB_eq h).1, Option.bind_some]
 cases q : tokB s with
 | false => rfl
 | true =>
  rw [if_neg (by simp)]
  by_cases k : s.length ≤ 64
  ·rw [if_neg (by simp; omega), flower (by omega), if_pos ⟨rfl, k⟩]; rfl
  ·rw [if_pos (by simp; omega), if_neg (by simp [k])]; rfl
def vlO (s : Str) : Option Str := if ctl s = false ∧ (trm s).length ≤ 2048 then some (trm s) else none
def vlC (s : Str) : Int := if ctl s = true then 2 else 5
theorem vlC_ne (s : Str) : vlC s ≠ 0 := by unfold vlC; split <;> decide
theorem vlO_len {s m : Str} (h : vlO s = some m) : m.length ≤ 2048 := by
 unfold vlO at h
 split at h
 ·rename_i k; cases h; exact k.2
 ·cases h
theorem fcontrol_L0 : ∀ (s : Str) (i : Nat), Ja8 s i = some (if ctl s = true then Fl.ret true else Fl.go ())
 | [], i => rfl
 | c :: s, i => by
  have e : ctl (c :: s) = (((decide ((c.toNat : Int) < 32) && decide ((c.toNat : Int) ≠ 9)) || decide ((c.toNat : Int) = 127)) || ctl s) := rfl
  rw [Ja8, fcontrol_L0 s (i + 1), e]
  cases q1 : decide ((c.toNat : Int) < 32) <;> cases q2 : decide ((c.toNat : Int) ≠ 9) <;> cases q3 : decide ((c.toNat : Int) = 127) <;> simp
theorem fcontrol_eq {s : Str} (h : s.length ≤ 100000000) : JcI s = some (ctl s) := by
 unfold JcI
 rw [chk_bind (by simp only [szMax]; omega), fcontrol_L0, Option.bind_some]
 cases ctl s <;> rfl
theorem value1 {s : Str} (h : s.length ≤ 1000000) : Jc8 s = some ((vlO s).getD [], if (vlO s).isSome = true then none else some (vlC s)) := by
 unfold Jc8 vlO vlC
 rw [fcontrol_eq (by omega), Option.bind_some]
 cases q : ctl s with
 | true => rfl
 | false =>
  rw [if_neg (by simp), trimM_eq (by omega), Option.bind_some]
  by_cases k : (trm s).length ≤ 2048
  ·rw [if_neg (by simp; omega), if_pos ⟨rfl, k⟩]; rfl
  ·rw [if_pos (by simp; omega), if_neg (by simp [k])]; rfl
def uff (l : List FF) : List RF := l.map fun x => ⟨x.Name, x.Value⟩
theorem uff_len (l : List FF) : (uff l).length = l.length := by simp [uff]
def HOK (k : Nat) (l : List FF) : Prop := l.length ≤ k ∧ ∀ x ∈ l, x.Name.length ≤ 64 ∧ x.Value.length ≤ 2048
def stP (nm v : Str) : List FF → Bool → List FF
 | [], _ => []
 | x :: r, d => if low x.Name = nm then (if d = true then stP nm v r d else ⟨nm, v⟩ :: stP nm v r true) else x :: stP nm v r d
def stD (nm : Str) (l : List FF) : Bool := l.any fun x => decide (low x.Name = nm)
def setF (l : List FF) (nm v : Str) : List FF := if stD nm l = true then stP nm v l false else l ++ [⟨nm, v⟩]
theorem stP_len (nm v : Str) : ∀ (l : List FF) (d : Bool), (stP nm v l d).length ≤ l.length
 | [], d => Nat.le_refl _
 | x :: r, d => by
  have h1 := stP_len nm v r d
  have h2 := stP_len nm v r true
  rw [stP]
  split
  ·split <;> simp <;> omega
  ·simp; omega
theorem stP_mem {nm v : Str} {y : FF} : ∀ {l : List FF} {d : Bool}, y ∈ stP nm v l d → y ∈ l ∨ y = ⟨nm, v⟩
 | [], d, h => by cases h
 | x :: r, d, h => by
  rw [stP] at h
  split at h
  ·split at h
   ·rcases stP_mem h with h | h
    ·exact .inl (by simp [h])
    ·exact .inr h
   ·rcases List.mem_cons.1 h with rfl | h
    ·exact .inr rfl
    ·rcases stP_mem h with h | h
     ·exact .inl (by simp [h])
     ·exact .inr h
  ·rcases List.mem_cons.1 h with rfl | h
   ·exact .inl (by simp)
   ·rcases stP_mem h with h | h
    ·exact .inl (by simp [h])
    ·exact .inr h
theorem setF_ok {k : Nat} {l : List FF} {nm v : Str} (h : HOK k l) (hn : nm.length ≤ 64) (hv : v.length ≤ 2048) : HOK (k + 1) (setF l nm v) := by
 unfold setF
 split
 ·refine ⟨?_, fun y hy => ?_⟩
  ·have := stP_len nm v l false; have := h.1; omega
  ·rcases stP_mem hy with hy | rfl
   ·exact h.2 y hy
   ·exact ⟨hn, hv⟩
 ·refine ⟨by have := h.1; simp; omega, fun y hy => ?_⟩
  rcases List.mem_append.1 hy with hy | hy
  ·exact h.2 y hy
  ·rw [List.mem_singleton] at hy; subst hy; exact ⟨hn, hv⟩
theorem set_L0 {nm v : Str} : ∀ (l : List FF) (i : Nat) (y : List FF) (d : Bool), (∀ x ∈ l, x.Name.length ≤ 1000) → y.length + l.length ≤ 1000000 → Jbi nm v l i y d = some (y ++ stP nm v l d, d || stD nm l)
 | [], i, y, d, _, _ => by simp [Jbi, stP, stD]
 | x :: l, i, y, d, h, hy => by
  have hx := h x (by simp)
  have hl := fun z hz => h z (List.mem_cons_of_mem _ hz)
  simp only [List.length_cons] at hy
  rw [Jbi, flower (by omega), Option.bind_some, stP]
  have e : stD nm (x :: l) = (decide (low x.Name = nm) || stD nm l) := rfl
  by_cases q : low x.Name = nm
  ·rw [if_neg (by simpa using q), if_pos q, e, decide_eq_true q]
   cases d with
   | true => rw [if_neg (by simp), if_pos rfl, set_L0 l (i + 1) y true hl (by omega)]; simp
   | false => rw [if_pos (by simp), if_neg (by simp), chk_bind (by simp only [lim, List.length_cons, List.length_nil]; omega), set_L0 l (i + 1) _ true hl (by simp; omega)]; simp
  ·rw [if_pos (by simpa using q), if_neg q, chk_bind (by simp only [lim, List.length_cons, List.length_nil]; omega), set_L0 l (i + 1) _ d hl (by simp; omega), e, decide_eq_false q]; simp
theorem stP_none {nm v : Str} : ∀ {l : List FF}, stD nm l = false → stP nm v l false = l
 | [], _ => rfl
 | x :: r, h => by
  have e : stD nm (x :: r) = (decide (low x.Name = nm) || stD nm r) := rfl
  rw [e] at h
  simp only [Bool.or_eq_false_iff, decide_eq_false_iff_not] at h
  rw [stP, if_neg h.1, stP_none h.2]
theorem set_eq {k : Nat} {l : List FF} {nm v : Str} (hk : k ≤ 1000) (h : HOK k l) (hn : nm.length ≤ 64) : JdZ l nm v = some (setF l (low nm) v) := by
 have h1 := h.1
 unfold JdZ setF
 rw [flower (by omega), Option.bind_some, chk_bind (by simp only [szMax]; omega), set_L0 l 0 [] false (fun x hx => by have := (h.2 x hx).1; omega) (by simp; omega), Option.bind_some]
 simp only [Bool.false_or, List.nil_append]
 cases q : stD (low nm) l with
 | true => rw [if_neg (by simp), if_pos rfl]
 | false => rw [if_pos (by simp), if_neg (by simp), stP_none q, chk_bind (by simp only [lim, List.length_cons, List.length_nil]; omega)]
def onceF (l : List Str) (s : Str) : List Str := if s ∈ l then l else l ++ [s]
theorem onceF_len (l : List Str) (s : Str) : (onceF l s).length ≤ l.length + 1 := by unfold onceF; split <;> simp
abbrev R1 := Jf
abbrev R2 := Jl
def r2 (r : R1) : R2 := ⟨r.Ae, r.Af, uff r.Ag, r.Vary, r.Ah, r.TTL, r.Ai, r.Aj, r.Ak, r.Al⟩
structure ROK (k : Nat) (r : R1) : Prop where
 h : HOK k r.Ag
 v : r.Vary.length ≤ k
 t : r.Ah.length ≤ k
theorem ROK.up {k k' : Nat} {r : R1} (h : ROK k r) (hk : k ≤ k') : ROK k' r := ⟨⟨Nat.le_trans h.h.1 hk, h.h.2⟩, Nat.le_trans h.v hk, Nat.le_trans h.t hk⟩
def needP (s : Str) : Int := if s = [112, 97, 115, 115] ∨ s = [116, 111, 107, 101, 110] ∨ Rc.hp s Rc.sVary = true then 0 else if s = [116, 116, 108] ∨ s = [100, 101, 110, 121] then 2 else 1
theorem need1 (s : Str) : (((if (decide (s = ([112, 97, 115, 115] : Str)) || decide (s = ([116, 111, 107, 101, 110] : Str))) then some true else (J1 s ([118, 97, 114, 121, 58] : Str)).bind fun x17 =>
 some x17).bind fun t902 =>
 if t902 then
 some 0
 else
 if (decide (s = ([116, 116, 108] : Str)) || decide (s = ([100, 101, 110, 121] : Str))) then
 some 2
 else
 some 1 : Option (Int))) = some (needP s) := by
 unfold needP
 rw [pfx, Option.bind_some, show ([118, 97, 114, 121, 58] : Str) = Rc.sVary from rfl]
 by_cases q1 : s = [112, 97, 115, 115] ∨ s = [116, 111, 107, 101, 110]
 ·rw [if_pos (by simpa using q1), Option.bind_some, if_pos rfl, if_pos (by rcases q1 with q | q; exact .inl q; exact .inr (.inl q))]
 ·rw [if_neg (by simpa using q1), Option.bind_some]
  by_cases q2 : Rc.hp s Rc.sVary = true
  ·rw [if_pos q2, if_pos (.inr (.inr q2))]
  ·rw [if_neg q2, if_neg (show ¬ (s = [112, 97, 115, 115] ∨ s = [116, 111, 107, 101, 110] ∨ Rc.hp s Rc.sVary = true) from fun h => h.elim (fun h => q1 (.inl h)) fun h => h.elim (fun h => q1 (.inr h)) q2)]
   by_cases q3 : s = [116, 116, 108] ∨ s = [100, 101, 110, 121]
   ·rw [if_pos (by simpa using q3), if_pos q3]
   ·rw [if_neg (by simpa using q3), if_neg q3]
theorem cut_h (r : Str) : cutM ([104, 101, 97, 100, 101, 114, 58] ++ r) [58] = if ([104, 101, 97, 100, 101, 114, 58] ++ r).length < lim32 then some ([104, 101, 97, 100, 101, 114], r, true) else none := by
 unfold cutM
 congr 1
theorem cut_v (r : Str) : cutM ([118, 97, 114, 121, 58] ++ r) [58] = if ([118, 97, 114, 121, 58] ++ r).length < lim32 then some ([118, 97, 114, 121], r, true) else none := by
 unfold cutM
 congr 1
noncomputable def nmdP (r : R1) (s : Str) (x : V1) : R1 × Err :=
 if Rc.hp s Rc.sVary = true then (match nmO (s.drop 5) with
  | none => (r, some 8)
  | some m => ({ r with Vary := onceF r.Vary m }, none))
 else match nmO (s.drop 7) with
  | none => (r, some 8)
  | some m => match vlO x.s with
   | none => (r, some (vlC x.s))
   | some v => ({ r with Ag := setF r.Ag (low m) v }, none)
theorem once1 {l : List Str} {s : Str} (h : l.length ≤ 1000) (h2 : l.length + 1 ≤ lim) {γ : Type} {f : List Str → γ} : ((JO l s).bind fun x => if (!x) = true then (chk (l.length + [s].length ≤ lim)).bind fun _ => some (f (l ++ [s])) else some (f l)) = some (f (onceF l s)) := by
 rw [Rc.cont_eq h, Option.bind_some]
 unfold onceF
 by_cases q : s ∈ l
 ·rw [if_neg (by simp [q]), if_pos q]
 ·rw [if_pos (by simp [q]), if_neg q, chk_bind (show l.length + [s].length ≤ lim from h2)]
theorem named1 {k : Nat} {r : R1} {s : Str} {x : V1} (hk : k ≤ 900) (hr : ROK k r) (hs : s.length ≤ 100000) (hx : x.s.length ≤ 100000) (hp : Rc.hp s Rc.sHeader = true ∨ Rc.hp s Rc.sVary = true) : Ja2 r s x = some ((nmdP r s x).2, (nmdP r s x).1) := by
 have hv := hr.v
 unfold Ja2 nmdP
 by_cases q : Rc.hp s Rc.sVary = true
 ·have e := Rc.hp_app q
  rw [if_pos q]
  have el : Rc.sVary.length = 5 := rfl
  rw [el] at e
  have hd : (s.drop 5).length ≤ 100000 := by rw [List.length_drop]; omega
  have hc : cutM s [58] = some ([118, 97, 114, 121], s.drop 5, true) := by
   conv => lhs; rw [e]
   rw [show Rc.sVary = [118, 97, 114, 121, 58] from rfl, cut_v, if_pos (by rw [lim32_eq]; simp only [List.length_append, List.length_cons, List.length_nil]; omega)]
  rw [hc, Option.bind_some]
  simp only
  rw [name1 (by omega), Option.bind_some]
  cases hm : nmO (s.drop 5) with
  | none => rfl
  | some m =>
   simp only [Option.isSome_some, if_true, Option.getD_some]
   rw [if_neg (by simp), if_pos (by decide)]
   exact once1 (f := fun l => ((none : Err), (⟨r.Ae, r.Af, r.Ag, l, r.Ah, r.TTL, r.Ai, r.Aj, r.Ak, r.Al⟩ : R1))) (by omega) (by simp only [lim]; omega)
 ·have hh : Rc.hp s Rc.sHeader = true := hp.resolve_right q
  have e := Rc.hp_app hh
  rw [if_neg q]
  have el : Rc.sHeader.length = 7 := rfl
  rw [el] at e
  have hd : (s.drop 7).length ≤ 100000 := by rw [List.length_drop]; omega
  have hc : cutM s [58] = some ([104, 101, 97, 100, 101, 114], s.drop 7, true) := by
   conv => lhs; rw [e]
   rw [show Rc.sHeader = [104, 101, 97, 100, 101, 114, 58] from rfl, cut_h, if_pos (by rw [lim32_eq]; simp only [List.length_append, List.length_cons, List.length_nil]; omega)]
  rw [hc, Option.bind_some]
  simp only
  rw [name1 (by omega), Option.bind_some]
  cases hm : nmO (s.drop 7) with
  | none => rfl
  | some m =>
   simp only [Option.isSome_some, if_true, Option.getD_some]
   rw [if_neg (by simp), if_neg (by simp), value1 (by omega), Option.bind_some]
   cases hvl : vlO x.s with
   | none => rfl
   | some v =>
    simp only [Option.isSome_some, if_true, Option.getD_some]
    rw [if_neg (by simp), set_eq (k := k) (by omega) hr.h (nmO_len hm)]; rfl
noncomputable def actP (r : R1) (s : Str) (x : V1) : R1 × Err :=
 if x.kind ≠ needP s then (r, some 9)
 else if s = [112, 97, 116, 104] then ({ r with Ae := x.s }, none)
 else if s = [113, 117, 101, 114, 121] then ({ r with Af := x.s }, none)
 else if s = [116, 97, 103] then ({ r with Ah := onceF r.Ah x.s }, none)
 else if s = [116, 116, 108] then ({ r with TTL := max 0 x.n }, none)
 else if s = [100, 101, 110, 121] then (if x.n < 400 ∨ x.n > 499 then ({ r with Ai := 403 }, none) else ({ r with Ai := x.n }, none))
 else if s = [112, 97, 115, 115] then ({ r with Ak := true }, none)
 else if s = [116, 111, 107, 101, 110] then ({ r with Al := true }, none)
 else nmdP r s x
theorem actK_cases {s : Str} {t : Int} (h : Rc.actK s = some t) : (s ∈ Rc.acts1 ∧ t = 1) ∨ (s ∈ Rc.acts0 ∧ t = 0) ∨ (Rc.hp s Rc.sHeader = true ∧ t = 1) ∨ (Rc.hp s Rc.sVary = true ∧ t = 0) := by
 unfold Rc.actK at h
 split at h
 ·rename_i q; cases h; exact .inl ⟨q, rfl⟩
 ·split at h
  ·rename_i q; cases h; exact .inr (.inl ⟨q, rfl⟩)
  ·split at h
   ·rename_i q
    split at h
    ·cases h; exact .inr (.inr (.inl ⟨q, rfl⟩))
    ·cases h
   ·split at h
    ·rename_i q; cases h
     rw [Bool.and_eq_true] at q
     exact .inr (.inr (.inr ⟨q.1, rfl⟩))
    ·cases h
theorem act_named {s : Str} {t : Int} (h : Rc.actK s = some t) (h1 : s ≠ [112, 97, 116, 104]) (h2 : s ≠ [113, 117, 101, 114, 121]) (h3 : s ≠ [116, 97, 103]) (h4 : s ≠ [116, 116, 108]) (h5 : s ≠ [100, 101, 110, 121]) (h6 : s ≠ [112, 97, 115, 115]) (h7 : s ≠ [116, 111, 107, 101, 110]) : Rc.hp s Rc.sHeader = true ∨ Rc.hp s Rc.sVary = true := by
 rcases actK_cases h with ⟨q, _⟩ | ⟨q, _⟩ | ⟨q, _⟩ | ⟨q, _⟩
 ·unfold Rc.acts1 at q; simp [h1, h2, h3, h4, h5] at q
 ·unfold Rc.acts0 at q; simp [h6, h7] at q
 ·exact .inl q
 ·exact .inr q
theorem act1 {k : Nat} {r : R1} {s : Str} {x : V1} {t : Int} (hk : k ≤ 900) (hr : ROK k r) (hs : s.length ≤ 100000) (hx : x.s.length ≤ 100000) (ha : Rc.actK s = some t) : JaT r s x = some ((actP r s x).2, (actP r s x).1) := by
 have ht := hr.t
 unfold JaT actP
 rw [need1, Option.bind_some]
 by_cases q0 : x.kind ≠ needP s
 ·rw [if_pos (by simpa using q0), if_pos q0]
 rw [if_neg (by simpa using q0), if_neg q0]
 by_cases q1 : s = [112, 97, 116, 104]
 ·rw [if_pos (by simpa using q1), if_pos q1]
 rw [if_neg (by simpa using q1), if_neg q1]
 by_cases q2 : s = [113, 117, 101, 114, 121]
 ·rw [if_pos (by simpa using q2), if_pos q2]
 rw [if_neg (by simpa using q2), if_neg q2]
 by_cases q3 : s = [116, 97, 103]
 ·rw [if_pos (by simpa using q3), if_pos q3]
  exact once1 (f := fun l => ((none : Err), (⟨r.Ae, r.Af, r.Ag, r.Vary, l, r.TTL, r.Ai, r.Aj, r.Ak, r.Al⟩ : R1))) (by omega) (by simp only [lim]; omega)
 rw [if_neg (by simpa using q3), if_neg q3]
 by_cases q4 : s = [116, 116, 108]
 ·rw [if_pos (by simpa using q4), if_pos q4]
 rw [if_neg (by simpa using q4), if_neg q4]
 by_cases q5 : s = [100, 101, 110, 121]
 ·rw [if_pos (by simpa using q5), if_pos q5]
  by_cases w : x.n < 400 ∨ x.n > 499
  ·rw [if_pos (by simpa using w), if_pos w]
  ·rw [if_neg (by simpa using w), if_neg w]
 rw [if_neg (by simpa using q5), if_neg q5]
 by_cases q6 : s = [112, 97, 115, 115]
 ·rw [if_pos (by simpa using q6), if_pos q6]
 rw [if_neg (by simpa using q6), if_neg q6]
 by_cases q7 : s = [116, 111, 107, 101, 110]
 ·rw [if_pos (by simpa using q7), if_pos q7]
 rw [if_neg (by simpa using q7), if_neg q7, named1 hk hr hs hx (act_named ha q1 q2 q3 q4 q5 q6 q7)]; rfl
theorem nmdP_ok {k : Nat} {r : R1} {s : Str} {x : V1} (hr : ROK k r) : ROK (k + 1) (nmdP r s x).1 ∧ (nmdP r s x).2 ≠ some 0 ∧ (nmdP r s x).1.Aj = r.Aj := by
 have hu := hr.up (Nat.le_succ k)
 unfold nmdP
 split
 ·split
  ·exact ⟨hu, by simp, rfl⟩
  ·refine ⟨⟨hu.h, ?_, hu.t⟩, by simp, rfl⟩
   have := onceF_len r.Vary ‹Str›
   have := hr.v
   show (onceF _ _).length ≤ k + 1
   omega
 ·split
  ·exact ⟨hu, by simp, rfl⟩
  ·rename_i m hm
   split
   ·exact ⟨hu, by simpa using vlC_ne x.s, rfl⟩
   ·rename_i v hv
    exact ⟨⟨setF_ok hr.h (by rw [low_len]; exact nmO_len hm) (vlO_len hv), hu.v, hu.t⟩, by simp, rfl⟩
theorem actP_ok {k : Nat} {r : R1} {s : Str} {x : V1} (hr : ROK k r) : ROK (k + 1) (actP r s x).1 ∧ (actP r s x).2 ≠ some 0 ∧ (actP r s x).1.Aj = r.Aj := by
 have hu := hr.up (Nat.le_succ k)
 unfold actP
 split
 ·exact ⟨hu, by simp, rfl⟩
 split
 ·exact ⟨⟨hu.h, hu.v, hu.t⟩, by simp, rfl⟩
 split
 ·exact ⟨⟨hu.h, hu.v, hu.t⟩, by simp, rfl⟩
 split
 ·refine ⟨⟨hu.h, hu.v, ?_⟩, by simp, rfl⟩
  have := onceF_len r.Ah x.s
  have := hr.t
  show (onceF _ _).length ≤ k + 1
  omega
 split
 ·exact ⟨⟨hu.h, hu.v, hu.t⟩, by simp, rfl⟩
 split
 ·split
  ·exact ⟨⟨hu.h, hu.v, hu.t⟩, by simp, rfl⟩
  ·exact ⟨⟨hu.h, hu.v, hu.t⟩, by simp, rfl⟩
 split
 ·exact ⟨⟨hu.h, hu.v, hu.t⟩, by simp, rfl⟩
 split
 ·exact ⟨⟨hu.h, hu.v, hu.t⟩, by simp, rfl⟩
 exact nmdP_ok hr
abbrev M1 := Je
abbrev M2 := Jz
abbrev I := Rt.Rc.I
def z0 : V1 := ⟨0, 0, [], false⟩
noncomputable def callP (nm : Str) (x : V1) (j : In1) : V1 × Bool := (JK nm x j).getD (z0, false)
noncomputable def opP (op : Str) (a b : V1) : V1 × Bool := (JR op a b).getD (z0, false)
noncomputable def preP (nm : Str) (j : In1) : V1 := (Jal nm j).getD z0
def wS (m : M1) (s : Int) : M1 := ⟨m.Ar, m.most, ⟨m.result.Ae, m.result.Af, m.result.Ag, m.result.Vary, m.result.Ah, m.result.TTL, m.result.Ai, s, m.result.Ak, m.result.Al⟩, m.stack, m.Ap⟩
structure MOK (k : Nat) (m : M1) : Prop where
 i : ∃ i, IOK i ∧ m.Ar = inp i
 r : ROK k m.result
 st : ∀ v ∈ m.stack, VOK 2048 v
 sl : ∀ v ∈ m.Ap, VOK 2048 v
 sn : m.Ap.length = 512
 tn : m.stack.length ≤ k
 s0 : 0 ≤ m.result.Aj
 s1 : m.result.Aj ≤ 40 * k
 k : k ≤ 800
theorem call_eq {m n : Nat} {nm : Str} {x : V1} {j : In1} (hi : ∃ i, IOK i ∧ j = inp i) (hm : m ≤ 20000) (hx : VOK m x) : JK nm x j = some (callP nm x j) ∧ ((callP nm x j).2 = true → VOK 40000 (callP nm x j).1) := by
 obtain ⟨i, hi, rfl⟩ := hi
 obtain ⟨v, ok, h1, _, h3⟩ := call_sim (n := 1000002) (nm := nm) (by omega) hm hi hx
 unfold callP
 rw [h1]; exact ⟨rfl, h3⟩
theorem opr_eq' {m : Nat} {op : Str} {a b : V1} (hm : m ≤ 20000) (ha : VOK m a) (hb : VOK m b) : JR op a b = some (opP op a b) ∧ ((opP op a b).2 = true → VOK 40000 (opP op a b).1) := by
 obtain ⟨v, ok, h1, _, h3⟩ := op_sim (n := 1000002) (op := op) (by omega) hm ha hb
 unfold opP
 rw [h1]; exact ⟨rfl, h3⟩
theorem pre_eq {nm : Str} {j : In1} (hi : ∃ i, IOK i ∧ j = inp i) : Jal nm j = some (preP nm j) ∧ VOK 10000 (preP nm j) := by
 obtain ⟨i, hi, rfl⟩ := hi
 obtain ⟨v, h1, _, h3⟩ := pre_sim (nm := nm) hi
 unfold preP
 rw [h1]; exact ⟨rfl, h3⟩
abbrev w2 (m : M1) (at' : Int) : M2 := ⟨m.stack.map cv2, m.Ap.map cv2, at', r2 m.result, false, 0⟩
theorem VOK.mono {a b : Nat} {v : V1} (h : VOK a v) (hab : a ≤ b) : VOK b v := ⟨Nat.le_trans h.1 hab, h.2⟩
theorem MOK.up {k k' : Nat} {m : M1} (h : MOK k m) (hk : k ≤ k') (h8 : k' ≤ 800) : MOK k' m := ⟨h.i, h.r.up hk, h.st, h.sl, h.sn, Nat.le_trans h.tn hk, h.s0, by have := h.s1; omega, h8⟩
theorem MOK.steps {k : Nat} {m : M1} (h : MOK k m) {s : Int} (h0 : 0 ≤ s) (h1 : s ≤ 40 * k) : MOK k (wS m s) := ⟨h.i, ⟨h.r.h, h.r.v, h.r.t⟩, h.st, h.sl, h.sn, h.tn, h0, h1, h.k⟩
theorem ix_get {α : Type} {c : List α} {i : Nat} (h : i < c.length) : ix c (i : Int) = some c[i] := by
 unfold ix; rw [if_pos (by omega), Int.toNat_natCast, List.getElem?_eq_getElem h]
def sumF (l : List RF) : Int := (tot l : Int) - 2 * l.length
theorem fits_L0 {i : In2} (hl : i.Ao.length ≤ szMax) (h : ∀ x ∈ i.Ao, x.Name.length ≤ szMax ∧ x.Value.length ≤ szMax) : ∀ (f j : Nat) (y : Int), j ≤ i.Ao.length → i.Ao.length - j < f →
  ∃ z, JbZ i f y (j : Int) = some (z, (i.Ao.length : Int)) ∧ (i.Ao.length ≤ 40 → 0 ≤ y → y ≤ 281474976710656 * (j + 2) → z = y + sumF (i.Ao.drop j))
 | 0, j, y, _, h => by omega
 | f + 1, j, y, hj, hf => by
  simp only [szMax] at hl h
  rw [JbZ]
  by_cases q : j < i.Ao.length
  ·have hx := h _ (List.getElem_mem q)
   have e1 : IntKind.i64.wrap ((j : Int) + 1) = ((j + 1 : Nat) : Int) := wrap_in (by simp only [InK]; omega)
   have e3 : IntKind.i64.wrap ((i.Ao[j].Name.length : Int) + (i.Ao[j].Value.length : Int)) = (i.Ao[j].Name.length : Int) + (i.Ao[j].Value.length : Int) := wrap_in (by simp only [InK]; omega)
   rw [if_pos (by simpa using q), ix_get q, Option.bind_some, Option.bind_some, e1, e3]
   obtain ⟨z, hz, h2⟩ := fits_L0 (by simpa only [szMax] using hl) (by simpa only [szMax] using h) f (j + 1) (IntKind.i64.wrap (y + ((i.Ao[j].Name.length : Int) + (i.Ao[j].Value.length : Int)))) (by omega) (by omega)
   refine ⟨z, hz, fun h3 h0 hy => ?_⟩
   have e2 : IntKind.i64.wrap (y + ((i.Ao[j].Name.length : Int) + (i.Ao[j].Value.length : Int))) = y + ((i.Ao[j].Name.length : Int) + (i.Ao[j].Value.length : Int)) := wrap_in (by simp only [InK]; omega)
   rw [e2] at h2
   have g1 := h2 h3 (by omega) (by omega)
   rw [g1, List.drop_eq_getElem_cons q]
   unfold sumF
   rw [tot_cons]
   simp only [List.length_cons]
   omega
  ·have : j = i.Ao.length := by omega
   subst this
   rw [if_neg (by simp)]
   exact ⟨y, rfl, fun _ _ _ => by simp [sumF, tot]⟩
theorem fits_eq {n : Nat} {i : In2} (hn : i.Ao.length < n) (h : Jw.ok i) : ∃ b, Jck n i = some b ∧ (b = true → IOK i) := by
 obtain ⟨o1, o2, o3, o4, o5, o6⟩ := h
 simp only [szMax] at o1 o2 o3 o4
 have w1 : IntKind.i64.wrap ((i.Am.length : Int) + (i.An.length : Int)) = (i.Am.length : Int) + (i.An.length : Int) := wrap_in (by simp only [InK]; omega)
 have w2 : IntKind.i64.wrap ((i.Am.length : Int) + (i.An.length : Int) + (i.Ae.length : Int)) = (i.Am.length : Int) + (i.An.length : Int) + (i.Ae.length : Int) := wrap_in (by simp only [InK]; omega)
 have w3 : IntKind.i64.wrap ((i.Am.length : Int) + (i.An.length : Int) + (i.Ae.length : Int) + (i.Af.length : Int)) = (i.Am.length : Int) + (i.An.length : Int) + (i.Ae.length : Int) + (i.Af.length : Int) := wrap_in (by simp only [InK]; omega)
 obtain ⟨z, hz, h2⟩ := fits_L0 o5 (fun x hx => o6 x hx) n 0 ((i.Am.length : Int) + (i.An.length : Int) + (i.Ae.length : Int) + (i.Af.length : Int)) (by omega) (by omega)
 unfold Jck
 rw [w1, w2, w3]
 rw [show ((0 : Nat) : Int) = 0 from rfl] at hz
 rw [hz, Option.bind_some]
 refine ⟨_, rfl, fun hb => ?_⟩
 simp only [Bool.and_eq_true, decide_eq_true_eq] at hb
 have g := h2 (by omega) (by omega) (by omega)
 rw [List.drop_zero] at g
 unfold sumF at g
 have := tot_len i.Ao
 exact ⟨by omega, by omega, by omega, by omega, by omega⟩
theorem input_eq {i : In2} (h : IOK i) : JaU i = some (inp i) := by
 unfold JaU
 have := tot_len i.Ao
 have := h.f
 rw [fields_eq (by omega)]; rfl
theorem are_L0 (b : List FF) : ∀ (l p : List FF), b = p ++ l → Jcg (uff b) l p.length = some (.go ())
 | [], p, h => rfl
 | x :: l, p, h => by
  have ih := are_L0 b l (p ++ [x]) (by simp [h])
  have e : ix (uff b) (p.length : Int) = some ⟨x.Name, x.Value⟩ := by
   unfold ix uff; rw [if_pos (by omega), h]; simp
  rw [show (p ++ [x]).length = p.length + 1 by simp] at ih
  rw [Jcg, e, Option.bind_some, Option.bind_some, if_neg (by simp), Option.bind_some, if_neg (by simp)]
  exact ih
theorem are_eq {l : List FF} (h : l.length ≤ 100000) : Jd5 l (uff l) = some true := by
 unfold Jd5
 rw [if_neg (by simp [uff_len]), chk_bind (by simp only [szMax]; omega), show (0 : Nat) = ([] : List FF).length from rfl, are_L0 l l [] rfl]; rfl
theorem vtexts_L0 (b : List Str) : ∀ (l p : List Str), b = p ++ l → Jb1 b l p.length = some (.go ())
 | [], p, h => rfl
 | x :: l, p, h => by
  have ih := vtexts_L0 b l (p ++ [x]) (by simp [h])
  have e : ix b (p.length : Int) = some x := by
   unfold ix; rw [if_pos (by omega), h]; simp
  rw [show (p ++ [x]).length = p.length + 1 by simp] at ih
  rw [Jb1, e, Option.bind_some, if_neg (by simp)]
  exact ih
theorem vtexts_eq {l : List Str} (h : l.length ≤ 100000) : Jc5 l l = some true := by
 unfold Jc5
 rw [if_neg (by simp), chk_bind (by simp only [szMax]; omega), show (0 : Nat) = ([] : List Str).length from rfl, vtexts_L0 l l [] rfl]; rfl
theorem is_r2 {k : Nat} {r : R1} (h : ROK k r) (hk : k ≤ 100000) : Jcu r (r2 r) = some true := by
 have h1 := h.h.1
 have h2 := h.v
 have h3 := h.t
 unfold Jcu r2
 dsimp only
 rw [are_eq (by omega), vtexts_eq (by omega), vtexts_eq (by omega)]
 simp
theorem run_mono {c : List I} {i : In1} : ∀ (f f' : Nat) (a : Int) (m : M1) (r : Fl (R1 × Err) (Int × M1)), f ≤ f' → Jbe c i f a m = some r → Jbe c i f' a m = some r
 | 0, f', a, m, r, _, h => by rw [Jbe] at h; cases h
 | f + 1, 0, a, m, r, hf, h => by omega
 | f + 1, f' + 1, a, m, r, hf, h => by
  rw [Jbe] at h ⊢
  by_cases q : decide (a ≥ 0) = true
  ·rw [if_pos q] at h ⊢
   obtain ⟨x, hx, h⟩ := Option.bind_eq_some_iff.1 h
   obtain ⟨p, hp, h⟩ := Option.bind_eq_some_iff.1 h
   rw [hx, Option.bind_some, hp, Option.bind_some]
   by_cases q2 : p.2.1.isSome = true
   ·rw [if_pos q2] at h ⊢; exact h
   ·rw [if_neg q2] at h ⊢
    exact run_mono f f' _ _ r (by omega) h
  ·rw [if_neg q] at h ⊢; exact h
theorem vRun_mono {c : List I} {i : In1} {most : Int} {f f' : Nat} {r : R1 × Err} (hf : f ≤ f') (h : Jbx f c i most = some r) : Jbx f' c i most = some r := by
 unfold Jbx at h ⊢
 obtain ⟨x, hx, h⟩ := Option.bind_eq_some_iff.1 h
 rw [hx, Option.bind_some]
 by_cases q : x.isSome = true
 ·rw [if_pos q] at h ⊢; exact h
 ·rw [if_neg q] at h ⊢
  obtain ⟨s, hs, h⟩ := Option.bind_eq_some_iff.1 h
  rw [run_mono f f' _ _ _ hf hs, Option.bind_some]; exact h
theorem awake0 : Jax 10 = some true := by decide +kernel
theorem awake_eq' {n : Nat} (hn : 10 ≤ n) : Jax n = some true := by
 have h := awake0
 unfold Jax at h ⊢
 obtain ⟨x, hx, h⟩ := Option.bind_eq_some_iff.1 h
 rw [vRun_mono hn hx, Option.bind_some]; exact h
def m0 (i : In2) (most : Int) : M1 := ⟨inp i, most, ⟨i.Ae, i.Af, [], [], [], -1, 0, 0, false, false⟩, [], List.replicate 512 z0⟩
abbrev SgV := Str → Option V1
def smE (v : V1) : V1 × Err := if v.s.length > 2048 then (z0, some 5) else (v, none)
noncomputable def evE (j : In1) (σ : SgV) : Nat → M → V1 × Err
 | 0, _ => (z0, none)
 | d + 1, x =>
  if x.Ab = 20 then (nm' (numP x.Ac), none)
  else if x.Ab = 21 then smE (tx' x.Ac)
  else if x.Ab = 22 then (tr' (decide (x.Ac = Rc.sTrue)), none)
  else if x.Ab = 23 then (match σ x.Ac with | some v => (v, none) | none => smE (preP x.Ac j))
  else match x.Aa with
   | [k] => if (evE j σ d k).2.isSome = true then (z0, (evE j σ d k).2) else if x.Ab = 24 then smE (callP x.Ac (evE j σ d k).1 j).1 else (tr' (!(evE j σ d k).1.At), none)
   | [k, l] => if (evE j σ d k).2.isSome = true then (z0, (evE j σ d k).2)
    else if x.Ab = 14 then (if (evE j σ d k).1.At = true then evE j σ d l else ((evE j σ d k).1, none))
    else if x.Ab = 13 then (if (evE j σ d k).1.At = true then ((evE j σ d k).1, none) else evE j σ d l)
    else if (evE j σ d l).2.isSome = true then (z0, (evE j σ d l).2) else smE (opP (Rc.opw x) (evE j σ d k).1 (evE j σ d l).1).1
   | _ => (z0, none)
structure TyV (ρ : Env) (σ : SgV) : Prop where
 some_ : ∀ s v, σ s = some v → v.kind = ρ s ∧ VOK 2048 v
 none_ : ∀ s, σ s = none → ρ s = base s
theorem smE_ok {v : V1} {t : Int} (hv : VOK 40000 v) (ht : v.kind = t) : ((smE v).2 = none → (smE v).1.kind = t ∧ VOK 2048 (smE v).1) ∧ ((smE v).2 = none ∨ (smE v).2 = some 5) := by
 unfold smE
 split
 ·exact ⟨(fun h => by cases h), .inr rfl⟩
 ·rename_i q
  exact ⟨fun _ => ⟨ht, (by show v.s.length ≤ 2048; omega), hv.2⟩, .inl rfl⟩
theorem pre_kind (s : Str) (j : In1) : (preP s j).kind = 1 := by
 unfold preP Jal
 by_cases q1 : s = [109, 101, 116, 104, 111, 100]
 ·subst q1; rfl
 by_cases q2 : s = [104, 111, 115, 116]
 ·subst q2; rfl
 by_cases q3 : s = [112, 97, 116, 104]
 ·subst q3; rfl
 rw [if_neg (by simpa using q1), if_neg (by simpa using q2), if_neg (by simpa using q3)]; rfl
theorem call_typed {s : Str} {a : V1} {j : In1} (hj : ∃ i, IOK i ∧ j = inp i) (ha : VOK 2048 a) (h : (fnc s).2 ≠ 0) (hk : a.kind = (fnc s).1) : (callP s a j).2 = true ∧ (callP s a j).1.kind = (fnc s).2 := by
 obtain ⟨i, hi, rfl⟩ := hj
 obtain ⟨ha0, ha1, ha2⟩ := ha
 have hip := hi.p
 have hiq := hi.q
 have hif := hi.f
 have hsg := segs_len i.Ae
 have hft : tot i.Ao ≤ 1000000 := by omega
 have hsl : a.s.length ≤ 1000000 := by omega
 unfold callP
 by_cases q1 : s = [104, 101, 97, 100, 101, 114]
 ·subst q1
  have hk1 : a.kind = 1 := hk
  have e : JK [104, 101, 97, 100, 101, 114] a (inp i) = some (tx' (getP i.Ao a.s), true) := by
   unfold JK
   rw [if_neg (by decide), if_neg (by simpa using hk1), if_pos (by decide), show (inp i).Ao = ffs i.Ao from rfl, get_eq hft hsl]; rfl
  rw [e]; exact ⟨rfl, rfl⟩
 by_cases q2 : s = [97, 114, 103]
 ·subst q2
  have hk1 : a.kind = 1 := hk
  obtain ⟨b1, h1⟩ := arg_eq (q := i.Af) (nm := a.s) (by omega) hsl
  have e : JK [97, 114, 103] a (inp i) = some (tx' (argP i.Af a.s), true) := by
   unfold JK
   rw [if_neg (by decide), if_neg (by simpa using hk1), if_neg (by decide), if_neg (by decide), if_pos (by decide), show (inp i).Af = i.Af from rfl, h1]; rfl
  rw [e]; exact ⟨rfl, rfl⟩
 by_cases q3 : s = [108, 111, 119, 101, 114]
 ·subst q3
  have hk1 : a.kind = 1 := hk
  have e : JK [108, 111, 119, 101, 114] a (inp i) = some (tx' (low a.s), true) := by
   unfold JK
   rw [if_neg (by decide), if_neg (by simpa using hk1), if_neg (by decide), if_neg (by decide), if_neg (by decide), if_neg (by decide), if_pos (by decide), vlower (by omega)]; rfl
  rw [e]; exact ⟨rfl, rfl⟩
 by_cases q4 : s = [104, 97, 115]
 ·subst q4
  have hk1 : a.kind = 1 := hk
  have e : JK [104, 97, 115] a (inp i) = some (tr' (decide (((vals i.Ao a.s).length : Int) > 0)), true) := by
   unfold JK
   rw [if_neg (by decide), if_neg (by simpa using hk1), if_neg (by decide), if_pos (by decide), show (inp i).Ao = ffs i.Ao from rfl, get_eq hft hsl]; rfl
  rw [e]; exact ⟨rfl, rfl⟩
 by_cases q5 : s = [108, 101, 110]
 ·subst q5
  have hk1 : a.kind = 1 := hk
  have e : JK [108, 101, 110] a (inp i) = some (nm' (a.s.length : Int), true) := by
   unfold JK
   rw [if_neg (by decide), if_neg (by simpa using hk1), if_neg (by decide), if_neg (by decide), if_neg (by decide), if_pos (by decide)]; rfl
  rw [e]; exact ⟨rfl, rfl⟩
 by_cases q6 : s = [110, 117, 109, 98, 101, 114]
 ·subst q6
  have hk1 : a.kind = 1 := hk
  have e : JK [110, 117, 109, 98, 101, 114] a (inp i) = some (nm' (numP a.s), true) := by
   unfold JK
   rw [if_neg (by decide), if_neg (by simpa using hk1), if_neg (by decide), if_neg (by decide), if_neg (by decide), if_neg (by decide), if_neg (by decide), vnum1]; rfl
  rw [e]; exact ⟨rfl, rfl⟩
 by_cases q7 : s = [112, 97, 114, 116]
 ·subst q7
  have hk1 : a.kind = 2 := hk
  have e : ∃ z, JK [112, 97, 114, 116] a (inp i) = some (tx' z, true) := by
   unfold JK
   rw [if_pos (by decide), if_neg (by simpa using hk1), if_neg (show ¬ decide (([112, 97, 114, 116] : Str) = [116, 101, 120, 116]) = true by decide), show (inp i).Ae = i.Ae from rfl, segs_eq (by omega), Option.bind_some]
   by_cases r : 0 ≤ a.n ∧ a.n < (segs i.Ae).length
   ·obtain ⟨z, hz⟩ := ix_ok r.1 r.2
    rw [if_neg (by simp; omega), hz]; exact ⟨_, rfl⟩
   ·rw [if_pos (by simp; omega)]; exact ⟨_, rfl⟩
  obtain ⟨z, e⟩ := e
  rw [e]; exact ⟨rfl, rfl⟩
 by_cases q8 : s = [116, 101, 120, 116]
 ·subst q8
  have hk1 : a.kind = 2 := hk
  have e : JK [116, 101, 120, 116] a (inp i) = some (tx' (Go.Lib.itoa a.n), true) := by
   unfold JK
   rw [if_pos (by decide), if_neg (by simpa using hk1), if_pos (show decide (([116, 101, 120, 116] : Str) = [116, 101, 120, 116]) = true by decide), itoaM_eq ha1 ha2]; rfl
  rw [e]; exact ⟨rfl, rfl⟩
 refine absurd ?_ h
 unfold fnc J2
 rw [if_neg (by simpa using q1), if_neg (by simpa using q2), if_neg (by simpa using q3), if_neg (by simpa using q4), if_neg (by simpa using q5), if_neg (by simpa using q6), if_neg (by simpa using q7), if_neg (by simpa using q8)]; rfl
theorem op1_two (t a b : Int) : Jv t [a, b] = some (decide (a = t) && decide (b = t)) := by
 unfold Jv
 rw [chk_bind (by simp [szMax]), JJ]
 by_cases q : a = t
 ·rw [if_neg (by simpa using q), JJ]
  by_cases q2 : b = t
  ·rw [if_neg (by simpa using q2)]; simp [q, q2, JJ, Rt.el_go]
  ·rw [if_pos (by simpa using q2)]; simp [q, q2, Rt.el_ret]
 ·rw [if_pos (by simpa using q)]; simp [q, Rt.el_ret]
theorem opr_two {x : M} {a b t : Int} (h : opr x [a, b] = t) (ht : t ≠ 0) (hk : x.Ab = 17 ∨ x.Ab = 18 ∨ x.Ab = 19 ∨ (x.Ab = 16 ∧ cmp x.Ac = true)) :
  (Rc.opw x = [43] ∧ a = b ∧ t = a ∧ (a = 1 ∨ a = 2)) ∨ ((Rc.opw x = [45] ∨ Rc.opw x = [42]) ∧ a = 2 ∧ b = 2 ∧ t = 2) ∨ ((Rc.opw x = [61, 61] ∨ Rc.opw x = [33, 61]) ∧ a = b ∧ t = 3) ∨
  ((Rc.opw x = [60] ∨ Rc.opw x = [60, 61]) ∧ a = 2 ∧ b = 2 ∧ t = 3) ∨ ((Rc.opw x = [115, 116, 97, 114, 116, 115] ∨ Rc.opw x = [101, 110, 100, 115] ∨ Rc.opw x = [99, 111, 110, 116, 97, 105, 110, 115]) ∧ a = 1 ∧ b = 1 ∧ t = 3) := by
 unfold opr JL at h
 unfold Rc.opw
 simp only [op1_two, Option.bind_some] at h
 rcases hk with q | q | q | ⟨q, qc⟩
 ·left
  simp only [q, decide_true, if_true] at h
  rw [if_pos q]
  by_cases w : a = 1 ∧ b = 1
  ·rw [if_pos (by simp [w])] at h
   refine ⟨rfl, by omega, ?_, .inl w.1⟩
   simp at h; omega
  ·rw [if_neg (by simpa using w)] at h
   by_cases w2 : a = 2 ∧ b = 2
   ·rw [if_pos (by simp [w2])] at h
    refine ⟨rfl, by omega, ?_, .inr w2.1⟩
    simp at h; omega
   ·rw [if_neg (by simpa using w2)] at h
    exact absurd (by simpa using h.symm) ht
 ·right; left
  rw [if_neg (by simp [q]), if_pos (by simp [q])] at h
  rw [if_neg (by omega), if_pos q]
  by_cases w2 : a = 2 ∧ b = 2
  ·rw [if_pos (by simp [w2])] at h
   refine ⟨.inl rfl, w2.1, w2.2, ?_⟩
   simp at h; omega
  ·rw [if_neg (by simpa using w2)] at h
   exact absurd (by simpa using h.symm) ht
 ·right; left
  rw [if_neg (by simp [q]), if_neg (by simp [q]), if_pos (by simp [q])] at h
  rw [if_neg (by omega), if_neg (by omega), if_pos q]
  by_cases w2 : a = 2 ∧ b = 2
  ·rw [if_pos (by simp [w2])] at h
   refine ⟨.inr rfl, w2.1, w2.2, ?_⟩
   simp at h; omega
  ·rw [if_neg (by simpa using w2)] at h
   exact absurd (by simpa using h.symm) ht
 ·right; right
  rw [if_neg (by simp [q]), if_neg (by simp [q]), if_neg (by simp [q]), if_neg (by simp [q]), if_neg (by simp [q]), if_neg (by simp [q]), if_pos (by simp [q])] at h
  rw [if_neg (by omega), if_neg (by omega), if_neg (by omega)]
  have eqc : ∀ {o : Option Int}, ((if decide (a = b) = true then some 3 else some 0 : Option Int).getD 0) = t → a = b ∧ t = 3 := fun {o} h => by
   by_cases w : a = b
   ·rw [if_pos (by simpa using w)] at h; simp at h; exact ⟨w, h.symm⟩
   ·rw [if_neg (by simpa using w)] at h; exact absurd (by simpa using h.symm) ht
  have two : ∀ {k : Int}, ((if (decide (a = k) && decide (b = k)) = true then some 3 else some 0 : Option Int).getD 0) = t → a = k ∧ b = k ∧ t = 3 := fun {k} h => by
   by_cases w : a = k ∧ b = k
   ·rw [if_pos (by simp [w])] at h; simp at h; exact ⟨w.1, w.2, h.symm⟩
   ·rw [if_neg (by simpa using w)] at h; exact absurd (by simpa using h.symm) ht
  by_cases w1 : x.Ac = [61, 61]
  ·rw [if_pos (by simpa using w1)] at h
   exact .inl ⟨.inl w1, eqc (o := none) h⟩
  rw [if_neg (by simpa using w1)] at h
  by_cases w2 : x.Ac = [33, 61]
  ·rw [if_pos (by simpa using w2)] at h
   exact .inl ⟨.inr w2, eqc (o := none) h⟩
  rw [if_neg (by simpa using w2)] at h
  by_cases w3 : x.Ac = [60]
  ·rw [if_pos (by simpa using w3)] at h
   exact .inr (.inl ⟨.inl w3, two h⟩)
  rw [if_neg (by simpa using w3)] at h
  by_cases w4 : x.Ac = [60, 61]
  ·rw [if_pos (by simpa using w4)] at h
   exact .inr (.inl ⟨.inr w4, two h⟩)
  rw [if_neg (by simpa using w4)] at h
  refine .inr (.inr ⟨?_, two h⟩)
  unfold cmp at qc
  simp [w1, w2, w3, w4] at qc
  exact qc
theorem op_typed {x : M} {a b : V1} {t : Int} (ha : VOK 2048 a) (hb : VOK 2048 b) (h : opr x [a.kind, b.kind] = t) (ht : t ≠ 0) (hk : x.Ab = 17 ∨ x.Ab = 18 ∨ x.Ab = 19 ∨ (x.Ab = 16 ∧ cmp x.Ac = true)) :
  (opP (Rc.opw x) a b).2 = true ∧ (opP (Rc.opw x) a b).1.kind = t := by
 obtain ⟨ha0, ha1, ha2⟩ := ha
 obtain ⟨hb0, hb1, hb2⟩ := hb
 unfold opP JR
 rcases opr_two h ht hk with ⟨e, e1, e2, e3⟩ | ⟨e, e1, e2, e3⟩ | ⟨e, e1, e2⟩ | ⟨e, e1, e2, e3⟩ | ⟨e, e1, e2, e3⟩
 ·rw [e, if_neg (by simpa using e1), if_pos (by decide)]
  rcases e3 with q | q
  ·rw [if_pos (by simpa using q), chk_bind (by simp only [lim]; omega)]; exact ⟨rfl, by rw [e2, q]; rfl⟩
  ·rw [if_neg (by rw [q]; decide), chk_bind (by constructor <;> omega)]; exact ⟨by simp [q, num1], by rw [e2, q]; rfl⟩
 ·rcases e with e | e
  ·rw [e, if_neg (by rw [e1, e2]; decide), if_neg (by decide), if_pos (by decide), chk_bind (by constructor <;> omega)]; exact ⟨by simp [e1, num1], by rw [e3]; rfl⟩
  ·rw [e, if_neg (by rw [e1, e2]; decide), if_neg (by decide), if_neg (by decide), if_pos (by decide), if_neg (by rw [e1]; decide), prod_eq ha1 ha2 hb1 hb2]; exact ⟨rfl, by rw [e3]; rfl⟩
 ·rcases e with e | e
  ·rw [e, if_neg (by simpa using e1), if_neg (by decide), if_neg (by decide), if_neg (by decide), if_pos (by decide)]; exact ⟨rfl, by rw [e2]; rfl⟩
  ·rw [e, if_neg (by simpa using e1), if_neg (by decide), if_neg (by decide), if_neg (by decide), if_neg (by decide), if_pos (by decide)]; exact ⟨rfl, by rw [e2]; rfl⟩
 ·rcases e with e | e
  ·rw [e, if_neg (by rw [e1, e2]; decide), if_neg (by decide), if_neg (by decide), if_neg (by decide), if_neg (by decide), if_neg (by decide), if_pos (by decide)]; exact ⟨by simp [e1, truth1], by rw [e3]; rfl⟩
  ·rw [e, if_neg (by rw [e1, e2]; decide), if_neg (by decide), if_neg (by decide), if_neg (by decide), if_neg (by decide), if_neg (by decide), if_neg (by decide), if_pos (by decide)]; exact ⟨by simp [e1, truth1], by rw [e3]; rfl⟩
 ·rcases e with e | e | e
  ·rw [e, if_neg (by rw [e1, e2]; decide), if_neg (by decide), if_neg (by decide), if_neg (by decide), if_neg (by decide), if_neg (by decide), if_neg (by decide), if_neg (by decide), if_pos (by decide), pfx]; exact ⟨by simp [e1, truth1], by rw [e3]; rfl⟩
  ·rw [e, if_neg (by rw [e1, e2]; decide), if_neg (by decide), if_neg (by decide), if_neg (by decide), if_neg (by decide), if_neg (by decide), if_neg (by decide), if_neg (by decide), if_neg (by decide), if_pos (by decide), sfx (by omega) (by omega)]; exact ⟨by simp [e1, truth1], by rw [e3]; rfl⟩
  ·rw [e, if_neg (by rw [e1, e2]; decide), if_neg (by decide), if_neg (by decide), if_neg (by decide), if_neg (by decide), if_neg (by decide), if_neg (by decide), if_neg (by decide), if_neg (by decide), if_neg (by decide), containsM_eq (by omega)]; exact ⟨by simp [e1, truth1], by rw [e3]; rfl⟩
theorem tyE_kid1 {d : Nat} {ρ : Env} {x k : M} {t : Int} (hk : x.Aa = [k]) (h : tyE (d + 1) ρ x = .ok t) : ∃ t1, tyE d ρ k = .ok t1 ∧ tyN ρ x [t1] = .ok t := by
 obtain ⟨ts, h1, h2⟩ := tyE_inv h
 rw [hk, kidsE] at h1
 cases q : tyE d ρ k with
 | error e => rw [q] at h1; cases h1
 | ok t1 => rw [q] at h1; simp only [kidsE] at h1; cases h1; exact ⟨t1, rfl, h2⟩
theorem tyE_kid2 {d : Nat} {ρ : Env} {x k l : M} {t : Int} (hk : x.Aa = [k, l]) (h : tyE (d + 1) ρ x = .ok t) : ∃ t1 t2, tyE d ρ k = .ok t1 ∧ tyE d ρ l = .ok t2 ∧ tyN ρ x [t1, t2] = .ok t := by
 obtain ⟨ts, h1, h2⟩ := tyE_inv h
 rw [hk, kidsE] at h1
 cases q : tyE d ρ k with
 | error e => rw [q] at h1; cases h1
 | ok t1 =>
  rw [q] at h1
  simp only [kidsE] at h1
  cases q2 : tyE d ρ l with
  | error e => rw [q2] at h1; cases h1
  | ok t2 => rw [q2] at h1; simp only at h1; cases h1; exact ⟨t1, t2, rfl, rfl, h2⟩
theorem evE_ok {j : In1} {ρ : Env} {σ : SgV} (hj : ∃ i, IOK i ∧ j = inp i) (hT : TyV ρ σ) : ∀ (d : Nat) (x : M) (t : Int), Rc.XE ρ d x → tyE d ρ x = .ok t → ((evE j σ d x).2 = none → (evE j σ d x).1.kind = t ∧ VOK 2048 (evE j σ d x).1) ∧ ((evE j σ d x).2 = none ∨ (evE j σ d x).2 = some 5)
 | 0, x, t, hx, _ => hx.elim
 | d + 1, x, t, hx, ht => by
  obtain ⟨htl, hx⟩ := hx
  obtain ⟨ts, hts, htn⟩ := tyE_inv ht
  have hv := tyN_inv htn
  rw [evE]
  rcases hx with ⟨hk, _, hkk⟩ | ⟨hk, _, hkk⟩ | ⟨hk, hkk⟩ | ⟨hk, hρ, hkk⟩ | ⟨hk, k, hkk, hxk⟩ | ⟨hk, k, l, hkk, hxk, hxl⟩
  ·rw [if_pos hk]
   exact ⟨fun _ => ⟨(hv.1 hk).symm, nm_ok _ _⟩, .inl rfl⟩
  ·rw [if_neg (by omega), if_pos hk]
   exact smE_ok (tx_ok (by omega)) (hv.2.1 hk).symm
  ·rw [if_neg (by omega), if_neg (by omega), if_pos hk]
   exact ⟨fun _ => ⟨(hv.2.2.1 hk).symm, tr_ok _ _⟩, .inl rfl⟩
  ·rw [if_neg (by omega), if_neg (by omega), if_neg (by omega), if_pos hk]
   have e := hv.2.2.2.1 hk
   cases q : σ x.Ac with
   | some v =>
    obtain ⟨a1, a2⟩ := hT.some_ _ _ q
    exact ⟨fun _ => ⟨by rw [e]; exact a1, a2⟩, .inl rfl⟩
   | none =>
    have a1 := hT.none_ _ q
    obtain ⟨p1, p2⟩ := pre_eq (nm := x.Ac) hj
    refine smE_ok (p2.mono (by omega)) ?_
    rw [pre_kind, e, a1]
    rw [a1] at hρ
    unfold base at hρ ⊢
    split at hρ
    ·rename_i w; rw [if_pos w]
    ·exact absurd rfl hρ
  ·obtain ⟨t1, ht1, hn1⟩ := tyE_kid1 hkk ht
   obtain ⟨ih1, ih2⟩ := evE_ok hj hT d k t1 hxk ht1
   rw [if_neg (by omega), if_neg (by omega), if_neg (by omega), if_neg (by omega), hkk]
   simp only
   rcases ih2 with q | q
   ·rw [if_neg (by rw [q]; simp)]
    obtain ⟨g1, g2⟩ := ih1 q
    rcases hk with ⟨hk, hf⟩ | hk
    ·rw [if_pos hk]
     unfold tyN at hn1
     rw [if_neg (by omega), if_neg (by omega), if_neg (by omega), if_neg (by omega), if_pos hk, if_neg hf] at hn1
     by_cases w : [t1] = [(fnc x.Ac).1]
     ·rw [if_pos w] at hn1
      cases hn1
      have w1 : t1 = (fnc x.Ac).1 := by simpa using w
      obtain ⟨c1, c2⟩ := call_typed hj g2 hf (by rw [g1, w1])
      obtain ⟨c3, c4⟩ := call_eq (n := 0) (nm := x.Ac) hj (by omega) g2
      exact smE_ok (c4 c1) c2
     ·rw [if_neg w] at hn1; cases hn1
    ·rw [if_neg (by omega)]
     unfold tyN at hn1
     rw [if_neg (by omega), if_neg (by omega), if_neg (by omega), if_neg (by omega), if_neg (by omega)] at hn1
     by_cases w : opr x [t1] = 0
     ·rw [if_pos w] at hn1; cases hn1
     ·rw [if_neg w] at hn1
      cases hn1
      have e15 : opr x [t1] = 3 := by
       unfold opr JL at w ⊢
       rw [if_neg (by simp [hk]), if_neg (by simp [hk]), if_neg (by simp [hk]), if_neg (by simp [hk]), if_neg (by simp [hk]), if_pos (by simp [hk])] at w ⊢
       unfold Jv at w ⊢
       rw [chk_bind (by simp [szMax]), JJ] at w ⊢
       by_cases w3 : t1 = 3
       ·rw [if_neg (by simpa using w3)]; rfl
       ·rw [if_pos (by simpa using w3)] at w; exact absurd rfl w
      exact ⟨fun _ => ⟨by rw [e15]; rfl, tr_ok _ _⟩, .inl rfl⟩
   ·rw [if_pos (by rw [q]; rfl)]
    exact ⟨(fun h => by rw [q] at h; cases h), .inr q⟩
  ·obtain ⟨t1, t2, ht1, ht2, hn1⟩ := tyE_kid2 hkk ht
   obtain ⟨ih1, ih2⟩ := evE_ok hj hT d k t1 hxk ht1
   obtain ⟨ih3, ih4⟩ := evE_ok hj hT d l t2 hxl ht2
   rw [if_neg (by omega), if_neg (by omega), if_neg (by omega), if_neg (by omega), hkk]
   simp only
   unfold tyN at hn1
   rw [if_neg (by omega), if_neg (by omega), if_neg (by omega), if_neg (by omega), if_neg (by omega)] at hn1
   rcases ih2 with q | q
   ·rw [if_neg (by rw [q]; simp)]
    obtain ⟨g1, g2⟩ := ih1 q
    by_cases w : opr x [t1, t2] = 0
    ·rw [if_pos w] at hn1; cases hn1
    ·rw [if_neg w] at hn1
     cases hn1
     have lg : (x.Ab = 13 ∨ x.Ab = 14) → t1 = 3 ∧ t2 = 3 ∧ opr x [t1, t2] = 3 := fun hk => by
      unfold opr JL at w ⊢
      rw [if_neg (by rcases hk with q | q <;> simp [q]), if_neg (by rcases hk with q | q <;> simp [q]), if_neg (by rcases hk with q | q <;> simp [q])] at w ⊢
      have e : (if decide (x.Ab = 13) = true then (Jv 3 [t1, t2]).bind fun x25 => if x25 = true then some 3 else some 0
       else if decide (x.Ab = 14) = true then (Jv 3 [t1, t2]).bind fun x25 => if x25 = true then some 3 else some 0 else none) = if (decide (t1 = 3) && decide (t2 = 3)) = true then some (3 : Int) else some 0 := by
       rw [op1_two]
       rcases hk with q | q <;> simp [q]
      have e2 : ∀ {o : Option Int}, (if decide (x.Ab = 13) = true then (Jv 3 [t1, t2]).bind fun x25 => if x25 = true then some 3 else some 0
       else if decide (x.Ab = 14) = true then (Jv 3 [t1, t2]).bind fun x25 => if x25 = true then some 3 else some 0 else o) = if (decide (t1 = 3) && decide (t2 = 3)) = true then some (3 : Int) else some 0 := by
       intro o
       rw [← e]
       rcases hk with q | q <;> simp [q]
      rw [e2] at w ⊢
      by_cases w3 : t1 = 3 ∧ t2 = 3
      ·rw [if_pos (by simp [w3])]; exact ⟨w3.1, w3.2, rfl⟩
      ·rw [if_neg (by simpa using w3)] at w; exact absurd rfl w
     by_cases k14 : x.Ab = 14
     ·obtain ⟨l1, l2, l3⟩ := lg (.inr k14)
      rw [if_pos k14, l3]
      split
      ·rw [← l2]; exact ⟨ih3, ih4⟩
      ·exact ⟨fun _ => ⟨by rw [g1, l1], g2⟩, .inl rfl⟩
     ·rw [if_neg k14]
      by_cases k13 : x.Ab = 13
      ·obtain ⟨l1, l2, l3⟩ := lg (.inl k13)
       rw [if_pos k13, l3]
       split
       ·exact ⟨fun _ => ⟨by rw [g1, l1], g2⟩, .inl rfl⟩
       ·rw [← l2]; exact ⟨ih3, ih4⟩
      ·rw [if_neg k13]
       rcases ih4 with q4 | q4
       ·rw [if_neg (by rw [q4]; simp)]
        obtain ⟨g3, g4⟩ := ih3 q4
        have hk' : x.Ab = 17 ∨ x.Ab = 18 ∨ x.Ab = 19 ∨ (x.Ab = 16 ∧ cmp x.Ac = true) := by
         rcases hk with q | q | q | q | q | q
         ·exact absurd q k13
         ·exact absurd q k14
         ·exact .inl q
         ·exact .inr (.inl q)
         ·exact .inr (.inr (.inl q))
         ·exact .inr (.inr (.inr q))
        obtain ⟨c1, c2⟩ := op_typed g2 g4 (t := opr x [t1, t2]) (by rw [g1, g3]) w hk'
        obtain ⟨c3, c4⟩ := opr_eq' (op := Rc.opw x) (by omega) g2 g4
        exact smE_ok (c4 c1) c2
       ·rw [if_pos (by rw [q4]; rfl)]
        exact ⟨(fun h => by rw [q4] at h; cases h), .inr q4⟩
   ·rw [if_pos (by rw [q]; rfl)]
    exact ⟨(fun h => by rw [q] at h; cases h), .inr q⟩
abbrev B1 := JC
abbrev B2 := JaC
def sgV (env : List B1) : SgV := fun s => (env.reverse.find? (fun b => decide (b.name = s))).map (·.value)
theorem sgV_nil : sgV [] = fun _ => none := rfl
theorem sgV_snoc (env : List B1) (s : Str) (v : V1) : sgV (env ++ [⟨s, v⟩]) = fun q => if s = q then some v else sgV env q := by
 funext q
 unfold sgV
 rw [List.reverse_append]
 simp only [List.reverse_cons, List.reverse_nil, List.nil_append, List.singleton_append, List.find?_cons]
 by_cases w : s = q
 ·simp [w]
 ·simp [w]
theorem look1 {env : List B1} {x : M} (hl : env.length ≤ 1000000) : ∀ (k m : Nat), k ≤ env.length → k < m → Jae env x m ((k : Int) - 1) = some (match (env.take k).reverse.find? (fun b => decide (b.name = x.Ac)) with
  | some b => .ret (b.value, none)
  | none => .go (-1))
 | k, 0, _, h => by omega
 | 0, m + 1, _, _ => by rw [Jae, if_neg (by simp)]; rfl
 | k + 1, m + 1, hk, hm => by
  have hlt : k < env.length := by omega
  have e : ((k + 1 : Nat) : Int) - 1 = (k : Int) := by omega
  rw [Jae, e, if_pos (by simp), ix_get hlt, Option.bind_some, List.take_add_one, List.getElem?_eq_getElem hlt]
  simp only [Option.toList_some, List.reverse_append, List.reverse_cons, List.reverse_nil, List.nil_append, List.singleton_append, List.find?_cons]
  by_cases w : env[k].name = x.Ac
  ·rw [if_pos (by simpa using w), Option.bind_some, decide_eq_true w]
  ·rw [if_neg (by simpa using w), decide_eq_false w, chk_bind (by constructor <;> omega)]
   exact look1 hl k m (by omega) (by omega)
theorem small1 (v : V1) : JbT v = some (smE v) := by
 unfold JbT smE
 by_cases q : v.s.length > 2048
 ·rw [if_pos (by simp; omega), if_pos q]; rfl
 ·rw [if_neg (by simp; omega), if_neg q]
theorem opw_choose {x : M} {T : Type} {A B : Option (Fl T Str)} (n13 : x.Ab ≠ 13) (n14 : x.Ab ≠ 14) (n15 : x.Ab ≠ 15) (n24 : x.Ab ≠ 24) {C D : Option (Fl T Str)} :
  (if decide (x.Ab = 24) = true then A else if decide (x.Ab = 15) = true then B else if decide (x.Ab = 14) = true then C else if decide (x.Ab = 13) = true then D else
   if decide (x.Ab = 17) = true then some (Fl.go ([43] : Str)) else if decide (x.Ab = 18) = true then some (Fl.go ([45] : Str)) else if decide (x.Ab = 19) = true then some (Fl.go ([42] : Str)) else some (Fl.go x.Ac)) = some (Fl.go (Rc.opw x)) := by
 rw [if_neg (by simpa using n24), if_neg (by simpa using n15), if_neg (by simpa using n14), if_neg (by simpa using n13)]
 unfold Rc.opw
 by_cases q17 : x.Ab = 17
 ·rw [if_pos (by simpa using q17), if_pos q17]
 rw [if_neg (by simpa using q17), if_neg q17]
 by_cases q18 : x.Ab = 18
 ·rw [if_pos (by simpa using q18), if_pos q18]
 rw [if_neg (by simpa using q18), if_neg q18]
 by_cases q19 : x.Ab = 19
 ·rw [if_pos (by simpa using q19), if_pos q19]
 ·rw [if_neg (by simpa using q19), if_neg q19]
theorem evE_1 {j : In1} {σ : SgV} {d : Nat} {x k : M} (h20 : x.Ab ≠ 20) (h21 : x.Ab ≠ 21) (h22 : x.Ab ≠ 22) (h23 : x.Ab ≠ 23) (hkk : x.Aa = [k]) :
  evE j σ (d + 1) x = if (evE j σ d k).2.isSome = true then (z0, (evE j σ d k).2) else if x.Ab = 24 then smE (callP x.Ac (evE j σ d k).1 j).1 else (tr' (!(evE j σ d k).1.At), none) := by
 rw [evE, if_neg h20, if_neg h21, if_neg h22, if_neg h23, hkk]
theorem evE_2 {j : In1} {σ : SgV} {d : Nat} {x k l : M} (h20 : x.Ab ≠ 20) (h21 : x.Ab ≠ 21) (h22 : x.Ab ≠ 22) (h23 : x.Ab ≠ 23) (hkk : x.Aa = [k, l]) :
  evE j σ (d + 1) x = if (evE j σ d k).2.isSome = true then (z0, (evE j σ d k).2)
    else if x.Ab = 14 then (if (evE j σ d k).1.At = true then evE j σ d l else ((evE j σ d k).1, none))
    else if x.Ab = 13 then (if (evE j σ d k).1.At = true then ((evE j σ d k).1, none) else evE j σ d l)
    else if (evE j σ d l).2.isSome = true then (z0, (evE j σ d l).2) else smE (opP (Rc.opw x) (evE j σ d k).1 (evE j σ d l).1).1 := by
 rw [evE, if_neg h20, if_neg h21, if_neg h22, if_neg h23, hkk]
theorem wexpr {w : Jn} {ρ : Env} {env : List B1} (hj : ∃ i, IOK i ∧ w.Ar = inp i) (hT : TyV ρ (sgV env)) (hl : env.length ≤ 100000) : ∀ (d n : Nat) (x : M) (t : Int), Rc.XE ρ d x → tyE d ρ x = .ok t → d + 200000 ≤ n →
  J3 n w x env = some (evE w.Ar (sgV env) d x)
 | 0, n, x, t, hx, _, _ => hx.elim
 | d + 1, 0, x, t, hx, ht, hn => by omega
 | d + 1, n + 1, x, t, hx, ht, hn => by
  obtain ⟨htl, hx⟩ := hx
  rw [J3]
  rcases hx with ⟨hk, _, hkk⟩ | ⟨hk, _, hkk⟩ | ⟨hk, hkk⟩ | ⟨hk, hρ, hkk⟩ | ⟨hk, k, hkk, hxk⟩ | ⟨hk, k, l, hkk, hxk, hxl⟩
  ·rw [if_pos (by simpa using hk), evE, if_pos hk, vnum1]; rfl
  ·rw [if_neg (by simp [hk]), if_pos (by simpa using hk), evE, if_neg (by omega), if_pos hk, text1, Option.bind_some, small1]; rfl
  ·rw [if_neg (by simp [hk]), if_neg (by simp [hk]), if_pos (by simpa using hk), evE, if_neg (by omega), if_neg (by omega), if_pos hk]; rfl
  ·rw [if_neg (by simp [hk]), if_neg (by simp [hk]), if_neg (by simp [hk]), if_pos (by simpa using hk), evE, if_neg (by omega), if_neg (by omega), if_neg (by omega), if_pos hk, chk_bind (by constructor <;> omega), look1 (by omega) env.length n (Nat.le_refl _) (by omega), Option.bind_some, List.take_length]
   unfold sgV
   cases q : env.reverse.find? (fun b => decide (b.name = x.Ac)) with
   | some b => rfl
   | none =>
    rw [Rt.el_go, (pre_eq hj).1, Option.bind_some, small1]; rfl
  ·obtain ⟨t1, ht1, hn1⟩ := tyE_kid1 hkk ht
   have ih := wexpr hj hT hl d n k t1 hxk ht1 (by omega)
   obtain ⟨g1, g2⟩ := evE_ok hj hT d k t1 hxk ht1
   have eE := evE_1 (j := w.Ar) (σ := sgV env) (d := d) (x := x) (k := k) (by omega) (by omega) (by omega) (by omega) hkk
   rw [if_neg (by rcases hk with ⟨h, _⟩ | h <;> simp [h]), if_neg (by rcases hk with ⟨h, _⟩ | h <;> simp [h]), if_neg (by rcases hk with ⟨h, _⟩ | h <;> simp [h]), if_neg (by rcases hk with ⟨h, _⟩ | h <;> simp [h]),
    hkk, Rc.ix0, Option.bind_some, ih, Option.bind_some]
   rcases g2 with q | q
   ·rw [if_neg (by rw [q]; simp)] at eE
    rw [if_neg (by rw [q]; simp)]
    obtain ⟨g3, g4⟩ := g1 q
    by_cases k24 : x.Ab = 24
    ·rw [if_pos k24] at eE
     rw [eE, if_pos (by simpa using k24), (call_eq (n := 0) (nm := x.Ac) hj (by omega) g4).1, Option.bind_some, small1]; rfl
    ·have k15 : x.Ab = 15 := hk.elim (fun h => absurd h.1 k24) id
     rw [if_neg k24] at eE
     rw [eE, if_neg (by simpa using k24), if_pos (by simpa using k15)]; rfl
   ·rw [if_pos (by rw [q]; rfl)] at eE
    rw [eE, if_pos (by rw [q]; rfl)]; rfl
  ·obtain ⟨t1, t2, ht1, ht2, hn1⟩ := tyE_kid2 hkk ht
   have ihk := wexpr hj hT hl d n k t1 hxk ht1 (by omega)
   have ihl := wexpr hj hT hl d n l t2 hxl ht2 (by omega)
   obtain ⟨g1, g2⟩ := evE_ok hj hT d k t1 hxk ht1
   obtain ⟨g5, g6⟩ := evE_ok hj hT d l t2 hxl ht2
   have eE := evE_2 (j := w.Ar) (σ := sgV env) (d := d) (x := x) (k := k) (l := l) (by omega) (by omega) (by omega) (by omega) hkk
   rw [if_neg (by simp; omega), if_neg (by simp; omega), if_neg (by simp; omega), if_neg (by simp; omega), hkk, Rc.ix0, Option.bind_some, ihk, Option.bind_some, Rc.ix1]
   simp only [Option.bind_some]
   rw [ihl]
   simp only [Option.bind_some]
   rcases g2 with q | q
   ·rw [if_neg (by rw [q]; simp)] at eE
    rw [if_neg (by rw [q]; simp)]
    obtain ⟨g3, g4⟩ := g1 q
    by_cases k14 : x.Ab = 14
    ·rw [if_pos k14] at eE
     rw [eE, if_neg (by simp [k14]), if_neg (by simp [k14]), if_pos (by simpa using k14)]
     cases hz : (evE w.Ar (sgV env) d k).1.At with
     | true => rw [if_neg (by simp)]; rfl
     | false => rw [if_pos (by simp)]; rfl
    ·by_cases k13 : x.Ab = 13
     ·rw [if_neg k14, if_pos k13] at eE
      rw [eE, if_neg (by simp [k13]), if_neg (by simp [k13]), if_neg (by simp [k13]), if_pos (by simpa using k13)]
      cases hz : (evE w.Ar (sgV env) d k).1.At with
      | true => rw [if_pos rfl]; rfl
      | false => rw [if_neg (by simp)]; rfl
     ·rw [if_neg k14, if_neg k13] at eE
      rw [eE, opw_choose k13 k14 (by omega) (by omega), Option.bind_some, Rt.el_go]
      rcases g6 with q6 | q6
      ·rw [if_neg (by rw [q6]; simp), if_neg (by rw [q6]; simp)]
       obtain ⟨g7, g8⟩ := g5 q6
       rw [(opr_eq' (op := Rc.opw x) (by omega) g4 g8).1, Option.bind_some, small1]; rfl
      ·rw [if_pos (by rw [q6]; rfl), if_pos (by rw [q6]; rfl)]; rfl
   ·rw [if_pos (by rw [q]; rfl)] at eE
    rw [eE, if_pos (by rw [q]; rfl)]; rfl
abbrev WSt := R1 × Bool
def evL (g : List B1 → WSt → M → List B1 × Err × WSt) : List B1 → WSt → List M → Err × WSt
 | E, s, [] => (none, s)
 | E, s, x :: l => if s.2 = true then (none, s) else match (g E s x).2.1 with
  | some e => (some e, (g E s x).2.2)
  | none => evL g (g E s x).1 (g E s x).2.2 l
noncomputable def hdV (j : In1) (d : Nat) (E : List B1) : List M → V1 × Err
 | [] => (z0, none)
 | k :: _ => evE j (sgV E) d k
def thn (x : M) : List M := match x.Aa with
 | _ :: t :: _ => t.Aa
 | _ => []
def els (x : M) : List M := match x.Aa with
 | _ :: _ :: o :: _ => brn o
 | _ => []
def wdP (x : M) : Str := (Rc.acw x).getD []
noncomputable def evS (j : In1) : Nat → List B1 → WSt → M → List B1 × Err × WSt
 | 0, E, s, x => (E, none, s)
 | d + 1, E, s, x =>
  if (hdV j d E x.Aa).2.isSome = true then (E, (hdV j d E x.Aa).2, s)
  else if x.Ab = 3 then (E ++ [⟨x.Ac, (hdV j d E x.Aa).1⟩], none, s)
  else if x.Ab = 2 then (E, evL (evS j d) E s (if (hdV j d E x.Aa).1.At = true then thn x else els x))
  else (E, (actP s.1 (wdP x) (hdV j d E x.Aa).1).2, (actP s.1 (wdP x) (hdV j d E x.Aa).1).1, decide (x.Ab = 9))
structure StF (d : Nat) (ρ ρ' : Env) (x : M) : Prop where
 tl : x.Ac.length ≤ 3000
 kid : (x.Aa = [] ∧ x.Ab ≠ 2 ∧ x.Ab ≠ 3) ∨ ∃ e ks t, x.Aa = e :: ks ∧ Rc.XE ρ d e ∧ tyE d ρ e = .ok t ∧ (x.Ab = 3 → ρ' = ext ρ x.Ac t)
 same : x.Ab ≠ 3 → ρ' = ρ
 brn2 : x.Ab = 2 → (∃ e t, t.Ab = 12 ∧ (x.Aa = [e, t] ∨ ∃ o, (o.Ab = 12 ∨ o.Ab = 2) ∧ x.Aa = [e, t, o])) ∧ ∀ l, l = thn x ∨ l = els x → (∀ y ∈ l, Gd d y) ∧ l.length ≤ 700 ∧ (∃ ρ1, foldS (stm d) ρ l = .ok ρ1) ∧ Rt.cntL d l + 1 ≤ Rt.cnt (d + 1) x
 word : x.Ab ≠ 2 → x.Ab ≠ 3 → ∃ w k, Rc.acw x = some w ∧ Rc.actK w = some k ∧ w.length ≤ 100000
theorem stF_of {d : Nat} {ρ ρ' : Env} {x : M} (hg : Gd (d + 1) x) (hs : stm (d + 1) ρ x = .ok ρ') : StF d ρ ρ' x := by
 obtain ⟨hok, m, hm⟩ := hg
 obtain ⟨h1, h2, h3⟩ := hok
 have hm' := hm
 obtain ⟨m', rfl, hv0, hv2⟩ := stated_inv hm'
 have hSF := Rc.stated_form h1 hm
 have word : x.Ab ≠ 2 → x.Ab ≠ 3 → ∃ w k, Rc.acw x = some w ∧ Rc.actK w = some k ∧ w.length ≤ 100000 := fun n2 n3 => by
  obtain ⟨w, e1, e2⟩ := Rc.acs_eff hSF n2 n3
  have e3 := Rc.acs_S h1 ⟨11, 0, w⟩ (by rw [e1]; simp)
  unfold Rc.acs at e1
  cases q : Rc.acw x with
  | none => rw [q] at e1; cases e1
  | some w' =>
   rw [q] at e1
   simp only [List.cons.injEq, and_true] at e1
   have ew : w' = w := by injection e1
   subst ew
   have e4 : (Rc.actK w').map (fun k => (k, (0 : Int))) = some ((x.Aa.length : Int), 0) := e2
   cases hk : Rc.actK w' with
   | none => rw [hk] at e4; cases e4
   | some k => exact ⟨w', k, rfl, hk, e3⟩
 cases hkk : x.Aa with
 | nil =>
  have n2 : x.Ab ≠ 2 := fun q => by
   obtain ⟨e, t, _, hk⟩ := Rc.if_kids q hm
   rcases hk with hk | ⟨o, _, hk⟩ <;> (rw [hkk] at hk; cases hk)
  have n3 : x.Ab ≠ 3 := fun q => by
   unfold Rc.SF at hSF
   rcases hSF with h | ⟨_, h⟩ | ⟨h, _⟩ | ⟨h, _⟩ | ⟨h, _⟩ | ⟨h, _⟩ | ⟨h, _⟩
   ·omega
   ·rw [hkk] at h; cases h
   ·omega
   ·omega
   ·omega
   ·omega
   ·omega
  rw [stm, hkk] at hs
  cases hs
  exact ⟨h1, .inl ⟨hkk, n2, n3⟩, fun _ => rfl, fun q => absurd q n2, word⟩
 | cons e ks =>
  obtain ⟨t, ht, hst⟩ := stm_inv hkk hs
  have hE : Rc.XE ρ d e := Rc.XE_of (h3 e (by rw [hkk]; simp)) (hv0 e (by rw [hkk]; rfl)) ht
  refine ⟨h1, .inr ⟨e, ks, t, hkk, hE, ht, fun q3 => ?_⟩, fun n3 => ?_, fun q2 => ?_, word⟩
  ·rcases hst with ⟨_, h⟩ | ⟨q, _⟩ | ⟨q, _⟩
   ·exact h
   ·omega
   ·exact absurd q3 q
  ·rcases hst with ⟨q, _⟩ | ⟨_, h, _⟩ | ⟨_, _, h⟩
   ·exact absurd q n3
   ·exact h
   ·exact h
  ·obtain ⟨l2, hb⟩ := hv2 q2
   obtain ⟨e', t', ht12, hk⟩ := Rc.if_kids q2 hm
   refine ⟨⟨e', t', ht12, hk⟩, ?_⟩
   rcases hst with ⟨q, _⟩ | ⟨_, hρ, hbr⟩ | ⟨_, q, _⟩
   ·omega
   ·have hT := brs_none hbr
    have gd : ∀ k ∈ ks, (∀ q ∈ brn k, Gd d q) ∧ (brn k).length ≤ 700 := fun k hk1 => by
     have hk2 : k ∈ x.Aa := by rw [hkk]; simp [hk1]
     obtain ⟨l', e1, e2, e3⟩ := branch_ok (h3 k hk2) ((hb k (by rw [hkk]; simpa using hk1)).imp (fun h => ⟨h.1, fun q hq => ⟨m', h.2 q hq⟩⟩) fun h => ⟨h.1, m', h.2⟩)
     rw [brn_eq] at e1
     cases e1
     exact ⟨e3, e2⟩
    have main : ∀ k ∈ ks, (∀ y ∈ brn k, Gd d y) ∧ (brn k).length ≤ 700 ∧ (∃ ρ1, foldS (stm d) ρ (brn k) = .ok ρ1) ∧ Rt.cntL d (brn k) + 1 ≤ Rt.cnt (d + 1) x := fun k hk1 => by
     obtain ⟨g1, g2⟩ := gd k hk1
     refine ⟨g1, g2, hT k hk1, ?_⟩
     have hc := (Rt.brn_ok (d := d) (k := k) (h3 k (by rw [hkk]; simp [hk1]))).2
     have hm2 := Rt.cnt_mem (d := d) (l := x.Aa) (x := k) (by rw [hkk]; simp [hk1])
     rw [Rt.cnt_eq]; omega
    have nil : (∀ y ∈ ([] : List M), Gd d y) ∧ ([] : List M).length ≤ 700 ∧ (∃ ρ1, foldS (stm d) ρ [] = .ok ρ1) ∧ Rt.cntL d [] + 1 ≤ Rt.cnt (d + 1) x :=
     ⟨(fun y hy => by cases hy), by simp, ⟨ρ, rfl⟩, by rw [Rt.cnt_eq]; simp [Rt.cntL]⟩
    intro l hl
    rcases hk with hk | ⟨o, ho, hk⟩
    ·rw [hkk] at hk
     cases hk
     rcases hl with rfl | rfl
     ·have : thn x = brn t' := by unfold thn; rw [hkk, Rc.brn12 ht12]
      rw [this]; exact main t' (by simp)
     ·have : els x = [] := by unfold els; rw [hkk]
      rw [this]; exact nil
    ·rw [hkk] at hk
     cases hk
     rcases hl with rfl | rfl
     ·have : thn x = brn t' := by unfold thn; rw [hkk, Rc.brn12 ht12]
      rw [this]; exact main t' (by simp)
     ·have : els x = brn o := by unfold els; rw [hkk]
      rw [this]; exact main o (by simp)
   ·exact absurd q2 q
theorem sf_of {d : Nat} {x : M} (hg : Gd (d + 1) x) : Rc.SF x := by
 obtain ⟨⟨h1, _, _⟩, m, hm⟩ := hg
 have hm' := hm
 obtain ⟨m', rfl, _, _⟩ := stated_inv hm'
 exact Rc.stated_form h1 hm
theorem acw_deny {x : M} {w : Str} (h : Rc.SF x) (n2 : x.Ab ≠ 2) (n3 : x.Ab ≠ 3) (hw : Rc.acw x = some w) : x.Ab = 9 ↔ w = [100, 101, 110, 121] := by
 unfold Rc.acw at hw
 rcases h with q | ⟨q, _⟩ | ⟨q, _, ht⟩ | ⟨q, _⟩ | ⟨q, _⟩ | ⟨q, _⟩ | ⟨q, _⟩
 ·exact absurd q n2
 ·exact absurd q n3
 ·rw [if_pos q] at hw
  cases hw
  rcases ht with e | e <;> rw [e, q] <;> decide
 ·rw [if_neg (by omega), if_pos q] at hw
  cases hw
  rw [q]; simp
 ·rw [if_neg (by omega), if_neg (by omega), if_pos q] at hw
  cases hw
  rw [q]; simp
 ·rcases q with q | q | q
  ·rw [if_neg (by omega), if_neg (by omega), if_neg (by omega), if_pos q] at hw
   cases hw; rw [q]; decide
  ·rw [if_neg (by omega), if_neg (by omega), if_neg (by omega), if_neg (by omega), if_pos q] at hw
   cases hw; rw [q]; decide
  ·rw [if_neg (by omega), if_neg (by omega), if_neg (by omega), if_neg (by omega), if_neg (by omega), if_pos q] at hw
   cases hw; rw [q]; decide
 ·rcases q with q | q
  ·rw [if_neg (by omega), if_neg (by omega), if_neg (by omega), if_neg (by omega), if_neg (by omega), if_neg (by omega), if_pos q] at hw
   cases hw; rw [q]; decide
  ·rw [if_neg (by omega), if_neg (by omega), if_neg (by omega), if_neg (by omega), if_neg (by omega), if_neg (by omega), if_neg (by omega), if_pos q] at hw
   cases hw; rw [q]; decide
theorem nmdP_deny (r : R1) (s : Str) (x : V1) : (nmdP r s x).1.Ai = r.Ai := by
 unfold nmdP
 split
 ·split <;> rfl
 ·split
  ·rfl
  ·split <;> rfl
theorem actP_dn {r : R1} {w : Str} {x : V1} (h : (actP r w x).2 = none) (h0 : r.Ai = 0) : (actP r w x).1.Ai ≠ 0 ↔ w = [100, 101, 110, 121] := by
 unfold actP at h ⊢
 by_cases q0 : x.kind ≠ needP w
 ·rw [if_pos q0] at h; cases h
 rw [if_neg q0]
 by_cases q1 : w = [112, 97, 116, 104]
 ·rw [if_pos q1]; simp [h0, q1]
 rw [if_neg q1]
 by_cases q2 : w = [113, 117, 101, 114, 121]
 ·rw [if_pos q2]; simp [h0, q2]
 rw [if_neg q2]
 by_cases q3 : w = [116, 97, 103]
 ·rw [if_pos q3]; simp [h0, q3]
 rw [if_neg q3]
 by_cases q4 : w = [116, 116, 108]
 ·rw [if_pos q4]; simp [h0, q4]
 rw [if_neg q4]
 by_cases q5 : w = [100, 101, 110, 121]
 ·rw [if_pos q5]
  refine ⟨fun _ => q5, fun _ => ?_⟩
  split
  ·show (403 : Int) ≠ 0; omega
  ·show x.n ≠ 0; omega
 rw [if_neg q5]
 refine ⟨fun e => absurd ?_ e, fun e => absurd e q5⟩
 split
 ·exact h0
 split
 ·exact h0
 rw [nmdP_deny]; exact h0
structure SInv (k : Nat) (s : WSt) : Prop where
 r : ROK k s.1
 dn : s.2 = decide (s.1.Ai ≠ 0)
def LInv (k : Nat) (o : Err × WSt) : Prop := ROK k o.2.1 ∧ o.1 ≠ some 0 ∧ (o.1 = none → o.2.2 = decide (o.2.1.Ai ≠ 0))
def LI (j : In1) (d : Nat) : Prop := ∀ (l : List M) (k : Nat) (ρ ρ' : Env) (E : List B1) (s : WSt), (∀ y ∈ l, Gd d y) → foldS (stm d) ρ l = .ok ρ' → TyV ρ (sgV E) → SInv k s → LInv (k + Rt.cntL d l) (evL (evS j d) E s l)
theorem hdV_ok {j : In1} {d : Nat} {ρ ρ' : Env} {E : List B1} {x : M} (hj : ∃ i, IOK i ∧ j = inp i) (hT : TyV ρ (sgV E)) (hF : StF d ρ ρ' x) :
  ((hdV j d E x.Aa).2 = none → VOK 2048 (hdV j d E x.Aa).1) ∧ ((hdV j d E x.Aa).2 = none ∨ (hdV j d E x.Aa).2 = some 5) ∧
  ((hdV j d E x.Aa).2 = none → x.Ab = 3 → TyV ρ' (sgV (E ++ [⟨x.Ac, (hdV j d E x.Aa).1⟩]))) := by
 rcases hF.kid with ⟨hk, _, n3⟩ | ⟨e, ks, t, hk, hE, ht, h3⟩
 ·rw [hk]
  exact ⟨(fun _ => ⟨Nat.zero_le _, (by show (-1099511627776 : Int) ≤ 0; omega), (by show (0 : Int) ≤ 1099511627776; omega)⟩), .inl rfl, fun _ q => absurd q n3⟩
 ·rw [hk]
  obtain ⟨g1, g2⟩ := evE_ok hj hT d e t hE ht
  refine ⟨fun h => (g1 h).2, g2, fun h q => ?_⟩
  obtain ⟨g3, g4⟩ := g1 h
  rw [h3 q, sgV_snoc]
  refine ⟨fun s v hv => ?_, fun s hv => ?_⟩
  ·have hv : (if x.Ac = s then some (hdV j d E (e :: ks)).1 else sgV E s) = some v := hv
   unfold ext
   by_cases w : x.Ac = s
   ·rw [if_pos w] at hv ⊢
    cases hv
    exact ⟨g3, g4⟩
   ·rw [if_neg w] at hv ⊢
    exact hT.some_ s v hv
  ·have hv : (if x.Ac = s then some (hdV j d E (e :: ks)).1 else sgV E s) = none := hv
   unfold ext
   by_cases w : x.Ac = s
   ·rw [if_pos w] at hv; cases hv
   ·rw [if_neg w] at hv ⊢
    exact hT.none_ s hv
theorem evS_inv {j : In1} {d k : Nat} {ρ ρ1 : Env} {E : List B1} {s : WSt} {x : M} (hj : ∃ i, IOK i ∧ j = inp i) (hL : LI j d) (hg : Gd (d + 1) x) (hs : stm (d + 1) ρ x = .ok ρ1) (hT : TyV ρ (sgV E)) (hi : SInv k s) (he : s.2 = false) :
  ((evS j (d + 1) E s x).2.1 = none → TyV ρ1 (sgV (evS j (d + 1) E s x).1) ∧ SInv (k + Rt.cnt (d + 1) x) (evS j (d + 1) E s x).2.2) ∧ (evS j (d + 1) E s x).2.1 ≠ some 0 ∧ ROK (k + Rt.cnt (d + 1) x) (evS j (d + 1) E s x).2.2.1 ∧ (evS j (d + 1) E s x).1.length ≤ E.length + 1 := by
 have hF := stF_of hg hs
 have hSF := sf_of hg
 obtain ⟨v1, v2, v3⟩ := hdV_ok hj hT hF
 have hc : 1 ≤ Rt.cnt (d + 1) x := by rw [Rt.cnt_eq]; omega
 have h0 : s.1.Ai = 0 := by
  have := hi.dn
  rw [he] at this
  by_cases q : s.1.Ai = 0
  ·exact q
  ·rw [decide_eq_true q] at this; cases this
 rw [evS]
 by_cases q : (hdV j d E x.Aa).2.isSome = true
 ·rw [if_pos q]
  refine ⟨fun h => ?_, ?_, hi.r.up (by omega), by show E.length ≤ _; omega⟩
  ·simp only at h; rw [h] at q; cases q
  ·rcases v2 with w | w
   ·rw [w] at q; cases q
   ·show (hdV j d E x.Aa).2 ≠ some 0
    rw [w]; decide
 rw [if_neg q]
 have qn : (hdV j d E x.Aa).2 = none := by
  cases w : (hdV j d E x.Aa).2 with
  | none => rfl
  | some e => rw [w] at q; exact absurd rfl q
 by_cases q3 : x.Ab = 3
 ·rw [if_pos q3]
  exact ⟨fun _ => ⟨v3 qn q3, hi.r.up (by omega), hi.dn⟩, by simp, hi.r.up (by omega), by simp⟩
 rw [if_neg q3]
 by_cases q2 : x.Ab = 2
 ·rw [if_pos q2]
  obtain ⟨_, hb⟩ := hF.brn2 q2
  have hB : (if (hdV j d E x.Aa).1.At = true then thn x else els x) = thn x ∨ (if (hdV j d E x.Aa).1.At = true then thn x else els x) = els x := by
   split
   ·exact .inl rfl
   ·exact .inr rfl
  generalize (if (hdV j d E x.Aa).1.At = true then thn x else els x) = B at hB
  obtain ⟨g1, g2, ⟨ρ2, g3⟩, g4⟩ := hb B hB
  obtain ⟨l1, l2, l3⟩ := hL B k ρ ρ2 E s g1 g3 hT hi
  exact ⟨fun h => ⟨(by rw [hF.same q3]; exact hT), l1.up (by omega), l3 h⟩, l2, l1.up (by omega), by show E.length ≤ _; omega⟩
 rw [if_neg q2]
 obtain ⟨w, t, e1, e2, e3⟩ := hF.word q2 q3
 have ew : wdP x = w := by unfold wdP; rw [e1]; rfl
 rw [ew]
 obtain ⟨a1, a2, _⟩ := actP_ok (k := k) (s := w) (x := (hdV j d E x.Aa).1) hi.r
 refine ⟨fun h => ⟨(by rw [hF.same q3]; exact hT), a1.up (by omega), ?_⟩, a2, a1.up (by omega), by show E.length ≤ _; omega⟩
 have h1 := actP_dn h h0
 have h2 := acw_deny hSF q2 q3 e1
 show decide (x.Ab = 9) = decide ((actP s.1 w (hdV j d E x.Aa).1).1.Ai ≠ 0)
 exact decide_eq_decide.2 (h2.trans h1.symm)
theorem evL_inv {j : In1} (hj : ∃ i, IOK i ∧ j = inp i) : ∀ d, LI j d
 | 0, [], k, ρ, ρ', E, s, _, _, _, hi => ⟨hi.r.up (by omega), by simp [evL], fun _ => hi.dn⟩
 | 0, x :: l, k, ρ, ρ', E, s, hg, _, _, _ => (hg x (by simp)).1.elim
 | d + 1, l, k, ρ, ρ', E, s, hg, hf, hT, hi => by
  have hL := evL_inv hj d
  induction l generalizing k ρ E s with
  | nil => exact ⟨hi.r.up (by omega), by simp [evL], fun _ => hi.dn⟩
  | cons x l ih =>
   rw [foldS] at hf
   cases hx : stm (d + 1) ρ x with
   | error e => rw [hx] at hf; cases hf
   | ok ρ1 =>
    rw [hx] at hf
    simp only at hf
    rw [evL]
    rw [Rt.cntL_cons]
    by_cases q : s.2 = true
    ·rw [if_pos q]
     exact ⟨hi.r.up (by omega), by simp, fun _ => hi.dn⟩
    rw [if_neg q]
    obtain ⟨g1, g2, g3, _⟩ := evS_inv hj hL (hg x (by simp)) hx hT hi (by simpa using q)
    cases w : (evS j (d + 1) E s x).2.1 with
    | some e => exact ⟨g3.up (by omega), (by rw [w] at g2; exact g2), fun h => by cases h⟩
    | none =>
     obtain ⟨g4, g5⟩ := g1 w
     have := ih (k + Rt.cnt (d + 1) x) ρ1 _ _ (fun y hy => hg y (by simp [hy])) hf g4 g5
     rw [Nat.add_assoc] at this
     exact this
theorem word1 {x : M} {w : Str} (h : Rc.acw x = some w) (hl : x.Ac.length ≤ 3000) : Jda x = some w := by
 unfold Rc.acw at h
 unfold Jda
 by_cases q4 : x.Ab = 4
 ·rw [if_pos q4] at h
  rw [if_neg (by simp [q4]), if_neg (by simp [q4]), if_neg (by simp [q4]), if_neg (by simp [q4]), if_neg (by simp [q4]), if_neg (by simp [q4]), if_neg (by simp [q4])]; exact h
 rw [if_neg q4] at h
 by_cases q5 : x.Ab = 5
 ·rw [if_pos q5] at h
  rw [if_pos (by simpa using q5), chk_bind (by simp [lim]; omega)]; exact h
 rw [if_neg q5] at h
 rw [if_neg (by simpa using q5)]
 by_cases q6 : x.Ab = 6
 ·rw [if_pos q6] at h
  rw [if_pos (by simpa using q6), chk_bind (by simp [lim]; omega)]; exact h
 rw [if_neg q6] at h
 rw [if_neg (by simpa using q6)]
 by_cases q7 : x.Ab = 7
 ·rw [if_pos q7] at h
  rw [if_pos (by simpa using q7)]; exact h
 rw [if_neg q7] at h
 rw [if_neg (by simpa using q7)]
 by_cases q8 : x.Ab = 8
 ·rw [if_pos q8] at h
  rw [if_pos (by simpa using q8)]; exact h
 rw [if_neg q8] at h
 rw [if_neg (by simpa using q8)]
 by_cases q9 : x.Ab = 9
 ·rw [if_pos q9] at h
  rw [if_pos (by simpa using q9)]; exact h
 rw [if_neg q9] at h
 rw [if_neg (by simpa using q9)]
 by_cases q10 : x.Ab = 10
 ·rw [if_pos q10] at h
  rw [if_pos (by simpa using q10)]; exact h
 rw [if_neg q10] at h
 rw [if_neg (by simpa using q10)]
 by_cases q11 : x.Ab = 11
 ·rw [if_pos q11] at h
  rw [if_pos (by simpa using q11)]; exact h
 rw [if_neg q11] at h
 cases h
theorem kids_if {x e t : M} (ht : t.Ab = 12) (h : x.Aa = [e, t] ∨ ∃ o, (o.Ab = 12 ∨ o.Ab = 2) ∧ x.Aa = [e, t, o]) :
  ix x.Aa 1 = some t ∧ thn x = t.Aa ∧ ((¬ (x.Aa.length : Int) > 2 ∧ els x = []) ∨ ∃ o, (x.Aa.length : Int) = 3 ∧ ix x.Aa 2 = some o ∧ subL x.Aa (2 : Int) (x.Aa.length : Int) = [o] ∧ ((o.Ab = 2 ∧ els x = [o]) ∨ (o.Ab = 12 ∧ els x = o.Aa))) := by
 rcases h with h | ⟨o, ho, h⟩
 ·unfold thn els
  rw [h]
  exact ⟨rfl, rfl, .inl ⟨by simp, rfl⟩⟩
 ·unfold thn els
  rw [h]
  refine ⟨rfl, rfl, .inr ⟨o, rfl, rfl, rfl, ?_⟩⟩
  rcases ho with ho | ho
  ·exact .inr ⟨ho, Rc.brn12 ho⟩
  ·refine .inl ⟨ho, ?_⟩
   show brn o = [o]
   unfold brn
   rw [if_neg (by omega)]
abbrev W (j : In1) (s : WSt) : Jn := ⟨j, s.1, s.2⟩
def WL (j : In1) (d n : Nat) : Prop := ∀ (l : List M) (k : Nat) (ρ ρ' : Env) (E : List B1) (s : WSt), (∀ y ∈ l, Gd d y) → l.length ≤ 700 → foldS (stm d) ρ l = .ok ρ' → TyV ρ (sgV E) → E.length + l.length + 700 * d ≤ 90000 → SInv k s → k + Rt.cntL d l ≤ 900 →
 JF n (W j s) l E = some ((evL (evS j d) E s l).1, W j (evL (evS j d) E s l).2)
set_option maxRecDepth 100000 in
theorem wL0 {j : In1} {d n : Nat} (hj : ∃ i, IOK i ∧ j = inp i) (hn : d + 200000 ≤ n) (hw : WL j d n) (s0 : WSt) : ∀ (l : List M) (i k : Nat) (ρ ρ' : Env) (E : List B1) (s : WSt), (∀ y ∈ l, Gd (d + 1) y) → foldS (stm (d + 1)) ρ l = .ok ρ' → TyV ρ (sgV E) → E.length + l.length + 700 * (d + 1) ≤ 90000 → SInv k s → k + Rt.cntL (d + 1) l ≤ 900 →
  ∃ r, JS (W j s0) n (JF n) l i E (W j s) = some r ∧ (r = Fl.ret ((evL (evS j (d + 1)) E s l).1, W j (evL (evS j (d + 1)) E s l).2) ∨ ∃ E', r = Fl.go (E', W j (evL (evS j (d + 1)) E s l).2) ∧ (evL (evS j (d + 1)) E s l).1 = none)
 | [], i, k, ρ, ρ', E, s, _, _, _, _, _, _ => ⟨_, rfl, .inr ⟨E, rfl, rfl⟩⟩
 | x :: l, i, k, ρ, ρ', E, s, hg, hf, hT, hl, hi, hc => by
  rw [JS]
  dsimp only [W]
  by_cases he : s.2 = true
  ·rw [if_pos he]
   exact ⟨_, rfl, .inl (by rw [evL, if_pos he])⟩
  rw [if_neg he]
  have hef : s.2 = false := by simpa using he
  rw [foldS] at hf
  cases hx : stm (d + 1) ρ x with
  | error e => rw [hx] at hf; cases hf
  | ok ρ1 =>
   rw [hx] at hf
   simp only at hf
   have hF := stF_of (hg x (by simp)) hx
   obtain ⟨v1, v2, v3⟩ := hdV_ok hj hT hF
   obtain ⟨i1, i2, i3, i4⟩ := evS_inv hj (evL_inv hj d) (hg x (by simp)) hx hT hi hef
   rw [Rt.cntL_cons] at hc
   simp only [List.length_cons] at hl
   have hd0 : (if decide ((x.Aa.length : Int) > 0) = true then (ix x.Aa 0).bind fun x32 => (J3 n (⟨j, s.1, s.2⟩ : Jn) x32 E).bind fun x35 => if x35.2.isSome = true then some (Fl.ret (x35.2, (⟨j, s.1, s.2⟩ : Jn))) else some (Fl.go (x35.1.kind, x35.1.n, x35.1.s, x35.1.At)) else some (Fl.go (0, 0, ([] : Str), false)) : Option (Fl (Err × Jn) (Int × Int × Str × Bool)))
     = some (if (hdV j d E x.Aa).2.isSome = true then Fl.ret ((hdV j d E x.Aa).2, (⟨j, s.1, s.2⟩ : Jn)) else Fl.go ((hdV j d E x.Aa).1.kind, (hdV j d E x.Aa).1.n, (hdV j d E x.Aa).1.s, (hdV j d E x.Aa).1.At)) := by
    rcases hF.kid with ⟨hk, _, _⟩ | ⟨e, ks, t, hk, hE, ht, _⟩
    ·rw [hk]; rfl
    ·rw [hk, if_pos (by simp only [List.length_cons, decide_eq_true_eq]; omega), Rc.ix0, Option.bind_some, wexpr (w := ⟨j, s.1, s.2⟩) hj hT (by omega) d n e t hE ht (by omega), Option.bind_some]
     show (if (evE j (sgV E) d e).2.isSome = true then _ else _) = some (if (evE j (sgV E) d e).2.isSome = true then _ else _)
     split <;> rfl
   rw [hd0, Option.bind_some]
   have fin : ∀ (E1 : List B1) (o : Err) (s1 : WSt), evS j (d + 1) E s x = (E1, o, s1) → ∃ r, (if o.isSome = true then some (Fl.ret (o, (⟨j, s1.1, s1.2⟩ : Jn))) else JS (W j s0) n (JF n) l (i + 1) E1 (⟨j, s1.1, s1.2⟩ : Jn)) = some r ∧
     (r = Fl.ret ((evL (evS j (d + 1)) E s (x :: l)).1, W j (evL (evS j (d + 1)) E s (x :: l)).2) ∨ ∃ E', r = Fl.go (E', W j (evL (evS j (d + 1)) E s (x :: l)).2) ∧ (evL (evS j (d + 1)) E s (x :: l)).1 = none) := by
    intro E1 o s1 hS
    rw [hS] at i1 i2 i3 i4
    cases o with
    | some e => exact ⟨_, if_pos rfl, .inl (by rw [evL, if_neg he, hS])⟩
    | none =>
     obtain ⟨g1, g2⟩ := i1 rfl
     simp only at i4
     have := wL0 hj hn hw s0 l (i + 1) (k + Rt.cnt (d + 1) x) ρ1 ρ' E1 s1 (fun y hy => hg y (by simp [hy])) hf g1 (by omega) g2 (by omega)
     rw [if_neg (by simp), evL, if_neg he, hS]
     exact this
   by_cases q : (hdV j d E x.Aa).2.isSome = true
   ·rw [if_pos q, Rt.el_ret]
    refine ⟨_, rfl, .inl ?_⟩
    obtain ⟨e, hq⟩ := Option.isSome_iff_exists.1 q
    have eS : evS j (d + 1) E s x = (E, some e, s) := by rw [evS, if_pos q, hq]
    rw [evL, if_neg he, eS, hq]
   rw [if_neg q, Rt.el_go]
   dsimp only
   have qn : (hdV j d E x.Aa).2 = none := by
    cases w : (hdV j d E x.Aa).2 with
    | none => rfl
    | some e => rw [w] at q; exact absurd rfl q
   by_cases q3 : x.Ab = 3
   ·rw [if_pos (by simpa using q3), chk_bind (by simp only [lim, List.length_singleton]; omega), Option.bind_some]
    exact fin _ none s (by rw [evS, if_neg q, if_pos q3])
   rw [if_neg (by simpa using q3)]
   by_cases q2 : x.Ab = 2
   ·rw [if_pos (by simpa using q2)]
    obtain ⟨⟨e, t, ht, hk⟩, hb⟩ := hF.brn2 q2
    obtain ⟨j1, j2, j3⟩ := kids_if ht hk
    have rec_ : ∀ B, B = thn x ∨ B = els x → JF n (⟨j, s.1, s.2⟩ : Jn) B E = some ((evL (evS j d) E s B).1, W j (evL (evS j d) E s B).2) := fun B hB => by
     obtain ⟨g1, g2, ⟨ρ2, g3⟩, g4⟩ := hb B hB
     exact hw B k ρ ρ2 E s g1 g2 g3 hT (by omega) hi (by omega)
    cases hz : (hdV j d E x.Aa).1.At with
    | true =>
     rw [if_pos rfl, j1, Option.bind_some, ← j2, rec_ _ (.inl rfl), Option.bind_some, Option.bind_some]
     exact fin _ _ _ (by rw [evS, if_neg q, if_neg q3, if_pos q2, hz, if_pos rfl])
    | false =>
     have eS : evS j (d + 1) E s x = (E, evL (evS j d) E s (els x)) := by rw [evS, if_neg q, if_neg q3, if_pos q2, hz, if_neg (by simp)]
     rw [if_neg (by simp)]
     rcases j3 with ⟨j4, j5⟩ | ⟨o, j4, j5, j6, j7⟩
     ·rw [if_neg (by simpa using j4), Option.bind_some, if_neg (by simp), if_neg (by simpa using j4), Option.bind_some]
      rw [j5] at eS
      exact fin _ _ _ eS
     ·have l3 : decide ((x.Aa.length : Int) > 2) = true := by rw [j4]; rfl
      rw [if_pos l3, j5, Option.bind_some]
      rcases j7 with ⟨j7, j8⟩ | ⟨j7, j8⟩
      ·rw [Option.bind_some, if_pos (by simpa using j7), chk_bind (by omega), j6, ← j8, rec_ _ (.inr rfl), Option.bind_some, Option.bind_some]
       exact fin _ _ _ eS
      ·rw [Option.bind_some, if_neg (by simp [j7]), if_pos l3, Option.bind_some, ← j8, rec_ _ (.inr rfl), Option.bind_some, Option.bind_some]
       exact fin _ _ _ eS
   rw [if_neg (by simpa using q2)]
   obtain ⟨w, t, e1, e2, e3⟩ := hF.word q2 q3
   have ew : wdP x = w := by unfold wdP; rw [e1]; rfl
   have hcx : 1 ≤ Rt.cnt (d + 1) x := by rw [Rt.cnt_eq]; omega
   obtain ⟨hv1, hv2, hv3⟩ := v1 qn
   rw [word1 e1 hF.tl, Option.bind_some, act1 (k := k) (by omega) hi.r e3 (by show (hdV j d E x.Aa).1.s.length ≤ 100000; omega) e2, Option.bind_some, Option.bind_some]
   exact fin _ _ _ (by rw [evS, if_neg q, if_neg q3, if_neg q2, ew])
set_option maxRecDepth 100000 in
theorem wblock {j : In1} (hj : ∃ i, IOK i ∧ j = inp i) : ∀ (d n : Nat), d + 200001 ≤ n → WL j d n
 | d, 0, h => by omega
 | 0, n + 1, h => fun l k ρ ρ' E s hg hl hf hT hE hi hc => by
  cases l with
  | nil => rfl
  | cons x l => exact (hg x (by simp)).1.elim
 | d + 1, n + 1, h => fun l k ρ ρ' E s hg hl hf hT hE hi hc => by
  obtain ⟨r, h1, h2⟩ := wL0 hj (by omega) (wblock hj d n (by omega)) s l 0 k ρ ρ' E s hg hf hT hE hi hc
  rw [JF, chk_bind (by simp only [szMax]; omega), h1, Option.bind_some]
  rcases h2 with rfl | ⟨E', rfl, h3⟩
  ·rfl
  ·rw [Rt.el_go, h3]
def DI (r : R1) : Prop := r.Ai = 0 ∨ (400 ≤ r.Ai ∧ r.Ai ≤ 499)
theorem actP_di {r : R1} {w : Str} {x : V1} (h : DI r) : DI (actP r w x).1 := by
 unfold actP
 split
 ·exact h
 split
 ·exact h
 split
 ·exact h
 split
 ·exact h
 split
 ·exact h
 split
 ·split
  ·exact .inr ⟨(by show (400 : Int) ≤ 403; omega), (by show (403 : Int) ≤ 499; omega)⟩
  ·refine .inr ⟨?_, ?_⟩
   ·show 400 ≤ x.n; omega
   ·show x.n ≤ 499; omega
 split
 ·exact h
 split
 ·exact h
 unfold DI
 rw [nmdP_deny]; exact h
theorem evL_di {j : In1} : ∀ (d : Nat) (l : List M) (E : List B1) (s : WSt), DI s.1 → DI (evL (evS j d) E s l).2.1 := by
 have step : ∀ (g : List B1 → WSt → M → List B1 × Err × WSt), (∀ E s x, DI s.1 → DI (g E s x).2.2.1) → ∀ (l : List M) (E : List B1) (s : WSt), DI s.1 → DI (evL g E s l).2.1 := fun g hg l => by
  induction l with
  | nil => exact fun E s h => h
  | cons x l ih =>
   intro E s h
   rw [evL]
   split
   ·exact h
   ·split
    ·exact hg E s x h
    ·exact ih _ _ (hg E s x h)
 intro d
 induction d with
 | zero => exact step _ fun E s x h => h
 | succ d ih =>
  refine step _ fun E s x h => ?_
  rw [evS]
  split
  ·exact h
  split
  ·exact h
  split
  ·exact ih _ _ _ h
  ·exact actP_di h
theorem evL_append {g : List B1 → WSt → M → List B1 × Err × WSt} (k : List M) : ∀ (l : List M) (E : List B1) (s : WSt), ((evL g E s l).1 = none → ∃ E', evL g E s (l ++ k) = evL g E' (evL g E s l).2 k) ∧ ∀ e, (evL g E s l).1 = some e → evL g E s (l ++ k) = evL g E s l
 | [], E, s => ⟨fun _ => ⟨E, rfl⟩, fun e h => by cases h⟩
 | x :: l, E, s => by
  rw [List.cons_append, evL, evL]
  by_cases q : s.2 = true
  ·rw [if_pos q, if_pos q]
   refine ⟨fun _ => ⟨E, ?_⟩, fun e h => by cases h⟩
   cases k with
   | nil => rfl
   | cons y k => rw [evL, if_pos q]
  ·rw [if_neg q, if_neg q]
   cases w : (g E s x).2.1 with
   | some e => exact ⟨(fun h => by cases h), fun _ _ => rfl⟩
   | none => exact evL_append k l _ _
theorem digs_val {a b c : Int} (ha : 0 ≤ a ∧ a ≤ 9) (hb : 0 ≤ b ∧ b ≤ 9) (hc : 0 ≤ c ∧ c ≤ 9) : numP [u8of (48 + a), u8of (48 + b), u8of (48 + c)] = 100 * a + 10 * b + c := by
 have e : ∀ x : Int, 0 ≤ x ∧ x ≤ 9 → x = 0 ∨ x = 1 ∨ x = 2 ∨ x = 3 ∨ x = 4 ∨ x = 5 ∨ x = 6 ∨ x = 7 ∨ x = 8 ∨ x = 9 := fun x h => by omega
 have all : ∀ p ∈ [0, 1, 2, 3, 4, 5, 6, 7, 8, 9], ∀ q ∈ [0, 1, 2, 3, 4, 5, 6, 7, 8, 9], ∀ r ∈ [(0 : Int), 1, 2, 3, 4, 5, 6, 7, 8, 9], numP [u8of (48 + p), u8of (48 + q), u8of (48 + r)] = 100 * p + 10 * q + r := by decide +kernel
 exact all a (by rcases e a ha with h | h | h | h | h | h | h | h | h | h <;> rw [h] <;> decide) b (by rcases e b hb with h | h | h | h | h | h | h | h | h | h <;> rw [h] <;> decide) c (by rcases e c hc with h | h | h | h | h | h | h | h | h | h <;> rw [h] <;> decide)
def denyN (s : Str) : N := ⟨9, [], [⟨20, s, [], 1⟩], 1⟩
def passN : N := ⟨10, [], [], 1⟩
theorem evL_deny {j : In1} {d : Nat} {E : List B1} {s : WSt} {s3 : Str} {y z : M} {v : Int} (hy : Cvd (d + 2) (denyN s3) y) (hv : numP s3 = v) (h0 : 0 ≤ v ∧ v ≤ 999) (hs : s.2 = decide (s.1.Ai ≠ 0)) :
  evL (evS j (d + 2)) E s [y, z] = (none, if s.1.Ai = 0 then ({ s.1 with Ai := if v < 400 ∨ v > 499 then 403 else v }, true) else s) := by
 obtain ⟨c1, c2, _, c4⟩ := hy
 obtain ⟨k, hk, hck⟩ : ∃ k, y.Aa = [k] ∧ Cvd (d + 1) ⟨20, s3, [], 1⟩ k := by
  generalize y.Aa = q at c4
  cases c4 with
  | cons h1 h2 => cases h2; exact ⟨_, rfl, h1⟩
 obtain ⟨k1, k2, _, _⟩ := hck
 have ke : hdV j (d + 1) E y.Aa = (nm' v, none) := by
  rw [hk]
  show evE j (sgV E) (d + 1) k = _
  rw [evE, if_pos (by rw [k1]), k2, hv]
 rw [evL]
 by_cases q : s.1.Ai = 0
 ·rw [if_neg (by rw [hs]; simp [q]), if_pos q]
  have y9 : y.Ab = 9 := c1
  have ew : wdP y = [100, 101, 110, 121] := by
   unfold wdP Rc.acw
   rw [y9]; rfl
  have ev : evS j (d + 2) E s y = (E, none, ({ s.1 with Ai := if v < 400 ∨ v > 499 then 403 else v }, true)) := by
   rw [evS, ke, if_neg (by simp), if_neg (by omega), if_neg (by omega), ew, decide_eq_true y9]
   have ea : actP s.1 [100, 101, 110, 121] (nm' v) = ({ s.1 with Ai := if v < 400 ∨ v > 499 then 403 else v }, none) := by
    have e1 : (nm' v).n = v := by
     show clip v = v
     unfold clip; omega
    unfold actP
    have e2 : ¬ (nm' v).kind ≠ needP [100, 101, 110, 121] := fun h => h (show (2 : Int) = needP [100, 101, 110, 121] by decide)
    rw [if_neg e2, if_neg (by decide), if_neg (by decide), if_neg (by decide), if_neg (by decide), if_pos rfl, e1]
    split <;> rfl
   rw [ea]
  rw [ev, evL, if_pos rfl]
 ·rw [if_pos (by rw [hs]; simpa using q), if_neg q]
def zR1 : R1 := ⟨[], [], [], [], [], 0, 0, 0, false, false⟩
def b0 (i : In2) : WSt := (⟨i.Ae, i.Af, [], [], [], -1, 0, 0, false, false⟩, false)
theorem b0_ok (i : In2) : SInv 0 (b0 i) := ⟨⟨⟨Nat.le_refl _, (fun x hx => by cases hx)⟩, Nat.le_refl _, Nat.le_refl _⟩, rfl⟩
theorem TyV0 : TyV base (sgV []) := by
 rw [sgV_nil]
 exact ⟨(fun s v h => by cases h), fun s _ => rfl⟩
theorem ref_L0 : ∀ (l : List FF) (i : Nat) (y : List Jj), y.length + l.length ≤ 100000 → JbW l i y = some (y ++ uff l)
 | [], i, y, _ => by rw [JbW]; simp [uff]
 | x :: l, i, y, h => by
  simp only [List.length_cons] at h
  rw [JbW, chk_bind (by simp only [lim, List.length_singleton]; omega), ref_L0 l (i + 1) _ (by simp only [List.length_append, List.length_singleton]; omega)]
  simp [uff]
theorem ref_eq {k : Nat} {r : R1} (h : ROK k r) (hk : k ≤ 1000) : Jdd r = some (r2 r) := by
 have := h.h.1
 unfold Jdd Jev
 rw [chk_bind (by simp only [szMax]; omega), ref_L0 _ _ _ (by simp only [List.length_nil]; omega)]; rfl
theorem eval_one {n : Nat} {i : In2} {x : N} {y : M} (hI : IOK i) (hx : OkN 40 x) (cy : Cvd 40 x y) (hn : 2000100 ≤ n) (hc : cntN 40 x ≤ 10000) :
  (∃ e l : Int, e ≠ 0 ∧ Jbq n y (inp i) = some (zR1, some e) ∧ JbP n x = some ⟨l, e⟩) ∨
  (Jab n y = some true ∧ ∃ (ρ : Env) (o : Err × WSt), foldS (stm 39) base y.Aa = .ok ρ ∧ JbP n x = some ⟨0, 0⟩ ∧ o = evL (evS (inp i) 39) [] (b0 i) y.Aa ∧ LInv 512 o ∧
   Jbq n y (inp i) = some (match o.1 with | some e => (zR1, some e) | none => (o.2.1, none))) := by
 obtain ⟨b, b1, bv⟩ := Valid_rel (n := n) (d := 39) hx cy (by omega) (by omega) hc
 have ck1 := Check_pure (n := n) (d := 39) (cy.ok hx) (by omega) (by omega) bv
 have ck2 := Check2_pure (n := n) (d := 39) hx cy (by omega) (by omega) b1 bv
 have bad : ∀ (l e : Int), Jbj n y = some (l, some e) → Jbq n y (inp i) = some (zR1, some e) := fun l e h => by
  unfold Jbq; rw [h]; rfl
 cases b with
 | false => exact .inl ⟨2, 0, by decide, bad 0 2 ck1, ck2⟩
 | true =>
  rw [if_pos rfl] at ck1 ck2
  unfold chkR at ck1
  cases q : foldS (stm 39) base y.Aa with
  | error e =>
   rw [q] at ck1 ck2
   exact .inl ⟨e.2, e.1, fold_err q, bad e.1 e.2 ck1, ck2⟩
  | ok ρ =>
   rw [q] at ck1 ck2
   have hok := cy.ok hx
   have hsm := Rc.Valid_small bv 40
   have hg : ∀ z ∈ y.Aa, Gd 39 z := fun z hz => ⟨hok.2.2 z hz, n, Valid_inv bv z hz⟩
   have hl := hok.2.1
   have hcl : Rt.cntL 39 y.Aa ≤ 512 := by rw [Rt.cnt_eq] at hsm; omega
   have hj : ∃ i', IOK i' ∧ inp i = inp i' := ⟨i, hI, rfl⟩
   have li := evL_inv hj 39 y.Aa 0 base ρ [] (b0 i) hg q TyV0 (b0_ok i)
   have hw := wblock hj 39 n (by omega) y.Aa 0 base ρ [] (b0 i) hg hl q TyV0 (by simp only [List.length_nil]; omega) (b0_ok i) (by omega)
   refine .inr ⟨bv, ρ, _, rfl, ck2, rfl, ⟨li.1.up (by omega), li.2⟩, ?_⟩
   unfold Jbq
   rw [ck1, Option.bind_some, if_neg (by simp)]
   rw [show JF n (⟨inp i, (⟨(inp i).Ae, (inp i).Af, [], [], [], (-1), 0, 0, false, false⟩ : Jf), false⟩ : Jn) y.Aa [] = _ from hw, Option.bind_some]
   generalize evL (evS (inp i) 39) [] (b0 i) y.Aa = o
   cases w : o.1 with
   | some e => rfl
   | none => rfl
end Rt.Rv
