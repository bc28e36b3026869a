import Derived.Test.YtkpipkpdnbconaaGreatDoorRtAll
set_option linter.unusedVariables false
set_option linter.unusedSimpArgs false
open Go Go.SL Go.Proofs Pl
namespace Rt.Rc
def SF (x : M) : Prop :=
 x.Kind = 2 ∨ (x.Kind = 3 ∧ x.Kids.length = 1) ∨ (x.Kind = 4 ∧ x.Kids.length = 1 ∧ (x.Text = [112, 97, 116, 104] ∨ x.Text = [113, 117, 101, 114, 121])) ∨ (x.Kind = 5 ∧ x.Kids.length = 1 ∧ prt x.Text = true) ∨ (x.Kind = 6 ∧ x.Kids.length = 0 ∧ prt x.Text = true) ∨
 ((x.Kind = 7 ∨ x.Kind = 8 ∨ x.Kind = 9) ∧ x.Kids.length = 1) ∨ ((x.Kind = 10 ∨ x.Kind = 11) ∧ x.Kids.length = 0)
theorem one_len {m : Nat} {x : M} (h : (if decide ((x.Kids.length : Int) = 1) = true then (ix x.Kids 0).bind fun x121 => (Jq m x121).bind fun x123 => some x123 else some false).bind (fun x124 => some x124) = some true) : x.Kids.length = 1 := by
 by_cases q : (x.Kids.length : Int) = 1
 ·omega
 ·rw [if_neg (by simpa using q)] at h; cases h
theorem stated_form {m : Nat} {x : M} (ht : x.Text.length ≤ 3000) (h : Jv (m + 1) x = some true) : SF x := by
 unfold SF
 by_cases q2 : x.Kind = 2
 ·exact .inl q2
 rw [Jv, if_neg (by simpa using q2)] at h
 by_cases q6 : x.Kind = 6
 ·rw [if_pos (by simpa using q6), printable_eq (by omega), Option.bind_some] at h
  simp only [Option.some.injEq, Bool.and_eq_true, decide_eq_true_eq] at h
  exact .inr (.inr (.inr (.inr (.inl ⟨q6, by omega, h.1⟩))))
 rw [if_neg (by simpa using q6)] at h
 by_cases q10 : x.Kind = 10
 ·rw [if_pos (by simpa using q10)] at h
  simp only [Option.some.injEq, Bool.and_eq_true, decide_eq_true_eq] at h
  exact .inr (.inr (.inr (.inr (.inr (.inr ⟨.inl q10, by omega⟩)))))
 rw [if_neg (by simpa using q10)] at h
 by_cases q11 : x.Kind = 11
 ·rw [if_pos (by simpa using q11)] at h
  simp only [Option.some.injEq, Bool.and_eq_true, decide_eq_true_eq] at h
  exact .inr (.inr (.inr (.inr (.inr (.inr ⟨.inr q11, by omega⟩)))))
 rw [if_neg (by simpa using q11)] at h
 by_cases q3 : x.Kind = 3
 ·rw [if_pos (by simpa using q3)] at h
  obtain ⟨b, hb, h⟩ := bnd h
  cases b with
  | false => rw [if_pos (by simp)] at h; cases h
  | true => rw [if_neg (by simp)] at h; exact .inr (.inl ⟨q3, one_len h⟩)
 rw [if_neg (by simpa using q3)] at h
 by_cases q4 : x.Kind = 4
 ·rw [if_pos (by simpa using q4)] at h
  cases q : (decide (x.Text ≠ ([112, 97, 116, 104] : Str)) && decide (x.Text ≠ ([113, 117, 101, 114, 121] : Str))) with
  | true => rw [q, if_pos rfl] at h; cases h
  | false =>
   rw [q, if_neg (by simp)] at h
   refine .inr (.inr (.inl ⟨q4, one_len h, ?_⟩))
   simp only [Bool.and_eq_false_iff, decide_eq_false_iff_not, ne_eq, Classical.not_not] at q
   exact q
 rw [if_neg (by simpa using q4)] at h
 by_cases q5 : x.Kind = 5
 ·rw [if_pos (by simpa using q5), printable_eq (by omega), Option.bind_some] at h
  cases q : prt x.Text with
  | false => rw [q, if_pos (by simp)] at h; cases h
  | true => rw [q, if_neg (by simp)] at h; exact .inr (.inr (.inr (.inl ⟨q5, one_len h, rfl⟩)))
 rw [if_neg (by simpa using q5)] at h
 by_cases q7 : x.Kind = 7
 ·rw [if_pos (by simpa using q7)] at h
  split at h
  ·cases h
  ·exact .inr (.inr (.inr (.inr (.inr (.inl ⟨.inl q7, one_len h⟩)))))
 rw [if_neg (by simpa using q7)] at h
 by_cases q8 : x.Kind = 8
 ·rw [if_pos (by simpa using q8)] at h
  split at h
  ·cases h
  ·exact .inr (.inr (.inr (.inr (.inr (.inl ⟨.inr (.inl q8), one_len h⟩)))))
 rw [if_neg (by simpa using q8)] at h
 by_cases q9 : x.Kind = 9
 ·rw [if_pos (by simpa using q9)] at h
  split at h
  ·cases h
  ·exact .inr (.inr (.inr (.inr (.inr (.inl ⟨.inr (.inr q9), one_len h⟩)))))
 rw [if_neg (by simpa using q9)] at h
 cases h
def isJ (i : I) : Bool := decide (i.Op = 9) || decide (i.Op = 10)
def Bd (b : Nat) (l : List I) : Prop := ∀ i ∈ l, isJ i = true → (b : Int) ≤ i.N ∧ i.N ≤ b + l.length
theorem Bd.append {b : Nat} {l k : List I} (h1 : Bd b l) (h2 : Bd (b + l.length) k) : Bd b (l ++ k) := fun i hi hj => by
 rw [List.length_append]
 rcases List.mem_append.1 hi with h | h
 ·have := h1 i h hj; omega
 ·have := h2 i h hj; omega
theorem Bd.nil (b : Nat) : Bd b [] := fun i hi _ => by cases hi
theorem Bd.one {b : Nat} {i : I} (h : isJ i = false) : Bd b [i] := fun j hj hx => by
 rw [List.mem_singleton.1 hj, h] at hx; cases hx
theorem Bd.no {b : Nat} {l : List I} (h : l.all (fun i => !isJ i) = true) : Bd b l := fun i hi hj => by
 have := List.all_eq_true.1 h i hi
 rw [hj] at this; cases this
theorem Bd.jump {b t : Nat} {o : Int} {l : List I} (h : Bd (b + 1) l) (h1 : b ≤ t) (h2 : t ≤ b + 1 + l.length) : Bd b (⟨o, (t : Int), []⟩ :: l) := fun i hi hj => by
 rw [List.length_cons]
 rcases List.mem_cons.1 hi with rfl | hi
 ·simp only; omega
 ·have := h i hi hj; omega
end Rt.Rc
set_option linter.unusedVariables false
set_option linter.unusedSimpArgs false
open Go Go.SL Go.Proofs Pl
namespace Rt.Rc
abbrev I2 := Jx
def cv (i : I) : I2 := ⟨i.Op, i.N, i.S⟩
def InV (vis : List Int) (names : List Str) : Prop := ∀ i ∈ vis, 0 ≤ i ∧ i < names.length
structure Cov (ρ : Env) (σ : Sg) : Prop where
 known : ∀ s, ρ s ≠ 0 → pre s = false → (σ s).isSome = true
 fixed : ∀ s, pre s = true → σ s = none ∧ ρ s ≠ 0
theorem Cov.let {ρ : Env} {σ : Sg} (h : Cov ρ σ) {s : Str} (hs : ρ s = 0) (t k : Int) : Cov (ext ρ s t) (upd σ s k) := by
 have hp : pre s = false := by
  cases q : pre s with
  | false => rfl
  | true => exact absurd hs (h.fixed s q).2
 refine ⟨fun q hq hn => ?_, fun q hq => ?_⟩
 ·unfold upd
  by_cases e : s = q
  ·rw [if_pos e]; rfl
  ·rw [if_neg e]
   refine h.known q ?_ hn
   unfold ext at hq
   rw [if_neg e] at hq
   exact hq
 ·have e : s ≠ q := fun e => by rw [e, hq] at hp; cases hp
  unfold upd ext
  rw [if_neg e, if_neg e]
  exact h.fixed q hq
end Rt.Rc
set_option linter.unusedVariables false
set_option linter.unusedSimpArgs false
open Go Go.SL Go.Proofs Pl
namespace Rt.Rc
theorem InV.more {vis : List Int} {names : List Str} (hv : InV vis names) (more : List Str) : InV vis (names ++ more) := fun i hi => by
 have := hv i hi
 rw [List.length_append]; omega
theorem InV.let {vis : List Int} {names : List Str} (hv : InV vis names) (s : Str) : InV (vis ++ [(names.length : Int)]) (names ++ [s]) := fun i hi => by
 rw [List.length_append, List.length_singleton]
 rcases List.mem_append.1 hi with h | h
 ·have := hv i h; omega
 ·rw [List.mem_singleton.1 h]; omega
end Rt.Rc
set_option linter.unusedVariables false
set_option linter.unusedSimpArgs false
open Go Go.SL Go.Proofs Pl
namespace Rt.Rc
theorem small_cnt_L0 {e : Int} {f : M → Int → Int → Option (Bool × Int)} {d : Nat} (hf : ∀ k z m, f k z (e - 1) = some (true, m) → m + cnt d k ≤ z ∧ 0 ≤ m) : ∀ (l : List M) (i : Nat) (y : Int) (r : Fl (Bool × Int) Int), Jam e f l i y = some r → (∀ m, r = Fl.go m → m + cntL d l ≤ y ∧ (0 ≤ y → 0 ≤ m)) ∧ ∀ z, r = Fl.ret z → z.1 = false
 | [], i, y, r, h => by
  cases h
  exact ⟨fun m e => by cases e; simp [cntL], fun z e => by cases e⟩
 | k :: l, i, y, r, h => by
  rw [Jam] at h
  obtain ⟨_, h⟩ := chkb h
  obtain ⟨x, hx, h⟩ := bnd h
  obtain ⟨b, m⟩ := x
  cases b with
  | false =>
   rw [if_pos (by simp)] at h
   cases h
   exact ⟨fun m e => (by cases e), fun z e => by cases e; rfl⟩
  | true =>
   rw [if_neg (by simp)] at h
   obtain ⟨h1, h2⟩ := hf k y m hx
   obtain ⟨g1, g2⟩ := small_cnt_L0 hf l (i + 1) m r h
   refine ⟨fun m' e => ?_, g2⟩
   obtain ⟨a1, a2⟩ := g1 m' e
   rw [cntL_cons]
   exact ⟨by omega, fun _ => a2 h2⟩
theorem small_cnt : ∀ (n d : Nat) (x : M) (z e m : Int), Jar n x z e = some (true, m) → m + cnt d x ≤ z ∧ 0 ≤ m
 | 0, d, x, z, e, m, h => by rw [Jar] at h; cases h
 | n + 1, d, x, z, e, m, h => by
  rw [Jar] at h
  obtain ⟨_, h⟩ := chkb h
  split at h
  ·cases h
  ·rename_i hq
   simp only [Bool.or_eq_true, decide_eq_true_eq, not_or] at hq
   obtain ⟨_, h⟩ := chkb h
   obtain ⟨r, hr, h⟩ := bnd h
   have key : ∀ d', (∀ m, r = Fl.go m → m + cntL d' x.Kids ≤ z - 1 ∧ (0 ≤ z - 1 → 0 ≤ m)) ∧ ∀ z, r = Fl.ret z → z.1 = false := fun d' => small_cnt_L0 (d := d') (fun k z m hk => small_cnt n d' k z _ m hk) x.Kids 0 (z - 1) r hr
   cases r with
   | ret q =>
    rw [el_ret] at h
    have := (key 0).2 q rfl
    cases h
    cases this
   | go q =>
    rw [el_go] at h
    cases h
    cases d with
    | zero =>
     have h0 := (key 0).1 m rfl
     have hc : cnt 0 x = 0 := rfl
     rw [hc]
     have : (0 : Int) ≤ cntL 0 x.Kids := by omega
     exact ⟨by omega, h0.2 (by omega)⟩
    | succ d =>
     have h1 := (key d).1 m rfl
     rw [cnt_eq]
     exact ⟨by omega, h1.2 (by omega)⟩
theorem Valid_small {n : Nat} {x : M} (h : J9 n x = some true) (d : Nat) : cnt d x ≤ 512 := by
 unfold J9 at h
 split at h
 ·cases h
 ·obtain ⟨s, hs, h⟩ := bnd h
  obtain ⟨b, m⟩ := s
  cases b with
  | false => rw [if_pos (by simp)] at h; cases h
  | true =>
   have := small_cnt n d x 512 32 m hs
   omega
def NL : Nat → M → Prop
 | 0, _ => True
 | d + 1, x => x.Kind ≠ 3 ∧ ∀ k ∈ x.Kids, NL d k
theorem NL.kid {x k : M} (h : ∀ e, NL e x) (hk : k ∈ x.Kids) : ∀ e, NL e k := fun e => (h (e + 1)).2 k hk
theorem Cvd.func' : ∀ {d : Nat} {x : N} {y z : M}, Cvd d x y → Cvd d x z → y = z := fun h k => Rt.Cvd.func h k
def nlt : Nat → M → Nat
 | 0, _ => 0
 | d + 1, x => (if x.Kind = 3 then 1 else 0) + (x.Kids.map (nlt d)).sum
def nltL (d : Nat) (l : List M) : Nat := (l.map (nlt d)).sum
theorem nltL_cons (d : Nat) (x : M) (l : List M) : nltL d (x :: l) = nlt d x + nltL d l := by simp [nltL]
theorem nlt_eq (d : Nat) (x : M) : nlt (d + 1) x = (if x.Kind = 3 then 1 else 0) + nltL d x.Kids := rfl
theorem nltL_le {d : Nat} : ∀ (l : List M), (∀ k ∈ l, nlt d k ≤ cnt d k) → nltL d l ≤ cntL d l
 | [], _ => by simp [nltL, cntL]
 | k :: l, h => by
  have := nltL_le l fun q hq => h q (by simp [hq])
  have h1 := h k (by simp)
  rw [nltL_cons, cntL_cons]; omega
theorem nlt_le : ∀ (d : Nat) (x : M), nlt d x ≤ cnt d x
 | 0, _ => Nat.le_refl _
 | d + 1, x => by
  have := nltL_le (d := d) x.Kids fun k _ => nlt_le d k
  rw [nlt_eq, cnt_eq]
  split <;> omega
theorem lets_L0 {f : N → Option Int} {d : Nat} : ∀ {l : List N} {k : List M}, A2 (Cvd d) l k → ∀ (i : Nat) (y : Int), (∀ a b, a ∈ l → Cvd d a b → f a = some (nlt d b : Int)) → 0 ≤ y → y + cntL d k ≤ 1000000 → Jab f l i y = some (y + nltL d k) := fun h => by
 induction h with
 | nil => intro i y _ _ _; simp [Jab, nltL]
 | @cons a b l k hab _ ih =>
  intro i y hf h0 hb
  rw [cntL_cons] at hb
  have := nlt_le d b
  rw [Jab, hf _ _ (by simp) hab, Option.bind_some, chk_bind (by constructor <;> omega), ih (i + 1) _ (fun a b ha hc => hf a b (by simp [ha]) hc) (by omega) (by omega), nltL_cons]
  congr 1
  omega
theorem lets_eq : ∀ (d n : Nat) (x : N) (y : M), OkN d x → Cvd d x y → d + 1 ≤ n → cnt d y ≤ 100000 → JaH n x = some (nlt d y : Int)
 | 0, _, _, _, h, _, _, _ => h.elim
 | d + 1, 0, _, _, _, _, hn, _ => by omega
 | d + 1, n + 1, x, y, ⟨h1, h2, h3⟩, ⟨c1, c2, c3, c4⟩, hn, hc => by
  rw [cnt_eq] at hc
  have hk : ∀ a b, a ∈ x.Kids → Cvd d a b → JaH n a = some (nlt d b : Int) := fun a b ha hab => by
   have hb : b ∈ y.Kids := by
    have : ∀ {l : List N} {k : List M}, A2 (Cvd d) l k → a ∈ l → ∃ b' ∈ k, Cvd d a b' := fun h => by
     induction h with
     | nil => intro h; cases h
     | cons hxy _ ih =>
      intro h
      rcases List.mem_cons.1 h with rfl | h
      ·exact ⟨_, by simp, hxy⟩
      ·obtain ⟨b', m1, m2⟩ := ih h
       exact ⟨b', by simp [m1], m2⟩
    obtain ⟨b', m1, m2⟩ := this c4 ha
    rw [Cvd.func' hab m2]
    exact m1
   have := cnt_mem (d := d) hb
   exact lets_eq d n a b (h3 a ha) hab (by omega) (by omega)
  rw [JaH, ← c1, nlt_eq]
  by_cases q : y.Kind = 3
  ·rw [if_pos (by simpa using q), chk_bind (by simp only [szMax]; omega), lets_L0 c4 0 1 hk (by omega) (by omega), Option.bind_some, if_pos q]
   simp
  ·rw [if_neg (by simpa using q), chk_bind (by simp only [szMax]; omega), lets_L0 c4 0 0 hk (by omega) (by omega), Option.bind_some, if_neg q]
   simp
theorem lets_top {n : Nat} {x : N} {y : M} (h : OkN 40 x) (hc : Cvd 40 x y) (hn : 41 ≤ n) (hcn : cntN 40 x ≤ 700) : JaH n x = some (nlt 40 y : Int) :=
 lets_eq 40 n x y h hc hn (by rw [hc.cnt]; omega)
theorem NL.up : ∀ {d : Nat} {x : M}, Ok d x → NL d x → ∀ e, NL e x
 | 0, _, h, _, _ => h.elim
 | d + 1, x, _, _, 0 => trivial
 | d + 1, x, h, hn, e + 1 => ⟨hn.1, fun k hk => (NL.up (h.2.2 k hk) (hn.2 k hk)) e⟩
end Rt.Rc
set_option linter.unusedVariables false
set_option linter.unusedSimpArgs false
open Go Go.SL Go.Proofs Pl
namespace Rt.Rc
abbrev S8 := JK
abbrev PS := Je
def wl (W : S8) : List Int := [W.f0, W.f1, W.f2, W.f3, W.f4, W.f5, W.f6, W.f7]
def W64 (x : Int) : Prop := 0 ≤ x ∧ x < 18446744073709551616
def WOK (W : S8) : Prop := W64 W.f0 ∧ W64 W.f1 ∧ W64 W.f2 ∧ W64 W.f3 ∧ W64 W.f4 ∧ W64 W.f5 ∧ W64 W.f6 ∧ W64 W.f7
def bitW (W : S8) (n : Int) : Bool := ((wl W).getD (n.toNat / 64) 0).toNat.testBit (n.toNat % 64)
theorem ofInt_nat {x : Int} (h : W64 x) : (BitVec.ofInt 64 x).toNat = x.toNat := by
 obtain ⟨h0, h1⟩ := h
 rw [BitVec.toNat_ofInt]
 rw [Int.emod_eq_of_lt h0 (by simpa using h1)]
theorem w64n {n : Nat} (h : n < 18446744073709551616) : W64 (n : Int) := ⟨by omega, by omega⟩
theorem u64and_eq {x y : Int} (hx : W64 x) (hy : W64 y) : u64and x y = ((x.toNat &&& y.toNat : Nat) : Int) := by
 unfold u64and
 rw [BitVec.toNat_and, ofInt_nat hx, ofInt_nat hy]
theorem u64or_eq {x y : Int} (hx : W64 x) (hy : W64 y) : u64or x y = ((x.toNat ||| y.toNat : Nat) : Int) := by
 unfold u64or
 rw [BitVec.toNat_or, ofInt_nat hx, ofInt_nat hy]
theorem u64and_ok {x y : Int} (hx : W64 x) (hy : W64 y) : W64 (u64and x y) := by
 rw [u64and_eq hx hy]
 obtain ⟨h0, h1⟩ := hx
 have : x.toNat &&& y.toNat ≤ x.toNat := Nat.and_le_left
 exact ⟨by omega, by omega⟩
theorem u64or_ok {x y : Int} : W64 (u64or x y) := by
 unfold u64or
 have := (BitVec.ofInt 64 x ||| BitVec.ofInt 64 y).isLt
 exact ⟨by omega, by omega⟩
theorem shl_ok {k : Nat} (h : k < 64) : u64shl 1 (k : Int) = ((2 ^ k : Nat) : Int) := by
 have : ∀ k : Nat, k < 64 → u64shl 1 (k : Int) = ((2 ^ k : Nat) : Int) := by decide
 exact this k h
theorem pow_lt {k : Nat} (h : k < 64) : W64 ((2 ^ k : Nat) : Int) := by
 have : ∀ k : Nat, k < 64 → (2 ^ k : Nat) < 18446744073709551616 := by decide
 exact w64n (this k h)
theorem shr_eq {x : Int} (hx : W64 x) {k : Nat} (h : k < 64) : u64shr x (k : Int) = ((x.toNat >>> k : Nat) : Int) := by
 unfold u64shr
 rw [Int.toNat_natCast, Nat.min_eq_left (by omega), Nat.shiftRight_eq_div_pow]
 obtain ⟨h0, h1⟩ := hx
 have e : x = (x.toNat : Int) := by omega
 have e2 : ((2 : Int) ^ k) = ((2 ^ k : Nat) : Int) := by simp
 rw [e2]
 conv => lhs; rw [e]
 rw [Int.fdiv_eq_ediv_of_nonneg _ (Int.natCast_nonneg _)]
 exact (Int.natCast_ediv _ _).symm
theorem bit_eq {x : Int} (hx : W64 x) {k : Nat} (h : k < 64) : decide (u64and (u64shr x (k : Int)) 1 = 1) = x.toNat.testBit k := by
 have h2 : W64 (u64shr x (k : Int)) := by
  rw [shr_eq hx h]
  obtain ⟨h0, h1⟩ := hx
  have : x.toNat >>> k ≤ x.toNat := by rw [Nat.shiftRight_eq_div_pow]; exact Nat.div_le_self _ _
  refine w64n (Nat.lt_of_le_of_lt this ?_)
  omega
 have e : (u64and (u64shr x (k : Int)) 1 = 1) ↔ (x.toNat >>> k) % 2 = 1 := by
  rw [u64and_eq h2 ⟨by decide, by decide⟩, shr_eq hx h, Int.toNat_natCast, show ((1 : Int)).toNat = 1 from rfl, Nat.and_one_is_mod]
  generalize (x.toNat >>> k) % 2 = q
  omega
 rw [show decide (u64and (u64shr x (k : Int)) 1 = 1) = decide ((x.toNat >>> k) % 2 = 1) from decide_eq_decide.2 e, Nat.testBit, Nat.and_comm, Nat.and_one_is_mod]
 have : (x.toNat >>> k) % 2 < 2 := Nat.mod_lt _ (by omega)
 rcases (show (x.toNat >>> k) % 2 = 0 ∨ (x.toNat >>> k) % 2 = 1 by omega) with e | e <;> simp [e]
theorem wl_ok {W : S8} (h : WOK W) (i : Nat) : W64 ((wl W).getD i 0) := by
 obtain ⟨h0, h1, h2, h3, h4, h5, h6, h7⟩ := h
 have hz : W64 0 := ⟨by decide, by decide⟩
 match i with
 | 0 => exact h0
 | 1 => exact h1
 | 2 => exact h2
 | 3 => exact h3
 | 4 => exact h4
 | 5 => exact h5
 | 6 => exact h6
 | 7 => exact h7
 | i + 8 => simpa [wl] using hz
theorem has_eq {s : PS} {n : Int} (h : WOK s.stored) (h0 : 0 ≤ n) (h1 : n ≤ 511) : Jay s n = some (bitW s.stored n) := by
 obtain ⟨k, rfl⟩ : ∃ k : Nat, n = (k : Int) := ⟨n.toNat, by omega⟩
 have e1 : Int.tdiv (k : Int) 64 = ((k / 64 : Nat) : Int) := by rw [Int.tdiv_eq_ediv_of_nonneg h0]; omega
 have e2 : Int.tmod (k : Int) 64 = ((k % 64 : Nat) : Int) := by rw [Int.tmod_eq_emod_of_nonneg h0]; omega
 have hk : k / 64 < 8 := by omega
 unfold Jay
 rw [e1, e2, chk_bind ⟨by decide, by omega, by omega⟩, chk_bind (by omega), chk_bind (by omega)]
 rw [Int.toNat_natCast]
 have := bit_eq (wl_ok h (k / 64)) (k := k % 64) (by omega)
 unfold bitW
 rw [Int.toNat_natCast, ← this]
 rfl
def andW (A B : S8) : S8 := ⟨u64and A.f0 B.f0, u64and A.f1 B.f1, u64and A.f2 B.f2, u64and A.f3 B.f3, u64and A.f4 B.f4, u64and A.f5 B.f5, u64and A.f6 B.f6, u64and A.f7 B.f7⟩
theorem andW_ok {A B : S8} (hA : WOK A) (hB : WOK B) : WOK (andW A B) := by
 obtain ⟨a0, a1, a2, a3, a4, a5, a6, a7⟩ := hA
 obtain ⟨b0, b1, b2, b3, b4, b5, b6, b7⟩ := hB
 exact ⟨u64and_ok a0 b0, u64and_ok a1 b1, u64and_ok a2 b2, u64and_ok a3 b3, u64and_ok a4 b4, u64and_ok a5 b5, u64and_ok a6 b6, u64and_ok a7 b7⟩
theorem andW_wl {A B : S8} (i : Nat) : (wl (andW A B)).getD i 0 = if i < 8 then u64and ((wl A).getD i 0) ((wl B).getD i 0) else 0 := by
 match i with
 | 0 | 1 | 2 | 3 | 4 | 5 | 6 | 7 => rfl
 | i + 8 => rw [if_neg (by omega)]; simp [wl]
theorem andW_bit {A B : S8} (hA : WOK A) (hB : WOK B) {n : Int} (h0 : 0 ≤ n) (h1 : n ≤ 511) : bitW (andW A B) n = (bitW A n && bitW B n) := by
 unfold bitW
 rw [andW_wl, if_pos (by omega), u64and_eq (wl_ok hA _) (wl_ok hB _), Int.toNat_natCast, Nat.testBit_and]
theorem jstep0 {l : List PS} {k n : Nat} {e t : PS} (h : l[k]? = some e) : Jl k t (n + 1) 0 l = Jl k t n 1 (l.set k ⟨e.reached, e.depth, ⟨u64and e.stored.f0 t.stored.f0, e.stored.f1, e.stored.f2, e.stored.f3, e.stored.f4, e.stored.f5, e.stored.f6, e.stored.f7⟩⟩) := by
 rw [Jl, chk_bind (by decide), h, Option.bind_some, chk_bind (by decide), chk_bind (by decide), Option.bind_some]
 rfl
theorem jstep1 {l : List PS} {k n : Nat} {e t : PS} (h : l[k]? = some e) : Jl k t (n + 1) 1 l = Jl k t n 2 (l.set k ⟨e.reached, e.depth, ⟨e.stored.f0, u64and e.stored.f1 t.stored.f1, e.stored.f2, e.stored.f3, e.stored.f4, e.stored.f5, e.stored.f6, e.stored.f7⟩⟩) := by
 rw [Jl, chk_bind (by decide), h, Option.bind_some, chk_bind (by decide), chk_bind (by decide), Option.bind_some]
 rfl
theorem jstep2 {l : List PS} {k n : Nat} {e t : PS} (h : l[k]? = some e) : Jl k t (n + 1) 2 l = Jl k t n 3 (l.set k ⟨e.reached, e.depth, ⟨e.stored.f0, e.stored.f1, u64and e.stored.f2 t.stored.f2, e.stored.f3, e.stored.f4, e.stored.f5, e.stored.f6, e.stored.f7⟩⟩) := by
 rw [Jl, chk_bind (by decide), h, Option.bind_some, chk_bind (by decide), chk_bind (by decide), Option.bind_some]
 rfl
theorem jstep3 {l : List PS} {k n : Nat} {e t : PS} (h : l[k]? = some e) : Jl k t (n + 1) 3 l = Jl k t n 4 (l.set k ⟨e.reached, e.depth, ⟨e.stored.f0, e.stored.f1, e.stored.f2, u64and e.stored.f3 t.stored.f3, e.stored.f4, e.stored.f5, e.stored.f6, e.stored.f7⟩⟩) := by
 rw [Jl, chk_bind (by decide), h, Option.bind_some, chk_bind (by decide), chk_bind (by decide), Option.bind_some]
 rfl
theorem jstep4 {l : List PS} {k n : Nat} {e t : PS} (h : l[k]? = some e) : Jl k t (n + 1) 4 l = Jl k t n 5 (l.set k ⟨e.reached, e.depth, ⟨e.stored.f0, e.stored.f1, e.stored.f2, e.stored.f3, u64and e.stored.f4 t.stored.f4, e.stored.f5, e.stored.f6, e.stored.f7⟩⟩) := by
 rw [Jl, chk_bind (by decide), h, Option.bind_some, chk_bind (by decide), chk_bind (by decide), Option.bind_some]
 rfl
theorem jstep5 {l : List PS} {k n : Nat} {e t : PS} (h : l[k]? = some e) : Jl k t (n + 1) 5 l = Jl k t n 6 (l.set k ⟨e.reached, e.depth, ⟨e.stored.f0, e.stored.f1, e.stored.f2, e.stored.f3, e.stored.f4, u64and e.stored.f5 t.stored.f5, e.stored.f6, e.stored.f7⟩⟩) := by
 rw [Jl, chk_bind (by decide), h, Option.bind_some, chk_bind (by decide), chk_bind (by decide), Option.bind_some]
 rfl
theorem jstep6 {l : List PS} {k n : Nat} {e t : PS} (h : l[k]? = some e) : Jl k t (n + 1) 6 l = Jl k t n 7 (l.set k ⟨e.reached, e.depth, ⟨e.stored.f0, e.stored.f1, e.stored.f2, e.stored.f3, e.stored.f4, e.stored.f5, u64and e.stored.f6 t.stored.f6, e.stored.f7⟩⟩) := by
 rw [Jl, chk_bind (by decide), h, Option.bind_some, chk_bind (by decide), chk_bind (by decide), Option.bind_some]
 rfl
theorem jstep7 {l : List PS} {k n : Nat} {e t : PS} (h : l[k]? = some e) : Jl k t (n + 1) 7 l = Jl k t n 8 (l.set k ⟨e.reached, e.depth, ⟨e.stored.f0, e.stored.f1, e.stored.f2, e.stored.f3, e.stored.f4, e.stored.f5, e.stored.f6, u64and e.stored.f7 t.stored.f7⟩⟩) := by
 rw [Jl, chk_bind (by decide), h, Option.bind_some, chk_bind (by decide), chk_bind (by decide), Option.bind_some]
 rfl
theorem jel {l : List PS} {k : Nat} {s t : PS} (h : l[k]? = some s) : Jl k t 8 0 l = some (l.set k ⟨s.reached, s.depth, andW s.stored t.stored⟩) := by
 have hk : k < l.length := (List.getElem?_eq_some_iff.1 h).1
 have hs : ∀ z : PS, (l.set k z)[k]? = some z := fun z => by simp [hk]
 rw [jstep0 h, jstep1 (hs _), List.set_set, jstep2 (hs _), List.set_set, jstep3 (hs _), List.set_set, jstep4 (hs _), List.set_set, jstep5 (hs _), List.set_set, jstep6 (hs _), List.set_set, jstep7 (hs _), List.set_set, Jl]
 rfl
def orW (W : S8) (k : Nat) : S8 :=
 let m := (wl W).set (k / 64) (u64or ((wl W).getD (k / 64) 0) (u64shl 1 ((k % 64 : Nat) : Int)))
 ⟨m.getD 0 0, m.getD 1 0, m.getD 2 0, m.getD 3 0, m.getD 4 0, m.getD 5 0, m.getD 6 0, m.getD 7 0⟩
theorem orW_wl {W : S8} {k i : Nat} (hk : k < 512) (hi : i < 8) : (wl (orW W k)).getD i 0 = if i = k / 64 then u64or ((wl W).getD (k / 64) 0) (u64shl 1 ((k % 64 : Nat) : Int)) else (wl W).getD i 0 := by
 have hl : (wl W).length = 8 := rfl
 have key : (wl (orW W k)).getD i 0 = ((wl W).set (k / 64) (u64or ((wl W).getD (k / 64) 0) (u64shl 1 ((k % 64 : Nat) : Int)))).getD i 0 := by
  match i, hi with
  | 0, _ | 1, _ | 2, _ | 3, _ | 4, _ | 5, _ | 6, _ | 7, _ => rfl
  | i + 8, h => omega
 rw [key, List.getD_eq_getElem?_getD, List.getElem?_set]
 by_cases q : k / 64 = i
 ·rw [if_pos q, if_pos (by omega), if_pos q.symm]; rfl
 ·rw [if_neg q, if_neg (by omega), ← List.getD_eq_getElem?_getD]
theorem orW_ok {W : S8} (h : WOK W) {k : Nat} (hk : k < 512) : WOK (orW W k) := by
 have key : ∀ i, i < 8 → W64 ((wl (orW W k)).getD i 0) := fun i hi => by
  rw [orW_wl hk hi]
  split
  ·exact u64or_ok
  ·exact wl_ok h i
 exact ⟨key 0 (by omega), key 1 (by omega), key 2 (by omega), key 3 (by omega), key 4 (by omega), key 5 (by omega), key 6 (by omega), key 7 (by omega)⟩
theorem orW_bit {W : S8} (h : WOK W) {k : Nat} (hk : k < 512) {n : Int} (h0 : 0 ≤ n) (h1 : n ≤ 511) : bitW (orW W k) n = (decide (n = (k : Int)) || bitW W n) := by
 unfold bitW
 rw [orW_wl hk (by omega)]
 by_cases q : n.toNat / 64 = k / 64
 ·rw [if_pos q, shl_ok (by omega), u64or_eq (wl_ok h _) (pow_lt (by omega)), Int.toNat_natCast, Int.toNat_natCast, Nat.testBit_or, Nat.testBit_two_pow, q, Bool.or_comm]
  congr 1
  rw [decide_eq_decide]
  omega
 ·rw [if_neg q, decide_eq_false (by omega), Bool.false_or]
end Rt.Rc
set_option linter.unusedVariables false
set_option linter.unusedSimpArgs false
open Go Go.SL Go.Proofs Pl
namespace Rt.Rc
def acts1 : List Str := [[112, 97, 116, 104], [113, 117, 101, 114, 121], [116, 97, 103], [116, 116, 108], [100, 101, 110, 121]]
def acts0 : List Str := [[112, 97, 115, 115], [116, 111, 107, 101, 110]]
def sHeader : Str := [104, 101, 97, 100, 101, 114, 58]
def sVary : Str := [118, 97, 114, 121, 58]
def hp (s p : Str) : Bool := decide (s.length ≥ p.length) && decide (s.take p.length = p)
def actK (s : Str) : Option Int :=
 if s ∈ acts1 then some 1 else if s ∈ acts0 then some 0 else if hp s sHeader = true then (if prt s = true then some 1 else none) else if (hp s sVary && prt s) = true then some 0 else none
def eff (x : I) : Option (Int × Int) :=
 if x.Op = 1 then (if x.S = [] ∧ 0 ≤ x.N ∧ x.N ≤ 999999999 then some (0, 1) else none)
 else if x.Op = 2 then (if x.N = 0 ∧ prt x.S = true then some (0, 1) else none)
 else if x.Op = 3 then (if x.S = [] ∧ 0 ≤ x.N ∧ x.N ≤ 511 then some (0, 1) else none)
 else if x.Op = 4 then (if x.S = [] ∧ 0 ≤ x.N ∧ x.N ≤ 511 then some (1, 0) else none)
 else if x.Op = 5 then (if x.N = 0 ∧ x.S ∈ Jt then some (0, 1) else none)
 else if x.Op = 6 then (if x.N = 0 ∧ x.S ∈ Jz then some (1, 1) else none)
 else if x.Op = 7 then (if x.N = 0 ∧ x.S ∈ JE then some (2, 1) else none)
 else if x.Op = 8 then (if x.N = 0 ∧ x.S = [] then some (1, 1) else none)
 else if x.Op = 9 then (if x.S = [] then some (0, 0) else none)
 else if x.Op = 10 then (if x.S = [] then some (1, 0) else none)
 else if x.Op = 11 then (if x.N = 0 then (actK x.S).map fun t => (t, 0) else none)
 else if x.Op = 12 then (if x.N = 0 ∧ x.S = [] then some (0, 0) else none)
 else none
def Ef (x : I) (r : Option (Int × Int × Bool)) : Prop := ∃ t l, r = some (t, l, (eff x).isSome) ∧ ∀ a b, eff x = some (a, b) → t = a ∧ l = b
theorem Ef.mk' {x : I} {t l : Int} {b : Bool} {c : Prop} [Decidable c] (he : eff x = if c then some (t, l) else none) (hb : b = decide c) : Ef x (some (t, l, b)) := by
 refine ⟨t, l, ?_, fun a b h => ?_⟩
 ·rw [he, hb]
  by_cases q : c
  ·simp [q]
  ·simp [q]
 ·rw [he] at h
  split at h <;> cases h
  exact ⟨rfl, rfl⟩
theorem rprint {s : Str} (h : s.length ≤ 100000) : Jah s = some (prt s) := by
 obtain ⟨r, hr, g1, g2⟩ := quote_L0_eq s 0 [34] (by simp <;> omega)
 unfold Jah Ja7
 rw [chk_bind (by simp only [szMax]; omega), hr, Option.bind_some]
 cases q : prt s with
 | false => rw [g2 q, el_ret]; rfl
 | true =>
  obtain ⟨z, rfl, hz⟩ := g1 q
  rw [el_go, chk_bind (by simp only [lim, List.length_cons, List.length_nil]; omega)]; rfl
theorem prt2_L0 : ∀ (s : Str) (i : Nat), J8 s i = some (if prt s = true then Fl.go () else Fl.ret false)
 | [], i => by simp [J8, prt]
 | c :: s, i => by
  rw [J8, prt_cond, Option.bind_some, prt_cons]
  cases q : (decide ((c.toNat : Int) < 32) || decide ((c.toNat : Int) > 126)) with
  | true => rw [if_pos rfl]; rfl
  | false => rw [if_neg (by simp), prt2_L0 s (i + 1)]; rfl
theorem prt2_eq {s : Str} (h : s.length ≤ 100000) : JaO s = some (prt s) := by
 unfold JaO
 rw [chk_bind (by simp only [szMax]; omega), prt2_L0, Option.bind_some]
 cases prt s <;> rfl
theorem cont_L0 (v : Str) : ∀ (l : List Str) (i : Nat), ∃ r, J0 v l i = some r ∧ (v ∈ l → ∃ j : Nat, r = Fl.ret (j : Int)) ∧ (v ∉ l → r = Fl.go ())
 | [], i => ⟨_, rfl, fun h => (by cases h), fun _ => rfl⟩
 | a :: l, i => by
  rw [J0]
  by_cases q : v = a
  ·rw [if_pos (by simpa using q)]
   exact ⟨_, rfl, fun _ => ⟨i, rfl⟩, fun h => absurd (by simp [q]) h⟩
  ·rw [if_neg (by simpa using q)]
   obtain ⟨r, hr, h1, h2⟩ := cont_L0 v l (i + 1)
   exact ⟨r, hr, fun h => h1 (by simpa [q] using h), fun h => h2 (by simpa [q] using h)⟩
theorem cont_eq {l : List Str} {v : Str} (h : l.length ≤ 1000) : JU l v = some (decide (v ∈ l)) := by
 unfold JU JaU
 obtain ⟨r, hr, h1, h2⟩ := cont_L0 v l 0
 rw [chk_bind (by simp only [szMax]; omega), hr, Option.bind_some]
 by_cases q : v ∈ l
 ·obtain ⟨j, rfl⟩ := h1 q
  rw [el_ret, Option.bind_some, decide_eq_true q, decide_eq_true (by omega)]
 ·rw [h2 q, el_go, Option.bind_some, decide_eq_false q]; rfl
theorem has_L0 (v : Str) : ∀ (l : List Str) (i : Nat), JaR v l i = some (if v ∈ l then Fl.ret true else Fl.go ())
 | [], i => by simp [JaR]
 | a :: l, i => by
  rw [JaR]
  by_cases q : a = v
  ·rw [if_pos (by simpa using q), if_pos (by simp [q])]
  ·rw [if_neg (by simpa using q), has_L0 v l (i + 1)]
   have : v ≠ a := fun h => q h.symm
   simp [this]
theorem has2_eq {l : List Str} {v : Str} (h : l.length ≤ 1000) : Jbd v l = some (decide (v ∈ l)) := by
 unfold Jbd
 rw [chk_bind (by simp only [szMax]; omega), has_L0, Option.bind_some]
 by_cases q : v ∈ l
 ·rw [if_pos q, el_ret, decide_eq_true q]
 ·rw [if_neg q, el_go, decide_eq_false q]
theorem sub0 (s : Str) (k : Nat) : subL s (0 : Int) (k : Int) = s.take k := by
 unfold subL
 simp
theorem hp_eq (s p : Str) : (decide ((s.length : Int) ≥ (p.length : Int)) && decide (subL s (0 : Int) (p.length : Int) = p)) = hp s p := by
 rw [sub0]
 unfold hp
 congr 1
 rw [decide_eq_decide]; omega
theorem hp_app {s p : Str} (h : hp s p = true) : s = p ++ s.drop p.length := by
 simp only [hp, Bool.and_eq_true, decide_eq_true_eq] at h
 conv => lhs; rw [← List.take_append_drop p.length s, h.2]
theorem prt_append (a b : Str) : prt (a ++ b) = (prt a && prt b) := by simp [prt]
theorem begins_eq {s p : Str} (h : s.length ≤ 100000) : JaS s p = some (hp s p && prt s) := by
 unfold JaS
 by_cases q : (s.length : Int) ≥ (p.length : Int)
 ·rw [if_pos (by simpa using q), chk_bind (by omega), Option.bind_some]
  have e : decide (subL s (0 : Int) (p.length : Int) = p) = hp s p := by rw [← hp_eq, decide_eq_true q, Bool.true_and]
  rw [e]
  cases hp s p with
  | true => rw [if_pos rfl, prt2_eq h, Option.bind_some, Option.bind_some, Bool.true_and]
  | false => rw [if_neg (by simp), Option.bind_some, Bool.false_and]
 ·rw [if_neg (by simpa using q), Option.bind_some, if_neg (by simp), Option.bind_some]
  have : hp s p = false := by rw [← hp_eq, decide_eq_false q, Bool.false_and]
  rw [this, Bool.false_and]
theorem cut_eq (s p : Str) : JaD s p = some (if hp s p = true then (s.drop p.length, true) else (s, false)) := by
 unfold JaD J7
 have h0 := prefix_ok s p
 unfold JaC at h0
 rw [hp_eq] at h0
 have h1 : JQ s p = some (hp s p) := by simpa using h0
 rw [h1, Option.bind_some]
 cases q : hp s p with
 | false => rw [if_pos (by simp), Option.bind_some, if_neg (by simp)]
 | true =>
  have hl : p.length ≤ s.length := by
   simp only [hp, Bool.and_eq_true, decide_eq_true_eq] at q
   exact q.1
  rw [if_neg (by simp), chk_bind (by omega), Option.bind_some, if_pos rfl]
  unfold subL
  rw [Int.toNat_natCast, List.take_of_length_le (by rw [List.length_drop]; omega)]
theorem act_pure {s : Str} (h : s.length ≤ 100000) : ∃ t b, Jbp s = some (t, b) ∧ b = (actK s).isSome ∧ ∀ k, actK s = some k → t = k := by
 have key : ∀ (t : Int) (b : Bool), (actK s = if b = true then some t else none) → b = (actK s).isSome ∧ ∀ k, actK s = some k → t = k := fun t b h => by
  rw [h]
  cases b with
  | true => exact ⟨rfl, fun k hk => by cases hk; rfl⟩
  | false => exact ⟨rfl, fun k hk => by cases hk⟩
 unfold Jbp
 by_cases q1 : s = [112, 97, 116, 104]
 ·subst q1; exact ⟨_, _, rfl, key _ _ (by decide)⟩
 rw [if_neg (by simpa using q1)]
 by_cases q2 : s = [113, 117, 101, 114, 121]
 ·subst q2; exact ⟨_, _, rfl, key _ _ (by decide)⟩
 rw [if_neg (by simpa using q2)]
 by_cases q3 : s = [116, 97, 103]
 ·subst q3; exact ⟨_, _, rfl, key _ _ (by decide)⟩
 rw [if_neg (by simpa using q3)]
 by_cases q4 : s = [116, 116, 108]
 ·subst q4; exact ⟨_, _, rfl, key _ _ (by decide)⟩
 rw [if_neg (by simpa using q4)]
 by_cases q5 : s = [100, 101, 110, 121]
 ·subst q5; exact ⟨_, _, rfl, key _ _ (by decide)⟩
 rw [if_neg (by simpa using q5)]
 by_cases q6 : s = [112, 97, 115, 115]
 ·subst q6; exact ⟨_, _, rfl, key _ _ (by decide)⟩
 rw [if_neg (by simpa using q6)]
 by_cases q7 : s = [116, 111, 107, 101, 110]
 ·subst q7; exact ⟨_, _, rfl, key _ _ (by decide)⟩
 rw [if_neg (by simpa using q7)]
 have n1 : s ∉ acts1 := by simp [acts1, q1, q2, q3, q4, q5]
 have n0 : s ∉ acts0 := by simp [acts0, q6, q7]
 have hd : ∀ p : Str, hp s p = true → prt p = true → prt (s.drop p.length) = prt s := fun p h hpp => by
  conv => rhs; rw [hp_app h]
  rw [prt_append, hpp, Bool.true_and]
 rw [show ([104, 101, 97, 100, 101, 114, 58] : Str) = sHeader from rfl, show ([118, 97, 114, 121, 58] : Str) = sVary from rfl, cut_eq, Option.bind_some]
 cases q8 : hp s sHeader with
 | true =>
  rw [if_pos rfl, if_pos rfl, rprint (by rw [List.length_drop]; omega), Option.bind_some, hd _ q8 (by decide)]
  exact ⟨_, _, rfl, key _ _ (by unfold actK; rw [if_neg n1, if_neg n0, if_pos q8])⟩
 | false =>
  rw [if_neg (by simp), cut_eq, Option.bind_some]
  cases q9 : hp s sVary with
  | true =>
   rw [if_pos rfl, if_pos rfl, rprint (by rw [List.length_drop]; omega), Option.bind_some, Option.bind_some, hd _ q9 (by decide)]
   exact ⟨_, _, rfl, key _ _ (by unfold actK; rw [if_neg n1, if_neg n0, if_neg (by simp [q8]), q9, Bool.true_and])⟩
  | false =>
   rw [if_neg (by simp), Option.bind_some]
   exact ⟨_, _, rfl, key _ _ (by unfold actK; rw [if_neg n1, if_neg n0, if_neg (by simp [q8]), q9, Bool.false_and])⟩
theorem ifb {c : Bool} {o : Option Bool} {v : Bool} (h : o = some v) : (if c = true then o.bind (fun x => some x) else some false) = some (c && v) := by
 cases c with
 | true => rw [if_pos rfl, h, Option.bind_some, Bool.true_and]
 | false => rw [if_neg (by simp), Bool.false_and]
theorem shape_pure {x : I} (h : x.S.length ≤ 100000) : Ef x (Jbc x) := by
 unfold Jbc
 by_cases q1 : x.Op = 1
 ·rw [if_pos (by simpa using q1)]; exact Ef.mk' (by unfold eff; rw [if_pos q1]) (by simp [Bool.and_assoc])
 by_cases q2 : x.Op = 2
 ·rw [if_neg (by simpa using q1), if_pos (by simpa using q2), ifb (rprint h), Option.bind_some]; exact Ef.mk' (by unfold eff; rw [if_neg q1, if_pos q2]) (by simp)
 by_cases q3 : x.Op = 3
 ·rw [if_neg (by simpa using q1), if_neg (by simpa using q2), if_pos (by simpa using q3)]; exact Ef.mk' (by unfold eff; rw [if_neg q1, if_neg q2, if_pos q3]) (by simp [Bool.and_assoc])
 by_cases q4 : x.Op = 4
 ·rw [if_neg (by simpa using q1), if_neg (by simpa using q2), if_neg (by simpa using q3), if_pos (by simpa using q4)]; exact Ef.mk' (by unfold eff; rw [if_neg q1, if_neg q2, if_neg q3, if_pos q4]) (by simp [Bool.and_assoc])
 rw [if_neg (by simpa using q1), if_neg (by simpa using q2), if_neg (by simpa using q3), if_neg (by simpa using q4)]
 by_cases q5 : x.Op = 5
 ·rw [if_pos (by simpa using q5), ifb (cont_eq (by decide)), Option.bind_some]; exact Ef.mk' (by unfold eff; rw [if_neg q1, if_neg q2, if_neg q3, if_neg q4, if_pos q5]) (by simp)
 by_cases q6 : x.Op = 6
 ·rw [if_neg (by simpa using q5), if_pos (by simpa using q6), ifb (cont_eq (by decide)), Option.bind_some]; exact Ef.mk' (by unfold eff; rw [if_neg q1, if_neg q2, if_neg q3, if_neg q4, if_neg q5, if_pos q6]) (by simp)
 by_cases q7 : x.Op = 7
 ·rw [if_neg (by simpa using q5), if_neg (by simpa using q6), if_pos (by simpa using q7), ifb (cont_eq (by decide)), Option.bind_some]; exact Ef.mk' (by unfold eff; rw [if_neg q1, if_neg q2, if_neg q3, if_neg q4, if_neg q5, if_neg q6, if_pos q7]) (by simp)
 rw [if_neg (by simpa using q5), if_neg (by simpa using q6), if_neg (by simpa using q7)]
 by_cases q8 : x.Op = 8
 ·rw [if_pos (by simpa using q8)]; exact Ef.mk' (by unfold eff; rw [if_neg q1, if_neg q2, if_neg q3, if_neg q4, if_neg q5, if_neg q6, if_neg q7, if_pos q8]) (by simp)
 by_cases q9 : x.Op = 9
 ·rw [if_neg (by simpa using q8), if_pos (by simpa using q9)]; exact Ef.mk' (by unfold eff; rw [if_neg q1, if_neg q2, if_neg q3, if_neg q4, if_neg q5, if_neg q6, if_neg q7, if_neg q8, if_pos q9]) (by simp)
 by_cases q10 : x.Op = 10
 ·rw [if_neg (by simpa using q8), if_neg (by simpa using q9), if_pos (by simpa using q10)]; exact Ef.mk' (by unfold eff; rw [if_neg q1, if_neg q2, if_neg q3, if_neg q4, if_neg q5, if_neg q6, if_neg q7, if_neg q8, if_neg q9, if_pos q10]) (by simp)
 rw [if_neg (by simpa using q8), if_neg (by simpa using q9), if_neg (by simpa using q10)]
 by_cases q11 : x.Op = 11
 ·obtain ⟨t, b, e1, e2, e3⟩ := act_pure h
  rw [if_pos (by simpa using q11), e1, Option.bind_some]
  have ee : eff x = if x.N = 0 then (actK x.S).map fun t => (t, 0) else none := by unfold eff; rw [if_neg q1, if_neg q2, if_neg q3, if_neg q4, if_neg q5, if_neg q6, if_neg q7, if_neg q8, if_neg q9, if_neg q10, if_pos q11]
  refine ⟨t, 0, ?_, fun a c hc => ?_⟩
  ·rw [ee, e2]
   by_cases q : x.N = 0
   ·rw [if_pos q, decide_eq_true q, Bool.true_and, Option.isSome_map]
   ·rw [if_neg q, decide_eq_false q, Bool.false_and]; rfl
  ·rw [ee] at hc
   by_cases q : x.N = 0
   ·rw [if_pos q] at hc
    obtain ⟨k, hk, hk2⟩ := Option.map_eq_some_iff.1 hc
    cases hk2
    exact ⟨e3 _ hk, rfl⟩
   ·rw [if_neg q] at hc; cases hc
 by_cases q12 : x.Op = 12
 ·rw [if_neg (by simpa using q11), if_pos (by simpa using q12)]; exact Ef.mk' (by unfold eff; rw [if_neg q1, if_neg q2, if_neg q3, if_neg q4, if_neg q5, if_neg q6, if_neg q7, if_neg q8, if_neg q9, if_neg q10, if_neg q11, if_pos q12]) (by simp)
 ·rw [if_neg (by simpa using q11), if_neg (by simpa using q12)]
  have ee : eff x = none := by unfold eff; rw [if_neg q1, if_neg q2, if_neg q3, if_neg q4, if_neg q5, if_neg q6, if_neg q7, if_neg q8, if_neg q9, if_neg q10, if_neg q11, if_neg q12]
  exact ⟨0, 0, by rw [ee]; rfl, fun a b h => by rw [ee] at h; cases h⟩
end Rt.Rc
set_option linter.unusedVariables false
set_option linter.unusedSimpArgs false
open Go Go.SL Go.Proofs Pl
namespace Rt.Rc
theorem hp_ne {s p q : Str} (h : hp s p = true) (hn : ∀ t, hp (p ++ t) q = false) : hp s q = false := by
 rw [hp_app h]; exact hn _
theorem vary_header (s : Str) (h : hp s sVary = true) : hp s sHeader = false := by
 refine hp_ne h fun t => ?_
 unfold hp sVary sHeader
 simp
theorem vary_acts1 {s : Str} (h : hp s sVary = true) : s ∉ acts1 := by
 intro hs
 have : ∀ w ∈ acts1, hp w sVary = false := by decide
 rw [this s hs] at h; cases h
theorem header_acts0 {s : Str} (h : hp s sHeader = true) : s ∉ acts0 := by
 intro hs
 have : ∀ w ∈ acts0, hp w sHeader = false := by decide
 rw [this s hs] at h; cases h
theorem acts10 {s : Str} (h : s ∈ acts0) : s ∉ acts1 := by
 intro hs
 have : ∀ w ∈ acts0, w ∉ acts1 := by decide
 exact this s h hs
theorem orb {c : Bool} {o : Option Bool} {v : Bool} (h : o = some v) : (if c = true then some true else o.bind (fun x => some x)) = some (c || v) := by
 cases c with
 | true => rw [if_pos rfl, Bool.true_or]
 | false => rw [if_neg (by simp), h, Option.bind_some, Bool.false_or]
theorem fn_iff (s : Str) : Jat s = some ((fnc s).1, (fnc s).2, decide (s ∈ Jz)) ∧ ((fnc s).2 ≠ 0 ↔ s ∈ Jz) := by
 obtain ⟨h1, h2⟩ := fnc_cases s
 have h3 : decide ((fnc s).2 ≠ 0) = decide (s ∈ Jz) := by
  have e : (Jat s).map (fun r => r.2.2) = some (decide (s ∈ Jz)) := by
   unfold Jat Jz
   by_cases q1 : s = [104, 101, 97, 100, 101, 114]; · subst q1; rfl
   by_cases q2 : s = [97, 114, 103]; · subst q2; rfl
   by_cases q3 : s = [108, 111, 119, 101, 114]; · subst q3; rfl
   by_cases q4 : s = [104, 97, 115]; · subst q4; rfl
   by_cases q5 : s = [108, 101, 110]; · subst q5; rfl
   by_cases q6 : s = [110, 117, 109, 98, 101, 114]; · subst q6; rfl
   by_cases q7 : s = [112, 97, 114, 116]; · subst q7; rfl
   by_cases q8 : s = [116, 101, 120, 116]; · subst q8; rfl
   simp [q1, q2, q3, q4, q5, q6, q7, q8]
  rw [h1] at e
  simpa using e
 rw [h3] at h1
 exact ⟨h1, decide_eq_decide.1 h3⟩
set_option maxHeartbeats 1000000 in
theorem effect_pure {x : I} (h : x.S.length ≤ 100000) : Ef x (Jbq (cv x)) := by
 unfold Jbq cv
 dsimp only
 by_cases q1 : x.Op = 1
 ·rw [if_pos (by simpa using q1)]; exact Ef.mk' (by unfold eff; rw [if_pos q1]) (by simp [Bool.and_assoc])
 by_cases q2 : x.Op = 2
 ·rw [if_neg (by simpa using q1), if_pos (by simpa using q2), ifb (prt2_eq h), Option.bind_some]; exact Ef.mk' (by unfold eff; rw [if_neg q1, if_pos q2]) (by simp)
 by_cases q3 : x.Op = 3
 ·rw [if_neg (by simpa using q1), if_neg (by simpa using q2), if_pos (by simpa using q3)]
  refine Ef.mk' (by unfold eff; rw [if_neg q1, if_neg q2, if_pos q3]) ?_
  have : decide (x.N < 512) = decide (x.N ≤ 511) := by rw [decide_eq_decide]; omega
  simp [this, Bool.and_assoc]
 by_cases q4 : x.Op = 4
 ·rw [if_neg (by simpa using q1), if_neg (by simpa using q2), if_neg (by simpa using q3), if_pos (by simpa using q4)]
  refine Ef.mk' (by unfold eff; rw [if_neg q1, if_neg q2, if_neg q3, if_pos q4]) ?_
  have : decide (x.N < 512) = decide (x.N ≤ 511) := by rw [decide_eq_decide]; omega
  simp [this, Bool.and_assoc]
 rw [if_neg (by simpa using q1), if_neg (by simpa using q2), if_neg (by simpa using q3), if_neg (by simpa using q4)]
 by_cases q5 : x.Op = 5
 ·have hp : JaP x.S = some (decide (x.S ∈ Jt)) := by
   unfold JaP Jt
   simp [Bool.or_assoc]
  rw [if_pos (by simpa using q5), ifb hp, Option.bind_some]; exact Ef.mk' (by unfold eff; rw [if_neg q1, if_neg q2, if_neg q3, if_neg q4, if_pos q5]) (by simp)
 by_cases q6 : x.Op = 6
 ·rw [if_neg (by simpa using q5), if_pos (by simpa using q6), (fn_iff x.S).1, Option.bind_some]; exact Ef.mk' (by unfold eff; rw [if_neg q1, if_neg q2, if_neg q3, if_neg q4, if_neg q5, if_pos q6]) (by simp)
 by_cases q7 : x.Op = 7
 ·have hl : Jbd x.S ([([43] : Str), ([45] : Str), ([42] : Str), ([61, 61] : Str), ([33, 61] : Str), ([60] : Str), ([60, 61] : Str), ([115, 116, 97, 114, 116, 115] : Str), ([101, 110, 100, 115] : Str), ([99, 111, 110, 116, 97, 105, 110, 115] : Str)]) = some (decide (x.S ∈ JE)) := has2_eq (by decide)
  rw [if_neg (by simpa using q5), if_neg (by simpa using q6), if_pos (by simpa using q7), ifb hl, Option.bind_some]; exact Ef.mk' (by unfold eff; rw [if_neg q1, if_neg q2, if_neg q3, if_neg q4, if_neg q5, if_neg q6, if_pos q7]) (by simp)
 rw [if_neg (by simpa using q5), if_neg (by simpa using q6), if_neg (by simpa using q7)]
 by_cases q8 : x.Op = 8
 ·rw [if_pos (by simpa using q8)]; exact Ef.mk' (by unfold eff; rw [if_neg q1, if_neg q2, if_neg q3, if_neg q4, if_neg q5, if_neg q6, if_neg q7, if_pos q8]) (by simp [Bool.and_comm])
 by_cases q9 : x.Op = 9
 ·rw [if_neg (by simpa using q8), if_pos (by simpa using q9)]; exact Ef.mk' (by unfold eff; rw [if_neg q1, if_neg q2, if_neg q3, if_neg q4, if_neg q5, if_neg q6, if_neg q7, if_neg q8, if_pos q9]) (by simp)
 by_cases q10 : x.Op = 10
 ·rw [if_neg (by simpa using q8), if_neg (by simpa using q9), if_pos (by simpa using q10)]; exact Ef.mk' (by unfold eff; rw [if_neg q1, if_neg q2, if_neg q3, if_neg q4, if_neg q5, if_neg q6, if_neg q7, if_neg q8, if_neg q9, if_pos q10]) (by simp)
 rw [if_neg (by simpa using q8), if_neg (by simpa using q9), if_neg (by simpa using q10)]
 by_cases q11 : x.Op = 11
 ·have ee : eff x = if x.N = 0 then (actK x.S).map fun t => (t, 0) else none := by unfold eff; rw [if_neg q1, if_neg q2, if_neg q3, if_neg q4, if_neg q5, if_neg q6, if_neg q7, if_neg q8, if_neg q9, if_neg q10, if_pos q11]
  have e0 : Jbd x.S [([112, 97, 115, 115] : Str), ([116, 111, 107, 101, 110] : Str)] = some (decide (x.S ∈ acts0)) := has2_eq (by decide)
  have e1 : Jbd x.S [([112, 97, 116, 104] : Str), ([113, 117, 101, 114, 121] : Str), ([116, 97, 103] : Str), ([116, 116, 108] : Str), ([100, 101, 110, 121] : Str)] = some (decide (x.S ∈ acts1)) := has2_eq (by decide)
  have bv : JaS x.S [118, 97, 114, 121, 58] = some (hp x.S sVary && prt x.S) := begins_eq h
  have bh : JaS x.S [104, 101, 97, 100, 101, 114, 58] = some (hp x.S sHeader && prt x.S) := begins_eq h
  rw [if_pos (by simpa using q11), e0, Option.bind_some, orb bv, Option.bind_some]
  cases qz : (decide (x.S ∈ acts0) || (hp x.S sVary && prt x.S)) with
  | true =>
   rw [if_pos rfl]
   have ha : actK x.S = some 0 := by
    unfold actK
    simp only [Bool.or_eq_true, decide_eq_true_eq, Bool.and_eq_true] at qz
    rcases qz with qz | ⟨q1, q2⟩
    ·rw [if_neg (acts10 qz), if_pos qz]
    ·rw [if_neg (vary_acts1 q1)]
     by_cases m0 : x.S ∈ acts0
     ·rw [if_pos m0]
     ·rw [if_neg m0, if_neg (by rw [vary_header _ q1]; simp), q1, q2]; rfl
   exact Ef.mk' (c := x.N = 0) (by rw [ee, ha]; rfl) rfl
  | false =>
   rw [if_neg (by simp)]
   simp only [Bool.or_eq_false_iff, decide_eq_false_iff_not] at qz
   have ha : actK x.S = if (decide (x.S ∈ acts1) || (hp x.S sHeader && prt x.S)) = true then some 1 else none := by
    unfold actK
    by_cases m1 : x.S ∈ acts1
    ·rw [if_pos m1, decide_eq_true m1]; rfl
    ·rw [if_neg m1, if_neg qz.1, qz.2, decide_eq_false m1, Bool.false_or]
     cases hp x.S sHeader with
     | true => simp
     | false => simp
   by_cases n0 : x.N = 0
   ·rw [if_pos (by simpa using n0), e1, Option.bind_some, orb bh, Option.bind_some]
    exact Ef.mk' (c := (decide (x.S ∈ acts1) || (hp x.S sHeader && prt x.S)) = true) (by rw [ee, if_pos n0, ha]; split <;> rfl) (by simp)
   ·rw [if_neg (by simpa using n0)]
    exact Ef.mk' (c := False) (by rw [ee, if_neg n0]; rfl) (by simp)
 by_cases q12 : x.Op = 12
 ·rw [if_neg (by simpa using q11), if_pos (by simpa using q12)]; exact Ef.mk' (by unfold eff; rw [if_neg q1, if_neg q2, if_neg q3, if_neg q4, if_neg q5, if_neg q6, if_neg q7, if_neg q8, if_neg q9, if_neg q10, if_neg q11, if_pos q12]) (by simp [Bool.and_comm])
 ·rw [if_neg (by simpa using q11), if_neg (by simpa using q12)]
  have ee : eff x = none := by unfold eff; rw [if_neg q1, if_neg q2, if_neg q3, if_neg q4, if_neg q5, if_neg q6, if_neg q7, if_neg q8, if_neg q9, if_neg q10, if_neg q11, if_neg q12]
  exact ⟨0, 0, by rw [ee]; rfl, fun a b h => by rw [ee] at h; cases h⟩
end Rt.Rc
set_option linter.unusedVariables false
set_option linter.unusedSimpArgs false
open Go Go.SL Go.Proofs Pl
namespace Rt.Rc
abbrev AS := Option (Int × (Int → Bool))
abbrev AB := Nat → AS
def joinA (a : AS) (d : Int) (σ : Int → Bool) : Option AS := match a with
 | none => some (some (d, σ))
 | some (d0, σ0) => if d0 = d then some (some (d0, fun n => σ0 n && σ n)) else none
def updA (B : AB) (i : Nat) (a : AS) : AB := fun j => if j = i then a else B j
def nxt (x : I) (σ : Int → Bool) : Int → Bool := if x.Op = 4 then (fun n => decide (n = x.N) || σ n) else σ
def far (len i : Nat) (x : I) (B : AB) (d : Int) (σ : Int → Bool) : Option AB :=
 if isJ x = true then (if x.N ≤ i ∨ x.N ≥ len then none else (joinA (B x.N.toNat) d σ).map fun a => updA B x.N.toNat a) else some B
def near (i : Nat) (x : I) (B : AB) (d : Int) (σ : Int → Bool) : Option AB :=
 if x.Op = 9 then some B else (joinA (B (i + 1)) d σ).map fun a => updA B (i + 1) a
def stA (len i : Nat) (x : I) (B : AB) (g : Int) : Option (AB × Int) :=
 match eff x, B i with
 | some (t, l), some (d, σ) =>
  if d < t ∨ ¬ ((x.Op = 12) ↔ (i + 1 = len)) ∨ (x.Op = 3 ∧ σ x.N = false) then none
  else if x.Op = 12 then (if d = 0 then some (B, max (max g d) (d + (l - t))) else none)
  else (far len i x B (d + (l - t)) (nxt x σ)).bind fun B1 => (near i x B1 (d + (l - t)) (nxt x σ)).map fun B2 => (B2, max (max g d) (d + (l - t)))
 | _, _ => none
def wk (len : Nat) : Nat → List I → AB → Int → Option Int
 | _, [], _, g => some g
 | i, x :: l, B, g => (stA len i x B g).bind fun r => wk len (i + 1) l r.1 r.2
def B0 : AB := fun i => if i = 0 then some (0, fun _ => false) else none
def depthOf (c : List I) : Option Int := if c.length < 1 ∨ c.length > 2048 then none else wk c.length 0 c B0 0
structure PR (len : Nat) (L : List PS) (B : AB) : Prop where
 len : L.length = len
 bits : ∀ i s, L[i]? = some s → s.reached = (B i).isSome ∧ ∀ d σ, B i = some (d, σ) → s.depth = d ∧ 0 ≤ d ∧ d ≤ i ∧ WOK s.stored ∧ ∀ n : Int, 0 ≤ n → n ≤ 511 → bitW s.stored n = σ n
structure TR (t : PS) (d : Int) (σ : Int → Bool) : Prop where
 reached : t.reached = true
 depth : t.depth = d
 ok : WOK t.stored
 bits : ∀ n : Int, 0 ≤ n → n ≤ 511 → bitW t.stored n = σ n
theorem pjoin {len k : Nat} {L : List PS} {B : AB} {t : PS} {d : Int} {σ : Int → Bool} (h : PR len L B) (hk : k < len) (ht : TR t d σ) (hd : 0 ≤ d ∧ d ≤ k) :
  ∃ b L', J2 L k t = some (b, L') ∧ match joinA (B k) d σ with
   | none => b = false
   | some a => b = true ∧ PR len L' (updA B k a) := by
 obtain ⟨s, hs⟩ : ∃ s, L[k]? = some s := ⟨L[k]'(by rw [h.len]; exact hk), List.getElem?_eq_getElem _⟩
 obtain ⟨h1, h2⟩ := h.bits k s hs
 have hk' : k < L.length := by rw [h.len]; exact hk
 have up : ∀ (a : AS) (s' : PS), (s'.reached = a.isSome ∧ ∀ d σ, a = some (d, σ) → s'.depth = d ∧ 0 ≤ d ∧ d ≤ k ∧ WOK s'.stored ∧ ∀ n : Int, 0 ≤ n → n ≤ 511 → bitW s'.stored n = σ n) → PR len (L.set k s') (updA B k a) := fun a s' ha =>
  ⟨by rw [List.length_set]; exact h.len, fun i z hz => by
   unfold updA
   by_cases q : i = k
   ·subst q
    rw [List.getElem?_set_self hk'] at hz
    cases hz
    simp only [if_true]
    exact ha
   ·rw [List.getElem?_set_ne (fun e => q e.symm)] at hz
    simp only [if_neg q]
    exact h.bits i z hz⟩
 unfold J2
 rw [hs, Option.bind_some]
 cases hB : B k with
 | none =>
  rw [hB] at h1
  have h1 : s.reached = false := h1
  rw [if_pos (by simp [h1])]
  refine ⟨_, _, rfl, rfl, ?_⟩
  have := up (some (d, σ)) t ⟨ht.reached, fun d' σ' e => by cases e; exact ⟨ht.depth, hd.1, hd.2, ht.ok, ht.bits⟩⟩
  exact this
 | some p =>
  obtain ⟨d0, σ0⟩ := p
  rw [hB] at h1
  have h1 : s.reached = true := h1
  obtain ⟨g1, g2, g3, g4, g5⟩ := h2 d0 σ0 hB
  rw [if_neg (by simp [h1]), chk_bind (by decide), show ((8 : Int)).toNat = 8 from rfl, jel hs, Option.bind_some, List.getElem?_set_self hk', Option.bind_some]
  refine ⟨_, _, rfl, ?_⟩
  simp only [joinA]
  by_cases q : d0 = d
  ·rw [if_pos q]
   simp only
   refine ⟨by simp [g1, q, ht.depth], up _ _ ⟨h1, fun d' σ' e => ?_⟩⟩
   cases e
   exact ⟨g1, g2, g3, andW_ok g4 ht.ok, fun n n0 n1 => by rw [andW_bit g4 ht.ok n0 n1, g5 n n0 n1, ht.bits n n0 n1]⟩
  ·rw [if_neg q]
   simp [g1, ht.depth, q]
theorem eff_bd {x : I} {t l : Int} (h : eff x = some (t, l)) : 0 ≤ t ∧ t ≤ 2 ∧ 0 ≤ l ∧ l ≤ 1 ∧ (x.Op = 12 → t = 0 ∧ l = 0) ∧ ((x.Op = 3 ∨ x.Op = 4) → 0 ≤ x.N ∧ x.N ≤ 511) := by
 unfold eff at h
 have go : ∀ {c : Prop} [Decidable c] {a b : Int}, (if c then some (a, b) else none) = some (t, l) → c ∧ a = t ∧ b = l := fun {c} _ {a b} h => by
  split at h
  ·rename_i hc; cases h; exact ⟨hc, rfl, rfl⟩
  ·cases h
 by_cases q1 : x.Op = 1
 ·rw [if_pos q1] at h; obtain ⟨_, rfl, rfl⟩ := go h; exact ⟨by omega, by omega, by omega, by omega, fun h => by omega, fun h => by omega⟩
 rw [if_neg q1] at h
 by_cases q2 : x.Op = 2
 ·rw [if_pos q2] at h; obtain ⟨_, rfl, rfl⟩ := go h; exact ⟨by omega, by omega, by omega, by omega, fun h => by omega, fun h => by omega⟩
 rw [if_neg q2] at h
 by_cases q3 : x.Op = 3
 ·rw [if_pos q3] at h; obtain ⟨hc, rfl, rfl⟩ := go h; exact ⟨by omega, by omega, by omega, by omega, fun h => by omega, fun _ => hc.2⟩
 rw [if_neg q3] at h
 by_cases q4 : x.Op = 4
 ·rw [if_pos q4] at h; obtain ⟨hc, rfl, rfl⟩ := go h; exact ⟨by omega, by omega, by omega, by omega, fun h => by omega, fun _ => hc.2⟩
 rw [if_neg q4] at h
 have no : ¬ (x.Op = 3 ∨ x.Op = 4) := by omega
 by_cases q5 : x.Op = 5
 ·rw [if_pos q5] at h; obtain ⟨_, rfl, rfl⟩ := go h; exact ⟨by omega, by omega, by omega, by omega, fun h => by omega, fun h => absurd h no⟩
 rw [if_neg q5] at h
 by_cases q6 : x.Op = 6
 ·rw [if_pos q6] at h; obtain ⟨_, rfl, rfl⟩ := go h; exact ⟨by omega, by omega, by omega, by omega, fun h => by omega, fun h => absurd h no⟩
 rw [if_neg q6] at h
 by_cases q7 : x.Op = 7
 ·rw [if_pos q7] at h; obtain ⟨_, rfl, rfl⟩ := go h; exact ⟨by omega, by omega, by omega, by omega, fun h => by omega, fun h => absurd h no⟩
 rw [if_neg q7] at h
 by_cases q8 : x.Op = 8
 ·rw [if_pos q8] at h; obtain ⟨_, rfl, rfl⟩ := go h; exact ⟨by omega, by omega, by omega, by omega, fun h => by omega, fun h => absurd h no⟩
 rw [if_neg q8] at h
 by_cases q9 : x.Op = 9
 ·rw [if_pos q9] at h; obtain ⟨_, rfl, rfl⟩ := go h; exact ⟨by omega, by omega, by omega, by omega, fun h => by omega, fun h => absurd h no⟩
 rw [if_neg q9] at h
 by_cases q10 : x.Op = 10
 ·rw [if_pos q10] at h; obtain ⟨_, rfl, rfl⟩ := go h; exact ⟨by omega, by omega, by omega, by omega, fun h => by omega, fun h => absurd h no⟩
 rw [if_neg q10] at h
 by_cases q11 : x.Op = 11
 ·rw [if_pos q11] at h
  split at h
  ·obtain ⟨k, hk, e⟩ := Option.map_eq_some_iff.1 h
   cases e
   have : t = 0 ∨ t = 1 := by
    unfold actK at hk
    split at hk
    ·cases hk; simp
    ·split at hk
     ·cases hk; simp
     ·split at hk
      ·split at hk
       ·cases hk; simp
       ·cases hk
      ·split at hk
       ·cases hk; simp
       ·cases hk
   exact ⟨by omega, by omega, by omega, by omega, fun h => by omega, fun h => absurd h no⟩
  ·cases h
 rw [if_neg q11] at h
 by_cases q12 : x.Op = 12
 ·rw [if_pos q12] at h; obtain ⟨_, rfl, rfl⟩ := go h; exact ⟨by omega, by omega, by omega, by omega, fun h => ⟨rfl, rfl⟩, fun h => absurd h no⟩
 rw [if_neg q12] at h
 cases h
def nxtW (x : I) (W : S8) : S8 := if x.Op = 4 then orW W x.N.toNat else W
theorem pstore {x : I} {W : S8} (hx : x.Op = 4 → 0 ≤ x.N ∧ x.N ≤ 511) :
  (if decide (x.Op = 4) = true then
   (chk ((64 : Int) ≠ 0 ∧ InI (Int.tdiv x.N 64))).bind fun _ => (chk (0 ≤ (Int.tdiv x.N 64) ∧ (Int.tdiv x.N 64) < 8)).bind fun _ => (chk (0 ≤ (Int.tmod x.N 64))).bind fun _ => (chk (0 ≤ (Int.tdiv x.N 64) ∧ (Int.tdiv x.N 64) < 8)).bind fun _ =>
   (some (List.set [W.f0, W.f1, W.f2, W.f3, W.f4, W.f5, W.f6, W.f7] (Int.toNat (Int.tdiv x.N 64)) (u64or (List.getD [W.f0, W.f1, W.f2, W.f3, W.f4, W.f5, W.f6, W.f7] (Int.toNat (Int.tdiv x.N 64)) 0) (u64shl 1 (Int.tmod x.N 64))))).bind fun m5_ =>
   some ((List.getD m5_ 0 0), (List.getD m5_ 1 0), (List.getD m5_ 2 0), (List.getD m5_ 3 0), (List.getD m5_ 4 0), (List.getD m5_ 5 0), (List.getD m5_ 6 0), (List.getD m5_ 7 0))
  else some (W.f0, W.f1, W.f2, W.f3, W.f4, W.f5, W.f6, W.f7) : Option (Int × Int × Int × Int × Int × Int × Int × Int)) = some ((nxtW x W).f0, (nxtW x W).f1, (nxtW x W).f2, (nxtW x W).f3, (nxtW x W).f4, (nxtW x W).f5, (nxtW x W).f6, (nxtW x W).f7) := by
 unfold nxtW
 by_cases q : x.Op = 4
 ·obtain ⟨h0, h1⟩ := hx q
  obtain ⟨k, hk⟩ : ∃ k : Nat, x.N = (k : Int) := ⟨x.N.toNat, by omega⟩
  rw [hk] at h0 h1 ⊢
  have e1 : Int.tdiv (k : Int) 64 = ((k / 64 : Nat) : Int) := by rw [Int.tdiv_eq_ediv_of_nonneg h0]; omega
  have e2 : Int.tmod (k : Int) 64 = ((k % 64 : Nat) : Int) := by rw [Int.tmod_eq_emod_of_nonneg h0]; omega
  have hd : k / 64 < 8 := by omega
  rw [if_pos (by simpa using q), e1, e2, chk_bind ⟨by decide, by omega, by omega⟩, chk_bind (by omega), chk_bind (by omega), chk_bind (by omega), Option.bind_some, if_pos q, Int.toNat_natCast, Int.toNat_natCast]
  rfl
 ·rw [if_neg (by simpa using q), if_neg q]
theorem nxtW_ok {x : I} {W : S8} (h : WOK W) (hx : x.Op = 4 → 0 ≤ x.N ∧ x.N ≤ 511) : WOK (nxtW x W) := by
 unfold nxtW
 split
 ·rename_i q; have := hx q; exact orW_ok h (by omega)
 ·exact h
theorem nxtW_bits {x : I} {W : S8} {σ : Int → Bool} (h : WOK W) (hx : x.Op = 4 → 0 ≤ x.N ∧ x.N ≤ 511) (hb : ∀ n : Int, 0 ≤ n → n ≤ 511 → bitW W n = σ n) : ∀ n : Int, 0 ≤ n → n ≤ 511 → bitW (nxtW x W) n = nxt x σ n := fun n h0 h1 => by
 unfold nxtW nxt
 by_cases q : x.Op = 4
 ·have := hx q
  rw [if_pos q, if_pos q, orW_bit h (by omega) h0 h1, hb n h0 h1]
  congr 1
  rw [decide_eq_decide]; omega
 ·rw [if_neg q, if_neg q, hb n h0 h1]
end Rt.Rc
set_option linter.unusedVariables false
set_option linter.unusedSimpArgs false
open Go Go.SL Go.Proofs Pl
namespace Rt.Rc
theorem wk_cons {len i : Nat} {x : I} {l : List I} {B : AB} {g : Int} : wk len i (x :: l) B g = (stA len i x B g).bind fun r => wk len (i + 1) l r.1 r.2 := rfl
theorem pfar {len i : Nat} {x : I} {L : List PS} {B : AB} {t : PS} {d : Int} {σ : Int → Bool} (h : PR len L B) (hl : len ≤ 2048) (ht : TR t d σ) (hd : 0 ≤ d ∧ d ≤ i + 1) :
  ∃ r, (if (decide (x.Op = 9) || decide (x.Op = 10)) = true then
   if (decide (x.N ≤ (i : Int)) || decide (x.N ≥ (len : Int))) = true then some (Fl.ret (0, false)) else
   (ix L x.N).bind fun x135 => (J2 L ((x.N).toNat) t).bind fun x137 => if (!x137.1) = true then some (Fl.ret (0, false)) else some (Fl.go x137.2)
   else some (Fl.go L) : Option (Fl (Int × Bool) (List PS))) = some r ∧ match far len i x B d σ with
   | none => r = Fl.ret (0, false)
   | some B1 => ∃ L1, r = Fl.go L1 ∧ PR len L1 B1 := by
 have hj : (decide (x.Op = 9) || decide (x.Op = 10)) = isJ x := rfl
 rw [hj]
 unfold far
 cases q : isJ x with
 | false => rw [if_neg (by simp), if_neg (by simp)]; exact ⟨_, rfl, L, rfl, h⟩
 | true =>
  rw [if_pos rfl, if_pos rfl]
  by_cases q2 : x.N ≤ i ∨ x.N ≥ len
  ·rw [if_pos (by simpa using q2), if_pos q2]; exact ⟨_, rfl, rfl⟩
  ·rw [if_neg (by simpa using q2), if_neg q2]
   have hk : x.N.toNat < len := by omega
   have hkL : x.N.toNat < L.length := by rw [h.len]; exact hk
   have e : ix L x.N = some L[x.N.toNat] := by unfold ix; rw [if_pos (by omega), List.getElem?_eq_getElem hkL]
   obtain ⟨b, L', e1, e2⟩ := pjoin h hk ht ⟨hd.1, by omega⟩
   rw [e, Option.bind_some, e1, Option.bind_some]
   cases q3 : joinA (B x.N.toNat) d σ with
   | none =>
    rw [q3] at e2
    have e2 : b = false := e2
    rw [e2, if_pos (by simp)]
    exact ⟨_, rfl, rfl⟩
   | some a =>
    rw [q3] at e2
    obtain ⟨e2, e3⟩ := e2
    rw [e2, if_neg (by simp)]
    exact ⟨_, rfl, L', rfl, e3⟩
def PG (c : List I) (i : Nat) (g : Int) (L : List PS) (B : AB) : Prop :=
 ∃ G b, Jaj c (c.drop i) i g L = some (Fl.ret (G, b)) ∧ match wk c.length i (c.drop i) B g with
  | some G' => b = true ∧ G = G'
  | none => b = false
set_option maxRecDepth 100000 in
theorem pstep {c : List I} (hc : c.length ≤ 2048) (hS : ∀ x ∈ c, x.S.length ≤ 100000) {i : Nat} {g : Int} {L : List PS} {B : AB} (hlt : i < c.length) (hR : PR c.length L B) (ih : i + 1 < c.length → ∀ g L B, PR c.length L B → PG c (i + 1) g L B) : PG c i g L B := by
 unfold PG at ih ⊢
 obtain ⟨s, hs⟩ : ∃ s, L[i]? = some s := ⟨L[i]'(by rw [hR.len]; exact hlt), List.getElem?_eq_getElem _⟩
 have hsx : ix L (i : Int) = some s := by unfold ix; rw [if_pos (by omega), Int.toNat_natCast]; exact hs
 obtain ⟨r1, r2⟩ := hR.bits i s hs
 rw [List.drop_eq_getElem_cons hlt]
 have hxS := hS c[i] (List.getElem_mem hlt)
 obtain ⟨t, l, e1, e2⟩ := shape_pure (x := c[i]) hxS
 generalize hx : c[i] = x at *
 rw [Jaj, hsx, Option.bind_some, e1, Option.bind_some, chk_bind (by constructor <;> omega), wk_cons]
 have hlast : decide ((i : Int) = ((c.length : Int) - 1)) = decide (i + 1 = c.length) := by rw [decide_eq_decide]; omega
 rw [hlast]
 have fail : ∀ {o : Option Int}, o = none → ∃ G b, some (Fl.ret (0, false)) = (some (Fl.ret (G, b)) : Option (Fl (Int × Bool) (Int × List PS))) ∧ match o with
  | some G' => b = true ∧ G = G'
  | none => b = false := fun h => ⟨0, false, rfl, by rw [h]⟩
 cases he : eff x with
 | none =>
  rw [if_pos (by simp)]
  exact fail (by simp [stA, he])
 | some tl =>
 obtain ⟨t', l'⟩ := tl
 obtain ⟨rfl, rfl⟩ := e2 t' l' he
 obtain ⟨b1, b2, b3, b4, b5, b6⟩ := eff_bd he
 cases hB : B i with
 | none =>
  rw [hB] at r1
  have r1 : s.reached = false := r1
  rw [if_pos (by simp [r1])]
  exact fail (by simp [stA, he, hB])
 | some p =>
 obtain ⟨d, σ⟩ := p
 rw [hB] at r1
 have r1 : s.reached = true := r1
 obtain ⟨h1, h2, h3, h4, h5⟩ := r2 d σ hB
 by_cases q1 : d < t
 ·rw [if_pos (by simp [h1, q1])]
  exact fail (by simp [stA, he, hB, q1])
 by_cases q2 : (x.Op = 12) ↔ (i + 1 = c.length)
 ·have e : (decide (x.Op = 12) == decide (i + 1 = c.length)) = true := by
   by_cases w2 : i + 1 = c.length
   ·simp [q2.2 w2, w2]
   ·have w1 : ¬ x.Op = 12 := fun w => w2 (q2.1 w)
    simp [w1, w2]
  rw [if_neg (by rw [e]; simp [r1, h1, q1])]
  have hload : (if decide (x.Op = 3) = true then (Jay s x.N).bind fun x77 => some (!x77) else some false) = some (decide (x.Op = 3 ∧ σ x.N = false)) := by
   by_cases w : x.Op = 3
   ·have := b6 (.inl w)
    rw [if_pos (by simpa using w), has_eq h4 this.1 this.2, Option.bind_some, h5 x.N this.1 this.2]
    cases σ x.N <;> simp [w]
   ·rw [if_neg (by simpa using w)]; simp [w]
  rw [hload, Option.bind_some]
  by_cases q3 : x.Op = 3 ∧ σ x.N = false
  ·rw [if_pos (by simpa using q3)]
   exact fail (by simp [stA, he, hB, q3])
  rw [if_neg (by simpa using q3), chk_bind (by simp only; constructor <;> omega), chk_bind (by simp only; constructor <;> omega), pstore (fun w => b6 (.inr w)), Option.bind_some]
  have hd : 0 ≤ d + (l - t) ∧ d + (l - t) ≤ i + 1 := by omega
  have hT : TR ⟨s.reached, s.depth + (l - t), ⟨(nxtW x s.stored).f0, (nxtW x s.stored).f1, (nxtW x s.stored).f2, (nxtW x s.stored).f3, (nxtW x s.stored).f4, (nxtW x s.stored).f5, (nxtW x s.stored).f6, (nxtW x s.stored).f7⟩⟩ (d + (l - t)) (nxt x σ) :=
   ⟨r1, by rw [h1], nxtW_ok h4 (fun w => b6 (.inr w)), nxtW_bits h4 (fun w => b6 (.inr w)) h5⟩
  obtain ⟨r, hr, hr2⟩ := pfar (x := x) hR hc hT hd
  simp only
  rw [hr, Option.bind_some]
  have hst : stA c.length i x B g = if x.Op = 12 then (if d = 0 then some (B, max (max g d) (d + (l - t))) else none) else (far c.length i x B (d + (l - t)) (nxt x σ)).bind fun B1 => (near i x B1 (d + (l - t)) (nxt x σ)).map fun B2 => (B2, max (max g d) (d + (l - t))) := by
   unfold stA
   rw [he, hB]
   simp only
   rw [if_neg]
   rintro (w | w | w)
   ·exact q1 w
   ·exact w q2
   ·exact q3 w
  rw [hst]
  by_cases q4 : i + 1 = c.length
  ·have q12 := q2.2 q4
   obtain ⟨rfl, rfl⟩ := b5 q12
   have hf : far c.length i x B (d + (0 - 0)) (nxt x σ) = some B := by unfold far isJ; rw [if_neg (by simp [q12])]
   rw [hf] at hr2
   obtain ⟨L1, rfl, _⟩ := hr2
   rw [el_go, if_pos (by simpa using q4), if_pos q12, h1]
   refine ⟨_, _, rfl, ?_⟩
   by_cases q5 : d = 0
   ·rw [if_pos q5, Option.bind_some]
    have : List.drop (i + 1) c = [] := List.drop_eq_nil_of_le (by omega)
    simp only
    rw [this]
    simp [wk, q5]
   ·rw [if_neg q5]
    simp [q5]
  ·have q12 : ¬ x.Op = 12 := fun w => q4 (q2.1 w)
   rw [if_neg q12]
   cases hfar : far c.length i x B (d + (l - t)) (nxt x σ) with
   | none =>
    rw [hfar] at hr2
    have hr2 : r = Fl.ret (0, false) := hr2
    rw [hr2, el_ret]
    exact ⟨_, _, rfl, rfl⟩
   | some B1 =>
    rw [hfar] at hr2
    obtain ⟨L1, rfl, hR1⟩ := hr2
    rw [el_go, if_neg (by simpa using q4), Option.bind_some]
    unfold near
    by_cases q9 : x.Op = 9
    ·rw [if_neg (by simpa using q9), if_pos q9]
     simp only [Option.map_some, Option.bind_some]
     have := ih (by omega) (max (max g d) (d + (l - t))) L1 B1 hR1
     rw [h1]
     exact this
    ·rw [if_pos (by simpa using q9), if_neg q9]
     have hk : i + 1 < c.length := by omega
     have hkL : i + 1 < L1.length := by rw [hR1.len]; exact hk
     have e3 : ix L1 ((i : Int) + 1) = some L1[i + 1] := by
      have := ixn (s := L1) hkL
      rw [← this]; congr 1
     obtain ⟨b, L2, e4, e5⟩ := pjoin hR1 hk hT ⟨hd.1, by omega⟩
     have e6 : (((i : Int) + 1)).toNat = i + 1 := by omega
     rw [e3, Option.bind_some, e6, e4, Option.bind_some]
     cases q6 : joinA (B1 (i + 1)) (d + (l - t)) (nxt x σ) with
     | none =>
      rw [q6] at e5
      have e5 : b = false := e5
      rw [e5, if_pos (by simp)]
      exact ⟨_, _, rfl, rfl⟩
     | some a =>
      rw [q6] at e5
      obtain ⟨e5, e7⟩ := e5
      rw [e5, if_neg (by simp)]
      simp only [Option.map_some, Option.bind_some]
      have := ih (by omega) (max (max g d) (d + (l - t))) L2 (updA B1 (i + 1) a) e7
      rw [h1]
      exact this
 ·have e : (decide (x.Op = 12) == decide (i + 1 = c.length)) = false := by
   by_cases w1 : x.Op = 12
   ·by_cases w2 : i + 1 = c.length
    ·exact absurd (by simp [w1, w2]) q2
    ·simp [w1, w2]
   ·by_cases w2 : i + 1 = c.length
    ·simp [w1, w2]
    ·exact absurd (by simp [w1, w2]) q2
  rw [if_pos (by rw [e]; simp)]
  exact fail (by simp [stA, he, hB, q2])
theorem pwalk {c : List I} (hc : c.length ≤ 2048) (hS : ∀ x ∈ c, x.S.length ≤ 100000) : ∀ (m i : Nat) (g : Int) (L : List PS) (B : AB), i + (m + 1) = c.length → PR c.length L B → PG c i g L B
 | 0, i, g, L, B, hi, hR => pstep hc hS (by omega) hR fun h => by omega
 | m + 1, i, g, L, B, hi, hR => pstep hc hS (by omega) hR fun h g L B hR => pwalk hc hS m (i + 1) g L B (by omega) hR
theorem walk_pure {c : List I} (hS : ∀ x ∈ c, x.S.length ≤ 100000) : ∃ G b, Jbi c = some (G, b) ∧ match depthOf c with
  | some G' => b = true ∧ G = G'
  | none => b = false := by
 unfold Jbi depthOf
 by_cases q : c.length < 1 ∨ c.length > 2048
 ·have e : (decide ((c.length : Int) < 1) || decide ((c.length : Int) > 2048)) = true := by
   simp only [Bool.or_eq_true, decide_eq_true_eq]; omega
  rw [if_pos e, if_pos q]
  exact ⟨_, _, rfl, rfl⟩
 ·have e : (decide ((c.length : Int) < 1) || decide ((c.length : Int) > 2048)) = false := by
   simp only [Bool.or_eq_false_iff, decide_eq_false_iff_not]; omega
  rw [if_neg (by rw [e]; simp), if_neg q]
  obtain ⟨m, hm⟩ : ∃ m, c.length = m + 1 := ⟨c.length - 1, by omega⟩
  have hz : ix (List.replicate (Int.toNat (c.length : Int)) ((⟨false, 0, (⟨0, 0, 0, 0, 0, 0, 0, 0⟩ : JK)⟩ : Je) : Je)) 0 = some ⟨false, 0, ⟨0, 0, 0, 0, 0, 0, 0, 0⟩⟩ := by
   rw [Int.toNat_natCast, hm]; rfl
  rw [chk_bind (by simp only [lim]; omega), hz, Option.bind_some, chk_bind (by simp only [szMax]; omega)]
  have hR : PR c.length ((List.replicate (Int.toNat (c.length : Int)) ((⟨false, 0, (⟨0, 0, 0, 0, 0, 0, 0, 0⟩ : JK)⟩ : Je) : Je)).set ((0 : Int).toNat) ⟨true, 0, ⟨0, 0, 0, 0, 0, 0, 0, 0⟩⟩) B0 := by
   rw [Int.toNat_natCast]
   refine ⟨by simp, fun i s hs => ?_⟩
   rw [show ((0 : Int)).toNat = 0 from rfl] at hs
   unfold B0
   by_cases q0 : i = 0
   ·subst q0
    rw [List.getElem?_set_self (by simp; omega)] at hs
    cases hs
    refine ⟨rfl, fun d σ h => ?_⟩
    simp only [if_true] at h
    cases h
    refine ⟨rfl, by omega, by omega, ?_, fun n _ _ => ?_⟩
    ·have z : W64 0 := ⟨by decide, by decide⟩
     exact ⟨z, z, z, z, z, z, z, z⟩
    ·have : ∀ k, (wl ⟨0, 0, 0, 0, 0, 0, 0, 0⟩).getD k 0 = 0 := fun k => by
      match k with
      | 0 | 1 | 2 | 3 | 4 | 5 | 6 | 7 => rfl
      | k + 8 => simp [wl]
     unfold bitW
     rw [this]
     simp
   ·rw [List.getElem?_set_ne (fun e => q0 e.symm)] at hs
    have := List.mem_of_getElem? hs
    rw [List.mem_replicate] at this
    rw [this.2, if_neg q0]
    exact ⟨rfl, fun d σ h => by cases h⟩
  obtain ⟨G, b, h1, h2⟩ := pwalk (by omega) hS m 0 0 _ B0 (by omega) hR
  rw [List.drop_zero] at h1 h2
  rw [h1, Option.bind_some, el_ret]
  exact ⟨G, b, rfl, h2⟩
theorem Check45_pure {c : List I} (hS : ∀ x ∈ c, x.S.length ≤ 100000) : JaM c = some (if (depthOf c).isSome = true then none else some 2) := by
 obtain ⟨G, b, h1, h2⟩ := walk_pure hS
 unfold JaM
 rw [h1, Option.bind_some]
 cases q : depthOf c with
 | none => rw [q] at h2; have h2 : b = false := h2; rw [h2]; rfl
 | some g => rw [q] at h2; rw [h2.1]; rfl
end Rt.Rc
set_option linter.unusedVariables false
set_option linter.unusedSimpArgs false
open Go Go.SL Go.Proofs Pl
namespace Rt.Rc
abbrev RS := Jk
def Asc (l : List Int) : Prop := l.Pairwise (· < ·)
theorem both_L2 {e : Int} : ∀ (b : List Int) (i : Nat) (y : List Int), Asc b → y.length ≤ 1000000 → Jaa e b i y = some (if e ∈ b then y ++ [e] else y)
 | [], i, y, _, _ => by simp [Jaa]
 | a :: b, i, y, h, hy => by
  obtain ⟨h1, h2⟩ := List.pairwise_cons.1 h
  rw [Jaa]
  by_cases q : e = a
  ·have hn : e ∉ b := fun hb => by have := h1 e hb; omega
   rw [if_pos (by simpa using q), chk_bind (by simp [lim]; omega)]
   have n2 : ∀ (l : List Int) (j : Nat) (z : List Int), (∀ w ∈ l, e < w) → Jaa e l j z = some z := fun l => by
    induction l with
    | nil => intro j z _; simp [Jaa]
    | cons w l ih =>
     intro j z hl
     have := hl w (by simp)
     rw [Jaa, if_neg (by simp; omega)]
     exact ih (j + 1) z fun v hv => hl v (by simp [hv])
   rw [n2 b _ _ fun w hw => by rw [q]; exact h1 w hw, if_pos (by simp [q])]
  ·rw [if_neg (by simpa using q), both_L2 b (i + 1) y h2 hy]
   simp [q]
theorem both_L0 {b : List Int} (hb : Asc b) (hbl : b.length ≤ 100000) : ∀ (a : List Int) (i : Nat) (y : List Int), y.length + a.length ≤ 1000000 → JaK b a i y = some (y ++ a.filter (fun n => decide (n ∈ b)))
 | [], i, y, _ => by simp [JaK]
 | e :: a, i, y, h => by
  simp only [List.length_cons] at h
  rw [JaK, chk_bind (by simp only [szMax]; omega), both_L2 b 0 y hb (by omega), Option.bind_some]
  by_cases q : e ∈ b
  ·rw [if_pos q, both_L0 hb hbl a (i + 1) _ (by simp only [List.length_append, List.length_cons, List.length_nil]; omega)]
   simp [q]
  ·rw [if_neg q, both_L0 hb hbl a (i + 1) _ (by omega)]
   simp [q]
theorem both_eq {a b : List Int} (hb : Asc b) (ha : a.length ≤ 100000) (hbl : b.length ≤ 100000) : Jbm a b = some (a.filter (fun n => decide (n ∈ b))) := by
 unfold Jbm
 rw [chk_bind (by simp only [szMax]; omega), both_L0 hb hbl a 0 [] (by simp; omega), Option.bind_some, List.nil_append]
theorem ints1 {l : List Int} {n : Int} (hl : Asc l) : JbD (l.filter (fun m => decide (m ∈ [n]))) [n] = some (decide (n ∈ l)) := by
 have e : l.filter (fun m => decide (m ∈ [n])) = if n ∈ l then [n] else [] := by
  induction l with
  | nil => rfl
  | cons a l ih =>
   obtain ⟨h1, h2⟩ := List.pairwise_cons.1 hl
   have ih := ih h2
   by_cases q : a = n
   ·have hn : n ∉ l := fun h => by have := h1 n h; omega
    rw [if_neg hn] at ih
    rw [List.filter_cons, ih]
    simp [q]
   ·have q' : ¬ n = a := fun h => q h.symm
    rw [List.filter_cons, ih]
    simp [q, q']
 rw [e]
 by_cases q : n ∈ l
 ·rw [if_pos q, decide_eq_true q]
  unfold JbD
  rw [if_neg (by simp), chk_bind (by simp [szMax]), Ja6, show ix [n] (((0 : Nat)) : Int) = some n from rfl, Option.bind_some, if_neg (by simp), Ja6]
  rfl
 ·rw [if_neg q, decide_eq_false q]
  unfold JbD
  rw [if_pos (by simp)]
def wth (n : Int) : List Int → List Int
 | [] => [n]
 | e :: l => if n < e then n :: e :: l else if n = e then e :: l else e :: wth n l
theorem wth_mem {n m : Int} : ∀ {l : List Int}, m ∈ wth n l ↔ m = n ∨ m ∈ l
 | [] => by simp [wth]
 | e :: l => by
  rw [wth]
  split
  ·simp
  ·split
   ·rename_i h; subst h; simp
   ·rw [List.mem_cons, wth_mem, List.mem_cons]
    constructor
    ·rintro (h | h | h)
     ·exact .inr (.inl h)
     ·exact .inl h
     ·exact .inr (.inr h)
    ·rintro (h | h | h)
     ·exact .inr (.inl h)
     ·exact .inl h
     ·exact .inr (.inr h)
theorem wth_asc {n : Int} : ∀ {l : List Int}, Asc l → Asc (wth n l)
 | [], _ => by simp [wth, Asc]
 | e :: l, h => by
  obtain ⟨h1, h2⟩ := List.pairwise_cons.1 h
  rw [wth]
  split
  ·rename_i hn
   refine List.pairwise_cons.2 ⟨fun m hm => ?_, h⟩
   rcases List.mem_cons.1 hm with rfl | hm
   ·exact hn
   ·have := h1 m hm; omega
  ·split
   ·exact h
   ·refine List.pairwise_cons.2 ⟨fun m hm => ?_, wth_asc h2⟩
    rcases wth_mem.1 hm with rfl | hm
    ·omega
    ·exact h1 m hm
theorem wth_len {n : Int} : ∀ {l : List Int}, (wth n l).length ≤ l.length + 1
 | [] => by simp [wth]
 | e :: l => by
  rw [wth]
  split
  ·simp
  ·split
   ·simp
   ·have := wth_len (n := n) (l := l)
    simp only [List.length_cons]; omega
theorem with_true {n : Int} : ∀ (l : List Int) (i : Nat) (y : List Int), (∀ m ∈ l, n < m) → y.length + l.length ≤ 1000000 → J6 n l i y true = some (y ++ l, true)
 | [], i, y, _, _ => by simp [J6]
 | e :: l, i, y, h, hl => by
  simp only [List.length_cons] at hl
  have := h e (by simp)
  rw [J6, if_neg (by simp), if_pos (by simp; omega), chk_bind (by simp [lim]; omega), with_true l (i + 1) _ (fun m hm => h m (by simp [hm])) (by simp; omega)]
  simp
theorem with_false {n : Int} : ∀ (l : List Int) (i : Nat) (y : List Int), Asc l → y.length + l.length ≤ 100000 → ∃ z b, J6 n l i y false = some (z, b) ∧ (if b = true then z else z ++ [n]) = y ++ wth n l ∧ z.length ≤ 1000000
 | [], i, y, _, hl => ⟨y, false, rfl, rfl, by omega⟩
 | e :: l, i, y, h, hl => by
  simp only [List.length_cons] at hl
  obtain ⟨h1, h2⟩ := List.pairwise_cons.1 h
  rw [J6, wth]
  by_cases q : n ≤ e
  ·rw [if_pos (by simpa using q), chk_bind (by simp [lim]; omega)]
   by_cases q2 : e = n
   ·rw [if_neg (by simpa using q2), with_true l (i + 1) _ (fun m hm => by have := h1 m hm; omega) (by simp; omega), if_neg (by omega), if_pos q2.symm]
    exact ⟨_, _, rfl, by simp [q2], by simp; omega⟩
   ·rw [if_pos (by simpa using q2), chk_bind (by simp [lim]; omega), with_true l (i + 1) _ (fun m hm => by have := h1 m hm; omega) (by simp; omega), if_pos (by omega)]
    exact ⟨_, _, rfl, by simp, by simp; omega⟩
  ·rw [if_neg (by simpa using q), if_pos (by simp; omega), chk_bind (by simp [lim]; omega), if_neg (by omega), if_neg (by omega)]
   obtain ⟨z, b, e1, e2, e3⟩ := with_false l (i + 1) (y ++ [e]) h2 (by simp; omega)
   exact ⟨z, b, e1, by rw [e2]; simp, e3⟩
theorem with_eq {l : List Int} {n : Int} (h : Asc l) (hl : l.length ≤ 10000) : Jbv l n = some (wth n l) := by
 unfold Jbv
 obtain ⟨z, b, e1, e2, e3⟩ := with_false (n := n) l 0 [] h (by simp; omega)
 rw [chk_bind (by simp only [szMax]; omega), e1, Option.bind_some]
 cases b with
 | true => rw [if_neg (by simp)]; simpa using e2
 | false => rw [if_pos (by simp), chk_bind (by simp [lim]; omega)]; simpa using e2
structure SL (l : List Int) (σ : Int → Bool) : Prop where
 asc : Asc l
 rng : ∀ n ∈ l, 0 ≤ n ∧ n ≤ 511
 mem : ∀ n : Int, 0 ≤ n → n ≤ 511 → (n ∈ l ↔ σ n = true)
structure RR (len : Nat) (L : List RS) (B : AB) : Prop where
 last : B len = none
 len : L.length = len + 1
 bits : ∀ i s, L[i]? = some s → s.reached = (B i).isSome ∧ ∀ d σ, B i = some (d, σ) → s.depth = d ∧ 0 ≤ d ∧ d ≤ i ∧ s.stored.length ≤ i ∧ SL s.stored σ
theorem SL.both {a b : List Int} {σ τ : Int → Bool} (ha : SL a σ) (hb : SL b τ) : SL (a.filter (fun n => decide (n ∈ b))) (fun n => σ n && τ n) :=
 ⟨ha.asc.filter _, fun n hn => ha.rng n (List.mem_filter.1 hn).1, fun n h0 h1 => by
  rw [List.mem_filter, ha.mem n h0 h1, decide_eq_true_eq, hb.mem n h0 h1]; simp⟩
theorem SL.with {x : I} {l : List Int} {σ : Int → Bool} (h : SL l σ) (q : x.Op = 4) (hx : 0 ≤ x.N ∧ x.N ≤ 511) : SL (wth x.N l) (nxt x σ) :=
 ⟨wth_asc h.asc, fun n hn => by rcases wth_mem.1 hn with rfl | hn; exact hx; exact h.rng n hn, fun n h0 h1 => by
  unfold nxt
  rw [if_pos q, wth_mem, h.mem n h0 h1]; simp⟩
theorem rjoin {len k : Nat} {L : List RS} {B : AB} {l : List Int} {d : Int} {σ : Int → Bool} (h : RR len L B) (hk : k < len) (hl : len ≤ 2048) (ht : SL l σ) (hd : 0 ≤ d ∧ d ≤ k) (hll : l.length ≤ k) :
  ∃ s, ix L (k : Int) = some s ∧ ∃ s' b, Jbe s d l = some (s', b) ∧ match joinA (B k) d σ with
   | none => b = false
   | some a => b = true ∧ RR len (L.set k s') (updA B k a) := by
 have hk' : k < L.length := by rw [h.len]; omega
 obtain ⟨s, hs⟩ : ∃ s, L[k]? = some s := ⟨L[k], List.getElem?_eq_getElem _⟩
 obtain ⟨h1, h2⟩ := h.bits k s hs
 have up : ∀ (a : AS) (s' : RS), (s'.reached = a.isSome ∧ ∀ d σ, a = some (d, σ) → s'.depth = d ∧ 0 ≤ d ∧ d ≤ k ∧ s'.stored.length ≤ k ∧ SL s'.stored σ) → RR len (L.set k s') (updA B k a) := fun a s' ha =>
  ⟨by unfold updA; rw [if_neg (by omega)]; exact h.last, by rw [List.length_set]; exact h.len, fun i z hz => by
   unfold updA
   by_cases q : i = k
   ·subst q
    rw [List.getElem?_set_self hk'] at hz
    cases hz
    simp only [if_true]
    exact ha
   ·rw [List.getElem?_set_ne (fun e => q e.symm)] at hz
    simp only [if_neg q]
    exact h.bits i z hz⟩
 refine ⟨s, by unfold ix; rw [if_pos (by omega), Int.toNat_natCast]; exact hs, ?_⟩
 unfold Jbe
 cases hB : B k with
 | none =>
  rw [hB] at h1
  have h1 : s.reached = false := h1
  rw [if_pos (by simp [h1])]
  exact ⟨_, _, rfl, rfl, up (some (d, σ)) _ ⟨rfl, fun d' σ' e => by cases e; exact ⟨rfl, hd.1, hd.2, hll, ht⟩⟩⟩
 | some p =>
  obtain ⟨d0, σ0⟩ := p
  rw [hB] at h1
  have h1 : s.reached = true := h1
  obtain ⟨g1, g2, g3, g4, g5⟩ := h2 d0 σ0 hB
  rw [if_neg (by simp [h1]), both_eq ht.asc (by omega) (by omega), Option.bind_some]
  refine ⟨_, _, rfl, ?_⟩
  simp only [joinA]
  by_cases q : d0 = d
  ·rw [if_pos q]
   simp only
   refine ⟨by simp [g1, q], up _ _ ⟨rfl, fun d' σ' e => ?_⟩⟩
   cases e
   refine ⟨q.symm, g2, g3, ?_, g5.both ht⟩
   have := List.length_filter_le (fun n => decide (n ∈ l)) s.stored
   simp only
   omega
  ·rw [if_neg q]
   simp [g1, q]
theorem bsr {α : Type} {o : Option α} : o.bind (fun x => some x) = o := by cases o <;> rfl
theorem far_near {len i : Nat} {x : I} {B : AB} {d : Int} {σ : Int → Bool} : (far len i x B d σ).bind (fun B1 => near i x B1 d σ) = (near i x B d σ).bind (fun B1 => far len i x B1 d σ) := by
 unfold far near
 cases q : isJ x with
 | false =>
  simp only [Bool.false_eq_true, if_false, Option.bind_some]
  exact bsr.symm
 | true =>
  simp only [if_true]
  by_cases q9 : x.Op = 9
  ·simp only [if_pos q9, Option.bind_some]
   exact bsr
  ·simp only [if_neg q9]
   by_cases q2 : x.N ≤ i ∨ x.N ≥ len
   ·simp only [if_pos q2, Option.bind_none]
    cases joinA (B (i + 1)) d σ <;> rfl
   ·simp only [if_neg q2]
    by_cases e : x.N.toNat = i + 1
    ·rw [e]
    ·have e1 : ∀ a, updA B x.N.toNat a (i + 1) = B (i + 1) := fun a => by unfold updA; rw [if_neg (fun h => e h.symm)]
     have e2 : ∀ a, updA B (i + 1) a x.N.toNat = B x.N.toNat := fun a => by unfold updA; rw [if_neg e]
     cases q3 : joinA (B x.N.toNat) d σ with
     | none =>
      cases q4 : joinA (B (i + 1)) d σ with
      | none => rfl
      | some b =>
       simp only [Option.map_some, Option.map_none, Option.bind_some, Option.bind_none]
       rw [e2, q3]; rfl
     | some a =>
      cases q4 : joinA (B (i + 1)) d σ with
      | none =>
       simp only [Option.map_some, Option.map_none, Option.bind_some, Option.bind_none]
       rw [e1, q4]; rfl
      | some b =>
       simp only [Option.map_some, Option.bind_some]
       rw [e1, e2, q3, q4]
       simp only [Option.map_some]
       congr 1
       funext j
       unfold updA
       by_cases w1 : j = i + 1
       ·have : ¬ j = x.N.toNat := fun h => e (by omega)
        simp [w1, show ¬ i + 1 = x.N.toNat from fun h => e h.symm]
       ·simp [w1]
theorem rway {c : List I} {i k : Nat} {x : I} {s0 : RS} {w : Int × Int × Bool} {l ws : List Int} {j : Nat} {L : List RS} {B : AB} {d : Int} {σ : Int → Bool} (h : RR c.length L B) (hc : c.length ≤ 2048) (hi : i < k) (hk : k < c.length) (ht : SL l σ) (hd : (s0.depth - w.1) + w.2.1 = d) (hd0 : 0 ≤ d ∧ d ≤ k) (hll : l.length ≤ k) :
  match joinA (B k) d σ with
   | none => Jw i (c.map cv) (cv x) s0 w l ((k : Int) :: ws) j L = some (Fl.ret (0, false))
   | some a => ∃ L', Jw i (c.map cv) (cv x) s0 w l ((k : Int) :: ws) j L = Jw i (c.map cv) (cv x) s0 w l ws (j + 1) L' ∧ RR c.length L' (updA B k a) := by
 obtain ⟨s, e1, s', b, e2, e3⟩ := rjoin h hk hc ht hd0 hll
 have e : Jw i (c.map cv) (cv x) s0 w l ((k : Int) :: ws) j L = if (!b) = true then some (Fl.ret (0, false)) else Jw i (c.map cv) (cv x) s0 w l ws (j + 1) (L.set k s') := by
  rw [Jw, if_neg (by simp; omega), if_neg (by simp; omega), e1, Option.bind_some, hd, e2, Option.bind_some, Option.bind_some, Int.toNat_natCast]
 cases q : joinA (B k) d σ with
 | none =>
  rw [q] at e3
  have e3 : b = false := e3
  simp only
  rw [e, e3]; rfl
 | some a =>
  rw [q] at e3
  obtain ⟨e3, e4⟩ := e3
  simp only
  refine ⟨_, ?_, e4⟩
  rw [e, e3]; rfl
theorem rbad {c : List I} {i : Nat} {x : I} {s0 : RS} {w : Int × Int × Bool} {l ws : List Int} {j : Nat} {L : List RS} {n : Int} (h : n ≤ i ∨ n ≥ c.length) (hx : x.Op ≠ 12) : Jw i (c.map cv) (cv x) s0 w l (n :: ws) j L = some (Fl.ret (0, false)) := by
 rw [Jw]
 by_cases q : n ≤ i
 ·rw [if_pos (by simpa using q)]
 ·rw [if_neg (by simpa using q), if_pos]
  have : n ≥ c.length := by omega
  simp [cv, hx, this]
end Rt.Rc
set_option linter.unusedVariables false
set_option linter.unusedSimpArgs false
open Go Go.SL Go.Proofs Pl
namespace Rt.Rc
def RG (c : List I) (i : Nat) (g : Int) (L : List RS) (B : AB) : Prop :=
 ∃ r, JaA (c.map cv) ((c.drop i).map cv) i g L = some r ∧ match wk c.length i (c.drop i) B g with
  | some G => ∃ L', r = Fl.go (G, L')
  | none => r = Fl.ret (0, false)
set_option maxRecDepth 100000 in
theorem rstep {c : List I} (hc : c.length ≤ 2048) (hS : ∀ x ∈ c, x.S.length ≤ 100000) {i : Nat} {g : Int} {L : List RS} {B : AB} (hlt : i < c.length) (hR : RR c.length L B) (ih : ∀ g L B, (i + 1 < c.length → RR c.length L B) → RG c (i + 1) g L B) : RG c i g L B := by
 unfold RG at ih ⊢
 obtain ⟨s, hs⟩ : ∃ s, L[i]? = some s := ⟨L[i]'(by rw [hR.len]; omega), List.getElem?_eq_getElem _⟩
 have hsx : ix L (i : Int) = some s := by unfold ix; rw [if_pos (by omega), Int.toNat_natCast]; exact hs
 obtain ⟨r1, r2⟩ := hR.bits i s hs
 rw [List.drop_eq_getElem_cons hlt, List.map_cons]
 have hxS := hS c[i] (List.getElem_mem hlt)
 obtain ⟨t, l, e1, e2⟩ := effect_pure (x := c[i]) hxS
 generalize hx : c[i] = x at *
 rw [JaA, e1, Option.bind_some, hsx, Option.bind_some, wk_cons]
 have hlast : decide ((i : Int) = (((c.map cv).length : Int) - 1)) = decide (i + 1 = c.length) := by rw [decide_eq_decide, List.length_map]; omega
 rw [hlast, chk_bind (by rw [List.length_map]; constructor <;> omega)]
 have fail : ∀ {o : Option Int}, o = none → ∃ r, some (Fl.ret (0, false)) = (some r : Option (Fl (Int × Bool) (Int × List RS))) ∧ match o with
  | some G => ∃ L', r = Fl.go (G, L')
  | none => r = Fl.ret (0, false) := fun h => ⟨_, rfl, by rw [h]⟩
 cases he : eff x with
 | none =>
  rw [if_pos (by simp), Option.bind_some, if_pos rfl]
  exact fail (by simp [stA, he])
 | some tl =>
 obtain ⟨t', l'⟩ := tl
 obtain ⟨rfl, rfl⟩ := e2 t' l' he
 obtain ⟨b1, b2, b3, b4, b5, b6⟩ := eff_bd he
 cases hB : B i with
 | none =>
  rw [hB] at r1
  have r1 : s.reached = false := r1
  rw [if_pos (by simp [r1]), Option.bind_some, if_pos rfl]
  exact fail (by simp [stA, he, hB])
 | some p =>
 obtain ⟨d, σ⟩ := p
 rw [hB] at r1
 have r1 : s.reached = true := r1
 obtain ⟨h1, h2, h3, h4, h5⟩ := r2 d σ hB
 by_cases q1 : d < t
 ·rw [if_pos (by simp [h1, q1]), Option.bind_some, if_pos rfl]
  exact fail (by simp [stA, he, hB, q1])
 rw [if_neg (by simp [r1, h1, q1]), Option.bind_some]
 have hcv : (cv x).Op = x.Op := rfl
 have hcn : (cv x).N = x.N := rfl
 rw [hcv, hcn]
 by_cases q2 : (x.Op = 12) ↔ (i + 1 = c.length)
 ·have e : (decide (x.Op = 12) == decide (i + 1 = c.length)) = true := by
   by_cases w2 : i + 1 = c.length
   ·simp [q2.2 w2, w2]
   ·have w1 : ¬ x.Op = 12 := fun w => w2 (q2.1 w)
    simp [w1, w2]
  rw [e, if_neg (by simp)]
  by_cases q0 : x.Op = 12 ∧ d > 0
  ·rw [if_pos (by simp [q0.1, h1, q0.2])]
   have hn3 : ¬ x.Op = 3 := by omega
   refine fail ?_
   have : ¬ d = 0 := by omega
   simp [stA, he, hB, q1, q2, q0.1, this, hn3]
  rw [if_neg (by simp [h1]; intro w; omega)]
  have hload : (if decide (x.Op = 3) = true then (Jbm s.stored [x.N]).bind fun x93 => (JbD x93 [x.N]).bind fun x97 => some (!x97) else some false) = some (decide (x.Op = 3 ∧ σ x.N = false)) := by
   by_cases w : x.Op = 3
   ·have := b6 (.inl w)
    rw [if_pos (by simpa using w), both_eq (by simp [Asc]) (by omega) (by simp), Option.bind_some, ints1 h5.asc, Option.bind_some]
    have hm := h5.mem x.N this.1 this.2
    by_cases w2 : x.N ∈ s.stored
    ·simp [w, w2, hm.1 w2]
    ·have : σ x.N = false := by
      cases q : σ x.N with
      | false => rfl
      | true => exact absurd (hm.2 q) w2
     simp [w, w2, this]
   ·rw [if_neg (by simpa using w)]; simp [w]
  rw [hload, Option.bind_some]
  by_cases q3 : x.Op = 3 ∧ σ x.N = false
  ·rw [if_pos (by simpa using q3)]
   exact fail (by simp [stA, he, hB, q3])
  rw [if_neg (by simpa using q3), chk_bind (by simp only; constructor <;> omega), chk_bind (by simp only; constructor <;> omega)]
  have hst : stA c.length i x B g = if x.Op = 12 then (if d = 0 then some (B, max (max g d) (d + (l - t))) else none) else (far c.length i x B (d + (l - t)) (nxt x σ)).bind fun B1 => (near i x B1 (d + (l - t)) (nxt x σ)).map fun B2 => (B2, max (max g d) (d + (l - t))) := by
   unfold stA
   rw [he, hB]
   simp only
   rw [if_neg]
   rintro (w | w | w)
   ·exact q1 w
   ·exact w q2
   ·exact q3 w
  rw [hst]
  obtain ⟨sl, hsl, hSL, hsll⟩ : ∃ sl, (if decide (x.Op = 4) = true then (Jbv s.stored x.N).bind fun x114 => some x114 else some s.stored : Option (List Int)) = some sl ∧ SL sl (nxt x σ) ∧ sl.length ≤ i + 1 := by
   by_cases w : x.Op = 4
   ·have := b6 (.inr w)
    rw [if_pos (by simpa using w), with_eq h5.asc (by omega), Option.bind_some]
    have hw := wth_len (n := x.N) (l := s.stored)
    exact ⟨_, rfl, h5.with w this, by omega⟩
   ·rw [if_neg (by simpa using w)]
    refine ⟨_, rfl, ?_, by omega⟩
    have : nxt x σ = σ := by unfold nxt; rw [if_neg w]
    rw [this]; exact h5
  rw [hsl, Option.bind_some]
  have hmx : ∀ a b : Int, max (max g s.depth) ((s.depth - t) + l) = max (max g d) (d + (l - t)) := fun _ _ => by rw [h1]; congr 1; omega
  have hdd : (s.depth - t) + l = d + (l - t) := by rw [h1]; omega
  by_cases q12 : x.Op = 12
  ·-- the end
   have q4 := q2.1 q12
   obtain ⟨rfl, rfl⟩ := b5 q12
   have d0 : d = 0 := by omega
   rw [if_pos q12, if_pos d0, if_neg (by simp [q12]), Option.bind_some, if_neg (by simp [q12]), Option.bind_some, chk_bind (by simp [szMax])]
   have hkL : c.length < L.length := by rw [hR.len]; omega
   have hlx : ix L ((i : Int) + 1) = some L[c.length] := by
    have := ixn (s := L) hkL
    rw [← this]; congr 1; omega
   have hz : (L[c.length]).reached = false := by
    have := (hR.bits c.length _ (List.getElem?_eq_getElem hkL)).1
    rw [hR.last] at this; exact this
   rw [Jw, if_neg (by simp only [decide_eq_true_eq]; omega), if_neg (by simp [cv, q12]), hlx, Option.bind_some, Jbe, if_pos (by simp [hz]), Option.bind_some, Option.bind_some, if_neg (by simp), Jw, Option.bind_some, el_go, Option.bind_some]
   simp only
   rw [hmx 0 0]
   exact ih _ _ B fun h => by omega
  ·have q4 : ¬ i + 1 = c.length := fun w => q12 (q2.2 w)
   rw [if_neg q12, show (far c.length i x B (d + (l - t)) (nxt x σ)).bind (fun B1 => (near i x B1 (d + (l - t)) (nxt x σ)).map fun B2 => (B2, max (max g d) (d + (l - t)))) = ((far c.length i x B (d + (l - t)) (nxt x σ)).bind (fun B1 => near i x B1 (d + (l - t)) (nxt x σ))).map fun B2 => (B2, max (max g d) (d + (l - t))) by
    cases far c.length i x B (d + (l - t)) (nxt x σ) <;> rfl, far_near]
   have fin : ∀ (o : Option (List RS)) (a : Option AB), (match a with | none => o = none | some B' => ∃ L', o = some L' ∧ RR c.length L' B') → ∃ r, ((match o with | none => some (Fl.ret (0, false)) | some L' => some (Fl.go L') : Option (Fl (Int × Bool) (List RS))).bind fun s2 => s2.el (fun r => some (Fl.ret r)) fun t2 => JaA (c.map cv) ((c.drop (i + 1)).map cv) (i + 1) (max (max g s.depth) ((s.depth - t) + l)) t2) = some r ∧ match (a.map fun B2 => (B2, max (max g d) (d + (l - t)))).bind fun r => wk c.length (i + 1) (c.drop (i + 1)) r.1 r.2 with
     | some G => ∃ L', r = Fl.go (G, L')
     | none => r = Fl.ret (0, false) := fun o a h => by
    cases a with
    | none =>
     have h : o = none := h
     subst h
     exact ⟨_, rfl, rfl⟩
    | some B' =>
     obtain ⟨L', rfl, hR'⟩ := h
     simp only [Option.bind_some, el_go, Option.map_some]
     rw [hmx 0 0]
     exact ih _ L' B' fun _ => hR'
   by_cases q9 : x.Op = 9
   ·-- a jump
    have hj : isJ x = true := by simp [isJ, q9]
    rw [if_pos (by simpa using q9), Option.bind_some, if_neg (by simp [q9]), Option.bind_some, chk_bind (by simp [szMax])]
    have hnear : near i x B (d + (l - t)) (nxt x σ) = some B := by unfold near; rw [if_pos q9]
    rw [hnear, Option.bind_some]
    unfold far
    rw [if_pos hj]
    by_cases q5 : x.N ≤ i ∨ x.N ≥ c.length
    ·rw [if_pos q5, rbad q5 q12]
     exact fin none none rfl
    ·rw [if_neg q5]
     obtain ⟨k, hk⟩ : ∃ k : Nat, x.N = (k : Int) := ⟨x.N.toNat, by omega⟩
     have hw := rway (x := x) (s0 := s) (w := (t, l, (some (t, l)).isSome)) (ws := []) (j := 0) hR hc (show i < k by omega) (show k < c.length by omega) hSL hdd ⟨by omega, by omega⟩ (by omega)
     rw [hk, Int.toNat_natCast]
     cases q6 : joinA (B k) (d + (l - t)) (nxt x σ) with
     | none =>
      rw [q6] at hw
      simp only at hw
      rw [hw]
      exact fin none none rfl
     | some a =>
      rw [q6] at hw
      obtain ⟨L', w1, w2⟩ := hw
      rw [w1, Jw]
      exact fin (some L') (some (updA B k a)) ⟨L', rfl, w2⟩
   ·rw [if_neg (by simpa using q9), Option.bind_some]
    have hw := rway (x := x) (s0 := s) (w := (t, l, (some (t, l)).isSome)) (ws := if x.Op = 10 then [x.N] else []) (j := 0) hR hc (show i < i + 1 by omega) (show i + 1 < c.length by omega) hSL hdd ⟨by omega, by omega⟩ hsll
    have hws : (if decide (x.Op = 10) = true then (chk (([((i : Int) + 1)] : List Int).length + [x.N].length ≤ lim)).bind fun _ => some ([((i : Int) + 1)] ++ [x.N]) else some [((i : Int) + 1)] : Option (List Int)) = some (((i + 1 : Nat) : Int) :: if x.Op = 10 then [x.N] else []) := by
     by_cases w : x.Op = 10
     ·rw [if_pos (by simpa using w), chk_bind (by simp [lim]), if_pos w]; rfl
     ·rw [if_neg (by simpa using w), if_neg w]; rfl
    rw [hws, Option.bind_some, chk_bind (by split <;> simp [szMax])]
    unfold near
    rw [if_neg q9]
    cases q6 : joinA (B (i + 1)) (d + (l - t)) (nxt x σ) with
    | none =>
     rw [q6] at hw
     simp only at hw
     rw [hw]
     exact fin none none rfl
    | some a =>
     rw [q6] at hw
     obtain ⟨L', w1, w2⟩ := hw
     rw [w1]
     simp only [Option.map_some, Option.bind_some]
     unfold far
     by_cases q10 : x.Op = 10
     ·have hj : isJ x = true := by simp [isJ, q10]
      rw [if_pos q10, if_pos hj]
      by_cases q5 : x.N ≤ i ∨ x.N ≥ c.length
      ·rw [if_pos q5, rbad q5 q12]
       exact fin none none rfl
      ·rw [if_neg q5]
       obtain ⟨k, hk⟩ : ∃ k : Nat, x.N = (k : Int) := ⟨x.N.toNat, by omega⟩
       have hw2 := rway (x := x) (s0 := s) (w := (t, l, (some (t, l)).isSome)) (ws := []) (j := 1) w2 hc (show i < k by omega) (show k < c.length by omega) hSL hdd ⟨by omega, by omega⟩ (by omega)
       rw [hk, Int.toNat_natCast]
       cases q7 : joinA (updA B (i + 1) a k) (d + (l - t)) (nxt x σ) with
       | none =>
        rw [q7] at hw2
        simp only at hw2
        rw [hw2]
        exact fin none none rfl
       | some a2 =>
        rw [q7] at hw2
        obtain ⟨L2, v1, v2⟩ := hw2
        rw [v1, Jw]
        exact fin (some L2) (some (updA (updA B (i + 1) a) k a2)) ⟨L2, rfl, v2⟩
     ·have hj : isJ x = false := by simp [isJ, q9, q10]
      rw [if_neg q10, if_neg (by simp [hj]), Jw]
      exact fin (some L') (some (updA B (i + 1) a)) ⟨L', rfl, w2⟩
 ·have e : (decide (x.Op = 12) == decide (i + 1 = c.length)) = false := by
   by_cases w1 : x.Op = 12
   ·by_cases w2 : i + 1 = c.length
    ·exact absurd (by simp [w1, w2]) q2
    ·simp [w1, w2]
   ·by_cases w2 : i + 1 = c.length
    ·simp [w1, w2]
    ·exact absurd (by simp [w1, w2]) q2
  rw [e, if_pos (by simp)]
  exact fail (by simp [stA, he, hB, q2])
theorem rwalk {c : List I} (hc : c.length ≤ 2048) (hS : ∀ x ∈ c, x.S.length ≤ 100000) : ∀ (m i : Nat) (g : Int) (L : List RS) (B : AB), i + m = c.length → (i < c.length → RR c.length L B) → RG c i g L B
 | 0, i, g, L, B, hi, _ => by
  unfold RG
  rw [List.drop_eq_nil_of_le (by omega)]
  exact ⟨_, rfl, L, rfl⟩
 | m + 1, i, g, L, B, hi, hR => rstep hc hS (by omega) (hR (by omega)) fun g L B hR => rwalk hc hS m (i + 1) g L B (by omega) hR
theorem Depth_pure {c : List I} (hS : ∀ x ∈ c, x.S.length ≤ 100000) : JbE (c.map cv) = some (match depthOf c with
  | some G => (G, true)
  | none => (0, false)) := by
 unfold JbE depthOf
 rw [List.length_map]
 by_cases q : c.length < 1 ∨ c.length > 2048
 ·have e : (decide ((c.length : Int) < 1) || decide ((c.length : Int) > 2048)) = true := by
   simp only [Bool.or_eq_true, decide_eq_true_eq]; omega
  rw [if_pos e, if_pos q]
 ·have e : (decide ((c.length : Int) < 1) || decide ((c.length : Int) > 2048)) = false := by
   simp only [Bool.or_eq_false_iff, decide_eq_false_iff_not]; omega
  rw [if_neg (by rw [e]; simp), if_neg q]
  have hn : Int.toNat ((c.length : Int) + 1) = c.length + 1 := by omega
  have hz : ix (List.replicate (Int.toNat ((c.length : Int) + 1)) ((⟨false, 0, []⟩ : Jk) : Jk)) 0 = some ⟨false, 0, []⟩ := by
   rw [hn]; rfl
  rw [chk_bind (by constructor <;> omega), chk_bind (by simp only [lim]; omega), hz, Option.bind_some, chk_bind (by simp only [szMax]; omega)]
  have hR : RR c.length ((List.replicate (Int.toNat ((c.length : Int) + 1)) ((⟨false, 0, []⟩ : Jk) : Jk)).set ((0 : Int).toNat) ⟨true, 0, []⟩) B0 := by
   rw [hn]
   refine ⟨by unfold B0; rw [if_neg (by omega)], by simp, fun i s hs => ?_⟩
   rw [show ((0 : Int)).toNat = 0 from rfl] at hs
   unfold B0
   by_cases q0 : i = 0
   ·subst q0
    rw [List.getElem?_set_self (by simp)] at hs
    cases hs
    refine ⟨rfl, fun d σ h => ?_⟩
    simp only [if_true] at h
    cases h
    exact ⟨rfl, by omega, by omega, by simp, by simp [Asc], fun n hn => (by cases hn), fun n _ _ => by simp⟩
   ·rw [List.getElem?_set_ne (fun e => q0 e.symm)] at hs
    have := List.mem_of_getElem? hs
    rw [List.mem_replicate] at this
    rw [this.2, if_neg q0]
    exact ⟨rfl, fun d σ h => by cases h⟩
  obtain ⟨r, h1, h2⟩ := rwalk (by omega) hS c.length 0 0 _ B0 (by omega) fun _ => hR
  rw [List.drop_zero] at h1 h2
  simp only
  rw [h1, Option.bind_some]
  cases q3 : wk c.length 0 c B0 0 with
  | none => rw [q3] at h2; have h2 : r = Fl.ret (0, false) := h2; rw [h2, el_ret]
  | some G => rw [q3] at h2; obtain ⟨L', rfl⟩ := h2; rw [el_go]
end Rt.Rc
set_option linter.unusedVariables false
set_option linter.unusedSimpArgs false
open Go Go.SL Go.Proofs Pl
namespace Rt.Rc
end Rt.Rc
set_option linter.unusedVariables false
set_option linter.unusedSimpArgs false
open Go Go.SL Go.Proofs Pl
namespace Rt.Rc
abbrev St := Int → Bool
def cap (a b : St) : St := fun n => a n && b n
theorem cap_self (a : St) : cap a a = a := by funext n; simp [cap]
theorem cap_comm (a b : St) : cap a b = cap b a := by funext n; simp [cap, Bool.and_comm]
theorem cap_assoc (a b c : St) : cap (cap a b) c = cap a (cap b c) := by funext n; simp [cap, Bool.and_assoc]
theorem joinA_join {b a : AS} {d : Int} {σ τ : St} (h : joinA b d σ = some a) : joinA a d τ = joinA b d (cap σ τ) := by
 cases b with
 | none => cases h; simp only [joinA, if_true]; rfl
 | some p =>
  obtain ⟨d0, σ0⟩ := p
  unfold joinA at h
  simp only at h
  split at h
  ·rename_i q
   subst q
   cases h
   simp only [joinA, if_true]
   exact congrArg some (congrArg some (Prod.ext rfl (cap_assoc σ0 σ τ)))
  ·cases h
theorem joinA_ok {b : AS} {d : Int} (h : ∀ e, b = some e → e.1 = d) (σ : St) : ∃ τ, joinA b d σ = some (some (d, τ)) ∧ (b = none → τ = σ) := by
 cases b with
 | none => exact ⟨σ, rfl, fun _ => rfl⟩
 | some p =>
  obtain ⟨d0, σ0⟩ := p
  have := h _ rfl
  simp only at this
  subst this
  exact ⟨cap σ0 σ, by simp only [joinA, if_true]; rfl, fun e => by cases e⟩
def Sg1 (len b : Nat) (L : List I) (d δ : Int) (σ : St) (Q : St → Prop) : Prop :=
 ∀ (B : AB) (g : Int), B b = some (d, σ) → (∀ j, b < j → j < b + L.length → B j = none) → (∀ e, B (b + L.length) = some e → e.1 = d + δ) →
  ∃ σ' B' g', Q σ' ∧ (∀ R, wk len b (L ++ R) B g = wk len (b + L.length) R B' g') ∧ joinA (B (b + L.length)) (d + δ) σ' = some (B' (b + L.length)) ∧ ∀ j, b + L.length < j → B' j = B j
def Seg (len b : Nat) (L : List I) (d δ : Int) (σ : St) (Q : St → Prop) : Prop := (L = [] ∧ δ = 0 ∧ Q σ) ∨ (L ≠ [] ∧ Sg1 len b L d δ σ Q)
theorem Seg.mono {len b : Nat} {L : List I} {d δ : Int} {σ : St} {Q R : St → Prop} (h : Seg len b L d δ σ Q) (hq : ∀ τ, Q τ → R τ) : Seg len b L d δ σ R := by
 rcases h with ⟨h1, h2, h3⟩ | ⟨h1, h2⟩
 ·exact .inl ⟨h1, h2, hq _ h3⟩
 ·exact .inr ⟨h1, fun B g a b c => by obtain ⟨σ', B', g', k, r⟩ := h2 B g a b c; exact ⟨σ', B', g', hq _ k, r⟩⟩
theorem Seg.run {len b : Nat} {L : List I} {d δ : Int} {σ : St} {Q : St → Prop} (h : Seg len b L d δ σ Q) {B : AB} {g : Int} (hB : B b = some (d, σ)) (hn : ∀ j, b < j → j ≤ b + L.length → B j = none) :
  ∃ σ' B' g', Q σ' ∧ (∀ R, wk len b (L ++ R) B g = wk len (b + L.length) R B' g') ∧ B' (b + L.length) = some (d + δ, σ') ∧ ∀ j, b + L.length < j → B' j = B j := by
 rcases h with ⟨rfl, rfl, h3⟩ | ⟨h1, h2⟩
 ·exact ⟨σ, B, g, h3, fun R => rfl, by simpa using hB, fun j _ => rfl⟩
 ·have hl : 0 < L.length := List.length_pos_iff.2 h1
  have he : B (b + L.length) = none := hn _ (by omega) (Nat.le_refl _)
  obtain ⟨σ', B', g', k1, k2, k3, k4⟩ := h2 B g hB (fun j a b => hn j a (by omega)) fun e h => by rw [he] at h; cases h
  rw [he] at k3
  exact ⟨σ', B', g', k1, k2, (Option.some.inj k3).symm, k4⟩
theorem Seg.append {len b : Nat} {L M : List I} {d δ ε : Int} {σ : St} {Q R : St → Prop} (h : Seg len b L d δ σ Q) (h2 : ∀ τ, Q τ → Seg len (b + L.length) M (d + δ) ε τ R) (hM : M ≠ []) : Seg len b (L ++ M) d (δ + ε) σ R := by
 have hm : 0 < M.length := List.length_pos_iff.2 hM
 refine .inr ⟨by simp [hM], fun B g a1 a2 a3 => ?_⟩
 simp only [List.length_append] at a2 a3 ⊢
 obtain ⟨τ, B1, g1, q1, q2, q3, q4⟩ := h.run a1 fun j x y => a2 j x (by omega)
 rcases h2 τ q1 with ⟨e, _⟩ | ⟨_, k⟩
 ·exact absurd e hM
 ·rw [show b + (L.length + M.length) = b + L.length + M.length by omega] at a3 ⊢
  have e1 : B1 (b + L.length + M.length) = B (b + L.length + M.length) := q4 _ (by omega)
  obtain ⟨τ', B2, g2, p1, p2, p3, p4⟩ := k B1 g1 q3 (fun j x y => by rw [q4 j (by omega)]; exact a2 j (by omega) (by omega)) fun e h => by rw [e1] at h; rw [a3 e h]; omega
  refine ⟨τ', B2, g2, p1, fun R => by rw [List.append_assoc, q2, p2], ?_, fun j hj => by rw [p4 j hj, q4 j (by omega)]⟩
  rw [← p3, e1, show d + (δ + ε) = d + δ + ε by omega]
theorem Seg.one {len b : Nat} {x : I} {d t l : Int} {σ : St} (he : eff x = some (t, l)) (ht : t ≤ d) (hj : isJ x = false) (h12 : x.Op ≠ 12) (h3 : x.Op = 3 → σ x.N = true) (hb : b + 1 < len) : Seg len b [x] d (l - t) σ (fun τ => τ = nxt x σ) := by
 refine .inr ⟨by simp, fun B g a1 a2 a3 => ?_⟩
 simp only [List.length_cons, List.length_nil, Nat.zero_add] at a2 a3 ⊢
 obtain ⟨τ, ha, _⟩ := joinA_ok a3 (nxt x σ)
 refine ⟨nxt x σ, updA B (b + 1) (some (d + (l - t), τ)), max (max g d) (d + (l - t)), rfl, fun R => ?_, ?_, fun j hj => ?_⟩
 ·have h9 : x.Op ≠ 9 := by unfold isJ at hj; simp at hj; exact hj.1
  rw [List.cons_append, List.nil_append, wk_cons]
  unfold stA
  rw [he, a1]
  simp only
  have hno : ¬ (d < t ∨ ¬ ((x.Op = 12) ↔ (b + 1 = len)) ∨ (x.Op = 3 ∧ σ x.N = false)) := by
   intro h
   rcases h with h | h | h
   ·omega
   ·exact h ⟨fun q => absurd q h12, fun q => by omega⟩
   ·have := h3 h.1
    rw [h.2] at this
    cases this
  rw [if_neg hno, if_neg h12]
  unfold far near
  rw [if_neg (by simp [hj]), Option.bind_some, if_neg h9, ha]
  rfl
 ·rw [ha]; unfold updA; rw [if_pos rfl]
 ·unfold updA; rw [if_neg (by omega)]
theorem eff_10 {n : Int} : eff ⟨10, n, []⟩ = some (1, 0) := by simp [eff]
theorem eff_9 {n : Int} : eff ⟨9, n, []⟩ = some (0, 0) := by simp [eff]
theorem Seg.if2 {len b : Nat} {T : List I} {d : Int} {σ : St} {Q R : St → Prop} (hd : 1 ≤ d) (hT : Seg len (b + 1) T (d - 1) 0 σ Q) (hb : b + 1 + T.length < len) (hR : ∀ τ, Q τ → R (cap σ τ)) : Seg len b (⟨10, (b + 1 + T.length : Nat), []⟩ :: T) d (-1) σ R := by
 refine .inr ⟨by simp, fun B g a1 a2 a3 => ?_⟩
 simp only [List.length_cons] at a2 a3 ⊢
 rw [show b + (T.length + 1) = b + 1 + T.length by omega] at a2 a3 ⊢
 have a3' : ∀ e, B (b + 1 + T.length) = some e → e.1 = d - 1 := fun e h => by rw [a3 e h]; omega
 obtain ⟨τ, ha, _⟩ := joinA_ok a3' σ
 have st : ∀ B2, near b ⟨10, (b + 1 + T.length : Nat), []⟩ (updA B (b + 1 + T.length) (some (d - 1, τ))) (d - 1) σ = some B2 → ∀ R', wk len b ((⟨10, (b + 1 + T.length : Nat), []⟩ : I) :: R') B g = wk len (b + 1) R' B2 (max (max g d) (d - 1)) := fun B2 h R' => by
  rw [wk_cons]
  unfold stA
  rw [eff_10, a1]
  simp only
  rw [if_neg (by simp; omega), if_neg (by simp)]
  unfold far
  rw [show isJ (⟨10, ((b + 1 + T.length : Nat) : Int), []⟩ : I) = true from rfl, if_pos rfl, if_neg (by simp only; omega)]
  simp only [Int.toNat_natCast]
  rw [show d + (0 - 1) = d - 1 by omega, show nxt (⟨10, ((b + 1 + T.length : Nat) : Int), []⟩ : I) σ = σ from by unfold nxt; simp, ha]
  simp only [Option.map_some, Option.bind_some]
  rw [h]
  simp
 rcases hT with ⟨rfl, _, hq⟩ | ⟨hT, hk⟩
 ·simp only [List.length_nil, Nat.add_zero] at a3 a3' ha st ⊢
  have ha2 : joinA (some (d - 1, τ)) (d - 1) σ = some (some (d - 1, cap τ σ)) := by simp only [joinA, if_true]; rfl
  refine ⟨σ, _, _, by have := hR _ hq; rwa [cap_self] at this, fun R' => st (updA (updA B (b + 1) (some (d - 1, τ))) (b + 1) (some (d - 1, cap τ σ))) ?_ R', ?_, fun j hj => ?_⟩
  ·unfold near
   rw [if_neg (by simp), show updA B (b + 1) (some (d - 1, τ)) (b + 1) = some (d - 1, τ) from if_pos rfl, ha2]; rfl
  ·rw [show d + -1 = d - 1 by omega, show updA (updA B (b + 1) (some (d - 1, τ))) (b + 1) (some (d - 1, cap τ σ)) (b + 1) = some (d - 1, cap τ σ) from if_pos rfl, ← ha2, joinA_join ha, cap_self]
  ·unfold updA; rw [if_neg (by omega), if_neg (by omega)]
 ·have hl : 0 < T.length := List.length_pos_iff.2 hT
  have hnear : near b ⟨10, (b + 1 + T.length : Nat), []⟩ (updA B (b + 1 + T.length) (some (d - 1, τ))) (d - 1) σ = some (updA (updA B (b + 1 + T.length) (some (d - 1, τ))) (b + 1) (some (d - 1, σ))) := by
   unfold near
   rw [if_neg (by simp), show updA B (b + 1 + T.length) (some (d - 1, τ)) (b + 1) = none from by unfold updA; rw [if_neg (by omega)]; exact a2 _ (by omega) (by omega)]
   rfl
  obtain ⟨σ', B', g', k1, k2, k3, k4⟩ := hk (updA (updA B (b + 1 + T.length) (some (d - 1, τ))) (b + 1) (some (d - 1, σ))) (max (max g d) (d - 1)) (if_pos rfl)
   (fun j x y => by unfold updA; rw [if_neg (by omega), if_neg (by omega)]; exact a2 j (by omega) (by omega))
   (fun e h => by unfold updA at h; rw [if_neg (by omega), if_pos rfl] at h; cases h; simp)
  refine ⟨cap σ σ', B', g', hR _ k1, fun R' => by rw [List.cons_append, st _ hnear, k2], ?_, fun j hj => ?_⟩
  ·rw [show updA (updA B (b + 1 + T.length) (some (d - 1, τ))) (b + 1) (some (d - 1, σ)) (b + 1 + T.length) = some (d - 1, τ) from by unfold updA; rw [if_neg (by omega), if_pos rfl], show d - 1 + 0 = d - 1 by omega] at k3
   rw [← k3, joinA_join ha, show d + -1 = d - 1 by omega]
  ·rw [k4 j hj]; unfold updA; rw [if_neg (by omega), if_neg (by omega)]
theorem Seg.if3 {len b : Nat} {T O : List I} {d δ : Int} {σ : St} {Q P R : St → Prop} (hd : 1 ≤ d) (hdB : 1 ≤ d + δ) (hT : Seg len (b + 1) T (d - 1) δ σ Q) (hO : Seg len (b + 1 + T.length + 1) O (d - 1) δ σ P) (hb : b + 1 + T.length + 1 + O.length < len) (hR : ∀ τ υ, Q τ → P υ → R (cap τ υ)) :
  Seg len b (⟨10, (b + 1 + T.length + 1 : Nat), []⟩ :: (T ++ ⟨9, (b + 1 + T.length + 1 + O.length : Nat), []⟩ :: O)) d (δ - 1) σ R := by
 refine .inr ⟨by simp, fun B g a1 a2 a3 => ?_⟩
 simp only [List.length_cons, List.length_append] at a2 a3 ⊢
 rw [show b + (T.length + (O.length + 1) + 1) = b + 1 + T.length + 1 + O.length by omega] at a2 a3 ⊢
 have a3' : ∀ e, B (b + 1 + T.length + 1 + O.length) = some e → e.1 = d - 1 + δ := fun e h => by rw [a3 e h]; omega
 have hq : ∀ e, B (b + 1 + T.length + 1) = some e → e.1 = d - 1 := fun e h => by
  rcases hO with ⟨rfl, e0, _⟩ | ⟨hO, _⟩
  ·rw [a3' e h]; omega
  ·have hl : 0 < O.length := List.length_pos_iff.2 hO
   rw [a2 _ (by omega) (by omega)] at h; cases h
 obtain ⟨τ, ha, hτ⟩ := joinA_ok hq σ
 have st : ∀ R', wk len b ((⟨10, (b + 1 + T.length + 1 : Nat), []⟩ : I) :: R') B g = wk len (b + 1) R' (updA (updA B (b + 1 + T.length + 1) (some (d - 1, τ))) (b + 1) (some (d - 1, σ))) (max (max g d) (d - 1)) := fun R' => by
  rw [wk_cons]
  unfold stA
  rw [eff_10, a1]
  simp only
  rw [if_neg (by simp; omega), if_neg (by simp)]
  unfold far
  rw [show isJ (⟨10, ((b + 1 + T.length + 1 : Nat) : Int), []⟩ : I) = true from rfl, if_pos rfl, if_neg (by simp only; omega)]
  simp only [Int.toNat_natCast]
  rw [show d + (0 - 1) = d - 1 by omega, show nxt (⟨10, ((b + 1 + T.length + 1 : Nat) : Int), []⟩ : I) σ = σ from by unfold nxt; simp, ha]
  simp only [Option.map_some, Option.bind_some]
  unfold near
  rw [if_neg (by simp), show updA B (b + 1 + T.length + 1) (some (d - 1, τ)) (b + 1) = none from by unfold updA; rw [if_neg (by omega)]; exact a2 _ (by omega) (by omega)]
  simp [joinA]
 generalize hB2 : updA (updA B (b + 1 + T.length + 1) (some (d - 1, τ))) (b + 1) (some (d - 1, σ)) = B2 at st
 generalize max (max g d) (d - 1) = g2 at st
 have b1 : B2 (b + 1) = some (d - 1, σ) := by rw [← hB2]; exact if_pos rfl
 have b2 : B2 (b + 1 + T.length + 1) = some (d - 1, τ) := by rw [← hB2]; unfold updA; rw [if_neg (by omega), if_pos rfl]
 have b3 : ∀ j, b + 1 < j → j ≠ b + 1 + T.length + 1 → B2 j = B j := fun j x y => by rw [← hB2]; unfold updA; rw [if_neg (by omega), if_neg y]
 obtain ⟨σT, B3, g3, q1, q2, q3, q4⟩ := hT.run (g := g2) b1 fun j x y => by rw [b3 j x (by omega)]; exact a2 j (by omega) (by omega)
 have a4 : ∀ e, B3 (b + 1 + T.length + 1 + O.length) = some e → e.1 = d - 1 + δ := fun e h => by
  rw [q4 _ (by omega)] at h
  rcases hO with ⟨rfl, e0, _⟩ | ⟨hO, _⟩
  ·simp only [List.length_nil, Nat.add_zero] at h
   rw [b2] at h
   cases h
   simp only
   omega
  ·have hl : 0 < O.length := List.length_pos_iff.2 hO
   rw [b3 _ (by omega) (by omega)] at h
   exact a3' e h
 obtain ⟨υ, hu, _⟩ := joinA_ok a4 σT
 have st2 : ∀ R', wk len (b + 1 + T.length) ((⟨9, (b + 1 + T.length + 1 + O.length : Nat), []⟩ : I) :: R') B3 g3 = wk len (b + 1 + T.length + 1) R' (updA B3 (b + 1 + T.length + 1 + O.length) (some (d - 1 + δ, υ))) (max (max g3 (d - 1 + δ)) (d - 1 + δ)) := fun R' => by
  rw [wk_cons]
  unfold stA
  rw [eff_9, q3]
  simp only
  rw [if_neg (by simp; omega), if_neg (by simp)]
  unfold far
  rw [show isJ (⟨9, ((b + 1 + T.length + 1 + O.length : Nat) : Int), []⟩ : I) = true from rfl, if_pos rfl, if_neg (by simp only; omega)]
  simp only [Int.toNat_natCast]
  rw [show d - 1 + δ + (0 - 0) = d - 1 + δ by omega, show nxt (⟨9, ((b + 1 + T.length + 1 + O.length : Nat) : Int), []⟩ : I) σT = σT from by unfold nxt; simp, hu]
  simp only [Option.map_some, Option.bind_some]
  unfold near
  rw [if_pos (by simp)]
  rfl
 generalize hB4 : updA B3 (b + 1 + T.length + 1 + O.length) (some (d - 1 + δ, υ)) = B4 at st2
 generalize max (max g3 (d - 1 + δ)) (d - 1 + δ) = g4 at st2
 have c1 : B4 (b + 1 + T.length + 1 + O.length) = some (d - 1 + δ, υ) := by rw [← hB4]; exact if_pos rfl
 have c2 : ∀ j, b + 1 + T.length < j → j ≠ b + 1 + T.length + 1 + O.length → B4 j = B2 j := fun j x y => by rw [← hB4]; unfold updA; rw [if_neg y, q4 j x]
 have run : ∀ R', wk len b ((⟨10, (b + 1 + T.length + 1 : Nat), []⟩ : I) :: (T ++ ⟨9, (b + 1 + T.length + 1 + O.length : Nat), []⟩ :: O) ++ R') B g = wk len (b + 1 + T.length + 1) (O ++ R') B4 g4 := fun R' => by
  rw [List.cons_append, st, List.append_assoc, q2, List.cons_append, st2]
 rcases hO with ⟨rfl, rfl, hp⟩ | ⟨hO, hk⟩
 ·simp only [List.length_nil, Nat.add_zero] at *
  rw [q4 _ (by omega), b2] at hu
  rw [show d - 1 + 0 = d - 1 by omega] at hu c1
  refine ⟨cap σT σ, B4, g4, hR _ _ q1 hp, fun R' => run R', ?_, fun j hj => by rw [c2 j (by omega) (by omega), b3 j (by omega) (by omega)]⟩
  rw [c1, cap_comm, show d + (0 - 1) = d - 1 by omega, ← joinA_join ha, hu]
 ·have hl : 0 < O.length := List.length_pos_iff.2 hO
  rw [q4 _ (by omega), b3 _ (by omega) (by omega)] at hu
  have hn : B (b + 1 + T.length + 1) = none := a2 _ (by omega) (by omega)
  have hτ := hτ hn
  subst hτ
  obtain ⟨σO, B5, g5, k1, k2, k3, k4⟩ := hk B4 g4 (by rw [c2 _ (by omega) (by omega)]; exact b2) (fun j x y => by rw [c2 j (by omega) (by omega), b3 j (by omega) (by omega)]; exact a2 j (by omega) (by omega)) fun e h => by rw [c1] at h; cases h; rfl
  refine ⟨cap σT σO, B5, g5, hR _ _ q1 k1, fun R' => by rw [run, k2], ?_, fun j hj => by rw [k4 j hj, c2 j (by omega) (by omega), b3 j (by omega) (by omega)]⟩
  rw [c1] at k3
  rw [← k3, show d + (δ - 1) = d - 1 + δ by omega, joinA_join hu]
end Rt.Rc
set_option linter.unusedVariables false
set_option linter.unusedSimpArgs false
open Go Go.SL Go.Proofs Pl
namespace Rt.Rc
def Rel (ρ : Env) (s : Sg) (σ : St) : Prop := (∀ q k, s q = some k → 0 ≤ k ∧ k ≤ 511 ∧ σ k = true) ∧ ∀ q, s q = none → ρ q ≠ 0 → q ∈ Jt
theorem Rel.mono {ρ : Env} {s : Sg} {σ τ : St} (h : Rel ρ s σ) (hs : ∀ n, σ n = true → τ n = true) : Rel ρ s τ :=
 ⟨fun q k e => by obtain ⟨a, b, c⟩ := h.1 q k e; exact ⟨a, b, hs _ c⟩, h.2⟩
theorem pre_mem {s : Str} (h : base s ≠ 0) : s ∈ Jt := by
 unfold base pre at h
 split at h
 ·rename_i q
  unfold Jt
  simp only [Bool.or_eq_true, decide_eq_true_eq] at q
  rcases q with ((q | q) | q) | q <;> subst q <;> simp
 ·exact absurd rfl h
theorem Rel.nil : Rel Rt.base (fun _ => none) (fun _ => false) := ⟨fun q k e => (by cases e), fun q _ h => pre_mem h⟩
theorem cmp_mem {s : Str} (h : cmp s = true) : s ∈ JE := by
 unfold cmp at h
 unfold JE
 simp only [Bool.or_eq_true, decide_eq_true_eq] at h
 rcases h with q | q | q | q | q | q | q <;> subst q <;> simp
theorem num_bd {s : Str} (h : nmr s = true) : 0 ≤ num s ∧ num s ≤ 999999999 := by
 obtain ⟨h1, h2, h3⟩ := nmr_all h
 have go : ∀ (t : Str) (a : Int), t.all isD = true → 0 ≤ a → 0 ≤ t.foldl (fun n c => 10 * n + ((c.toNat : Int) - 48)) a ∧ t.foldl (fun n c => 10 * n + ((c.toNat : Int) - 48)) a + 1 ≤ (a + 1) * 10 ^ t.length := by
  intro t
  induction t with
  | nil => intro a _ ha; simp [ha]
  | cons c t ih =>
   intro a hc ha
   simp only [List.all_cons, Bool.and_eq_true] at hc
   have hd := hc.1
   simp only [isD, Bool.and_eq_true, decide_eq_true_eq] at hd
   rw [List.foldl_cons, List.length_cons]
   obtain ⟨g1, g2⟩ := ih (10 * a + ((c.toNat : Int) - 48)) hc.2 (by omega)
   refine ⟨g1, Int.le_trans g2 ?_⟩
   rw [Int.pow_succ, Int.mul_comm (10 ^ t.length) 10, ← Int.mul_assoc]
   exact Int.mul_le_mul_of_nonneg_right (by omega) (Int.le_of_lt (Int.pow_pos (by omega)))
 obtain ⟨g1, g2⟩ := go s 0 h1 (by omega)
 refine ⟨g1, ?_⟩
 unfold num
 have : s.length = 1 ∨ s.length = 2 ∨ s.length = 3 ∨ s.length = 4 ∨ s.length = 5 ∨ s.length = 6 ∨ s.length = 7 ∨ s.length = 8 ∨ s.length = 9 := by omega
 rcases this with e | e | e | e | e | e | e | e | e <;> rw [e] at g2 <;> omega
theorem nxt_id {x : I} {σ : St} (h : x.Op ≠ 4) : nxt x σ = σ := by unfold nxt; rw [if_neg h]
theorem Seg.one' {len b : Nat} {x : I} {d t l δ : Int} {σ : St} (he : eff x = some (t, l)) (ht : t ≤ d) (hj : isJ x = false) (h12 : x.Op ≠ 12) (h4 : x.Op ≠ 4) (h3 : x.Op = 3 → σ x.N = true) (hb : b + 1 < len) (hδ : δ = l - t) : Seg len b [x] d δ σ (fun τ => τ = σ) := by
 subst hδ
 have := Seg.one he ht hj h12 h3 hb
 rwa [nxt_id h4] at this
theorem tr_seg {len b : Nat} {d : Int} {σ : St} (v : Bool) (hd : 0 ≤ d) (hb : b + 3 < len) : Seg len b (tr v) d 1 σ (fun τ => τ = σ) := by
 have e1 : eff ⟨1, 0, []⟩ = some (0, 1) := by simp [eff]
 have e2 : eff ⟨1, if v then 0 else 1, []⟩ = some (0, 1) := by cases v <;> simp [eff]
 have e3 : eff ⟨7, 0, [61, 61]⟩ = some (2, 1) := by simp [eff, JE]
 have h1 : Seg len b [⟨1, 0, []⟩] d 1 σ (fun τ => τ = σ) := Seg.one' e1 (by omega) rfl (by simp) (by simp) (by simp) (by omega) (by omega)
 have h2 : Seg len (b + 1) [⟨1, if v then 0 else 1, []⟩] (d + 1) 1 σ (fun τ => τ = σ) := Seg.one' e2 (by omega) rfl (by simp) (by simp) (by simp) (by omega) (by omega)
 have h3 : Seg len (b + 2) [⟨7, 0, [61, 61]⟩] (d + 2) (-1) σ (fun τ => τ = σ) := Seg.one' e3 (by omega) rfl (by simp) (by simp) (by simp) (by omega) (by omega)
 have h12 := Seg.append h1 (fun τ e => by subst e; exact h2) (by simp)
 have h123 := Seg.append h12 (fun τ e => by subst e; rw [show d + (1 + 1) = d + 2 by omega]; exact h3) (by simp)
 exact h123
theorem cE_seg {len : Nat} {ρ : Env} {s : Sg} {σ : St} (hr : Rel ρ s σ) : ∀ (n b : Nat) (x : M) (d : Int), XE ρ n x → 0 ≤ d → b + (cE n s b x).length < len → Seg len b (cE n s b x) d 1 σ (fun τ => τ = σ)
 | 0, _, _, _, h, _, _ => h.elim
 | n + 1, b, x, d, ⟨hx, h⟩, hd, hb => by
  rcases h with ⟨q, hn, _⟩ | ⟨q, hp, _⟩ | ⟨q, _⟩ | ⟨q, hn, _⟩ | ⟨q, k, hk, hxk⟩ | ⟨q, k, l, hk, hxk, hxl⟩
  ·rw [cE_20 q] at hb ⊢
   obtain ⟨n0, n1⟩ := num_bd hn
   exact Seg.one' (t := 0) (l := 1) (by simp [eff, n0, n1]) hd rfl (by simp) (by simp) (by simp) hb (by omega)
  ·rw [cE_21 q] at hb ⊢
   exact Seg.one' (t := 0) (l := 1) (by simp [eff, hp]) hd rfl (by simp) (by simp) (by simp) hb (by omega)
  ·rw [cE_22 q] at hb ⊢
   exact tr_seg _ hd (by simpa [tr_len] using hb)
  ·rw [cE_23 q] at hb ⊢
   unfold nmI at hb ⊢
   cases e : s x.Text with
   | some k =>
    rw [e] at hb
    obtain ⟨k0, k1, k2⟩ := hr.1 _ _ e
    exact Seg.one' (t := 0) (l := 1) (by simp [eff, k0, k1]) hd rfl (by simp) (by simp) (fun _ => k2) hb (by omega)
   | none =>
    rw [e] at hb
    have := hr.2 _ e hn
    exact Seg.one' (t := 0) (l := 1) (by simp [eff, this]) hd rfl (by simp) (by simp) (by simp) hb (by omega)
  ·rcases q with ⟨q, hf⟩ | q
   ·rw [cE_24 q hk] at hb ⊢
    simp only [List.length_append, List.length_cons, List.length_nil] at hb
    have h1 := cE_seg (len := len) hr n b k d hxk hd (by omega)
    have hm := (fn_iff x.Text).2.1 hf
    have := Seg.append h1 (M := [⟨6, 0, x.Text⟩]) (ε := 0) (R := fun τ => τ = σ) (fun τ e => by subst e; exact Seg.one' (t := 1) (l := 1) (by simp [eff, hm]) (by omega) rfl (by simp) (by simp) (by simp) (by omega) (by omega)) (by simp)
    rwa [show (1 : Int) + 0 = 1 by omega] at this
   ·rw [cE_15 q hk] at hb ⊢
    simp only [List.length_append, List.length_cons, List.length_nil] at hb
    have h1 := cE_seg (len := len) hr n b k d hxk hd (by omega)
    have := Seg.append h1 (M := [⟨8, 0, []⟩]) (ε := 0) (R := fun τ => τ = σ) (fun τ e => by subst e; exact Seg.one' (t := 1) (l := 1) (by simp [eff]) (by omega) rfl (by simp) (by simp) (by simp) (by omega) (by omega)) (by simp)
    rwa [show (1 : Int) + 0 = 1 by omega] at this
  ·by_cases q14 : x.Kind = 14
   ·rw [cE_14 q14 hk] at hb ⊢
    simp only [List.length_append, List.length_cons, tr_len] at hb
    have h1 := cE_seg (len := len) hr n b k d hxk hd (by omega)
    have h2 := cE_seg (len := len) hr n (b + (cE n s b k).length + 1) l d hxl hd (by omega)
    have h3 := tr_seg (len := len) (b := b + (cE n s b k).length + 1 + (cE n s (b + (cE n s b k).length + 1) l).length + 1) (d := d) (σ := σ) false hd (by omega)
    have e1 : d + 1 - 1 = d := by omega
    have h4 := Seg.if3 (len := len) (b := b + (cE n s b k).length) (d := d + 1) (δ := 1) (Q := fun τ => τ = σ) (P := fun τ => τ = σ) (R := fun τ => τ = σ) (T := cE n s (b + (cE n s b k).length + 1) l) (O := tr false) (by omega) (by omega) (by rw [e1]; exact h2) (by rw [e1]; exact h3) (by rw [tr_len]; omega) (fun τ υ e1 e2 => by subst e1 e2; exact cap_self _)
    rw [tr_len] at h4
    have := Seg.append h1 (fun τ e => by subst e; exact h4) (by simp)
    exact this
   ·by_cases q13 : x.Kind = 13
    ·rw [cE_13 q13 hk] at hb ⊢
     simp only [List.length_append, List.length_cons, tr_len] at hb
     have h1 := cE_seg (len := len) hr n b k d hxk hd (by omega)
     have h2 := cE_seg (len := len) hr n (b + (cE n s b k).length + 5) l d hxl hd (by omega)
     have h3 := tr_seg (len := len) (b := b + (cE n s b k).length + 1) (d := d) (σ := σ) true hd (by omega)
     have e1 : d + 1 - 1 = d := by omega
     have h4 := Seg.if3 (len := len) (b := b + (cE n s b k).length) (d := d + 1) (δ := 1) (Q := fun τ => τ = σ) (P := fun τ => τ = σ) (R := fun τ => τ = σ) (T := tr true) (O := cE n s (b + (cE n s b k).length + 5) l) (by omega) (by omega) (by rw [e1]; exact h3) (by rw [e1, tr_len]; exact h2) (by rw [tr_len]; omega) (fun τ υ e1 e2 => by subst e1 e2; exact cap_self _)
     rw [tr_len] at h4
     have := Seg.append h1 (fun τ e => by subst e; exact h4) (by simp)
     exact this
    ·rw [cE_op (by omega) hk] at hb ⊢
     simp only [List.length_append, List.length_cons, List.length_nil] at hb
     have h1 := cE_seg (len := len) hr n b k d hxk hd (by omega)
     have h2 := cE_seg (len := len) hr n (b + (cE n s b k).length) l (d + 1) hxl (by omega) (by omega)
     have hm : opw x ∈ JE := by
      unfold opw
      by_cases q17 : x.Kind = 17
      ·rw [if_pos q17]; simp [JE]
      by_cases q18 : x.Kind = 18
      ·rw [if_neg q17, if_pos q18]; simp [JE]
      by_cases q19 : x.Kind = 19
      ·rw [if_neg q17, if_neg q18, if_pos q19]; simp [JE]
      rw [if_neg q17, if_neg q18, if_neg q19]
      rcases q with q | q | q | q | q | q
      ·exact absurd q q13
      ·exact absurd q q14
      ·exact absurd q q17
      ·exact absurd q q18
      ·exact absurd q q19
      ·exact cmp_mem q.2
     have h3 := Seg.append h2 (M := [⟨7, 0, opw x⟩]) (ε := -1) (R := fun τ => τ = σ) (fun τ e => by subst e; exact Seg.one' (t := 2) (l := 1) (by simp [eff, hm]) (by omega) rfl (by simp) (by simp) (by simp) (by omega) (by omega)) (by simp)
     have := Seg.append h1 (fun τ e => by subst e; exact h3) (by simp)
     rwa [show (1 : Int) + (1 + -1) = 1 by omega] at this
end Rt.Rc
set_option linter.unusedVariables false
set_option linter.unusedSimpArgs false
open Go Go.SL Go.Proofs Pl
namespace Rt.Rc
theorem hp_pre (p s : Str) : hp (p ++ s) p = true := by simp [hp]
theorem acs_eff {x : M} (h : SF x) (h2 : x.Kind ≠ 2) (h3 : x.Kind ≠ 3) : ∃ w, acs x = [⟨11, 0, w⟩] ∧ eff ⟨11, 0, w⟩ = some ((x.Kids.length : Int), 0) := by
 have go : ∀ w k, acw x = some w → actK w = some k → k = (x.Kids.length : Int) → ∃ w, acs x = [⟨11, 0, w⟩] ∧ eff ⟨11, 0, w⟩ = some ((x.Kids.length : Int), 0) := fun w k h1 h2 h3 => by
  subst h3
  refine ⟨w, by unfold acs; rw [h1], ?_⟩
  simp [eff, h2]
 rcases h with q | ⟨q, _⟩ | ⟨q, l, t⟩ | ⟨q, l, t⟩ | ⟨q, l, t⟩ | ⟨q, l⟩ | ⟨q, l⟩
 ·exact absurd q h2
 ·exact absurd q h3
 ·rcases t with t | t
  ·exact go _ 1 (by unfold acw; rw [if_pos q, t]) (by decide) (by rw [l]; rfl)
  ·exact go _ 1 (by unfold acw; rw [if_pos q, t]) (by decide) (by rw [l]; rfl)
 ·refine go (sHeader ++ x.Text) 1 (by unfold acw; rw [if_neg (by omega), if_pos q]; rfl) ?_ (by rw [l]; rfl)
  have h0 := hp_pre sHeader x.Text
  unfold actK
  rw [if_neg (fun m => ?_), if_neg (header_acts0 h0), if_pos h0, prt_append, t, if_pos (by decide)]
  ·revert m
   unfold acts1 sHeader
   simp
 ·refine go (sVary ++ x.Text) 0 (by unfold acw; rw [if_neg (by omega), if_neg (by omega), if_pos q]; rfl) ?_ (by rw [l]; rfl)
  have h0 := hp_pre sVary x.Text
  have h1 := vary_header _ h0
  unfold actK
  rw [if_neg (vary_acts1 h0), if_neg (fun m => ?_), if_neg (by rw [h1]; simp), h0, prt_append, t, if_pos (by decide)]
  ·revert m
   unfold acts0 sVary
   simp
 ·rcases q with q | q | q
  ·exact go [116, 97, 103] 1 (by unfold acw; rw [if_neg (by omega), if_neg (by omega), if_neg (by omega), if_pos q]) (by decide) (by rw [l]; rfl)
  ·exact go [116, 116, 108] 1 (by unfold acw; rw [if_neg (by omega), if_neg (by omega), if_neg (by omega), if_neg (by omega), if_pos q]) (by decide) (by rw [l]; rfl)
  ·exact go [100, 101, 110, 121] 1 (by unfold acw; rw [if_neg (by omega), if_neg (by omega), if_neg (by omega), if_neg (by omega), if_neg (by omega), if_pos q]) (by decide) (by rw [l]; rfl)
 ·rcases q with q | q
  ·exact go [112, 97, 115, 115] 0 (by unfold acw; rw [if_neg (by omega), if_neg (by omega), if_neg (by omega), if_neg (by omega), if_neg (by omega), if_neg (by omega), if_pos q]) (by decide) (by rw [l]; rfl)
  ·exact go [116, 111, 107, 101, 110] 0 (by unfold acw; rw [if_neg (by omega), if_neg (by omega), if_neg (by omega), if_neg (by omega), if_neg (by omega), if_neg (by omega), if_neg (by omega), if_pos q]) (by decide) (by rw [l]; rfl)
def Up (σ τ : St) : Prop := ∀ m, σ m = true → τ m = true
def ES (len n : Nat) (x : M) : Prop := ∀ (ρ ρ' : Env) (s : Sg) (σ : St) (z : Int) (b : Nat), stm n ρ x = .ok ρ' → Rel ρ s σ → 0 ≤ z → (cS n s z b x).2.1 ≤ 512 → b + (cS n s z b x).1.length < len →
 Seg len b (cS n s z b x).1 0 0 σ (fun τ => Up σ τ ∧ Rel ρ' (cS n s z b x).2.2 τ)
def NE (n : Nat) (x : M) : Prop := ∀ (s : Sg) (z : Int) (b : Nat), (cS n s z b x).1 ≠ []
theorem foldC_seg {len n : Nat} : ∀ (l : List M) (ρ ρ' : Env) (s : Sg) (σ : St) (z : Int) (b : Nat), (∀ x ∈ l, Ok n x ∧ NE n x ∧ ES len n x) → foldS (stm n) ρ l = .ok ρ' → Rel ρ s σ → 0 ≤ z → (foldC (cS n) s z b l).2 ≤ 512 → b + (foldC (cS n) s z b l).1.length < len →
  Seg len b (foldC (cS n) s z b l).1 0 0 σ (fun τ => Up σ τ)
 | [], ρ, ρ', s, σ, z, b, _, _, _, _, _, _ => .inl ⟨rfl, rfl, fun _ h => h⟩
 | x :: l, ρ, ρ', s, σ, z, b, hx, hs, hr, hz, hk, hb => by
  obtain ⟨ρ1, e1, e2⟩ := foldS_cons hs
  obtain ⟨ok, ne, es⟩ := hx x (by simp)
  obtain ⟨c1, c2, c3⟩ := cS_len n x ok s z b
  obtain ⟨f1, f2, f3⟩ := foldC_len (d := n) (g := cS n) l (cS n s z b x).2.2 (cS n s z b x).2.1 (b + (cS n s z b x).1.length) fun q hq => cS_len n q (hx q (by simp [hq])).1
  rw [foldC] at hk hb ⊢
  simp only [List.length_append] at hk hb ⊢
  have h1 := es ρ ρ1 s σ z b e1 hr hz (by omega) (by omega)
  cases l with
  | nil =>
   rw [foldC, List.append_nil]
   exact h1.mono fun τ h => h.1
  | cons y l =>
   have h2 : ∀ τ, Up σ τ ∧ Rel ρ1 (cS n s z b x).2.2 τ → Seg len (b + (cS n s z b x).1.length) (foldC (cS n) (cS n s z b x).2.2 (cS n s z b x).2.1 (b + (cS n s z b x).1.length) (y :: l)).1 (0 + 0) 0 τ (fun υ => Up σ υ) := fun τ hτ =>
    (foldC_seg (y :: l) ρ1 ρ' (cS n s z b x).2.2 τ (cS n s z b x).2.1 (b + (cS n s z b x).1.length) (fun q hq => hx q (by simp at hq ⊢; exact .inr hq)) e2 hτ.2 (by omega) hk (by omega)).mono fun υ hυ m hm => hυ m (hτ.1 m hm)
   have hy : (foldC (cS n) (cS n s z b x).2.2 (cS n s z b x).2.1 (b + (cS n s z b x).1.length) (y :: l)).1 ≠ [] := by
    rw [foldC]
    exact fun e => (hx y (by simp)).2.1 _ _ _ (List.append_eq_nil_iff.1 e).1
   exact Seg.append h1 h2 hy
theorem cS_ne : ∀ {n : Nat} {x : M}, Gd n x → NE n x
 | 0, x, h => h.1.elim
 | n + 1, x, ⟨⟨h1, h2, h3⟩, m, hm⟩ => fun s z b => by
  obtain ⟨m, rfl, hv0, hv2⟩ := stated_inv hm
  have sf := stated_form h1 hm
  by_cases q2 : x.Kind = 2
  ·obtain ⟨e, t, ht12, hk⟩ := if_kids q2 hm
   rcases hk with hk | ⟨o, _, hk⟩
   ·rw [cS_2 q2 hk rfl]; simp [if2]
   ·rw [cS_3 q2 hk rfl rfl]; simp [if3]
  ·by_cases q3 : x.Kind = 3
   ·rw [cS_let q3]; simp
   ·rw [cS_act q2 q3]
    obtain ⟨w, e, _⟩ := acs_eff sf q2 q3
    simp [e]
theorem cS_seg {len : Nat} : ∀ (n : Nat) (x : M), Gd n x → ES len n x
 | 0, x, h => h.1.elim
 | n + 1, x, ⟨⟨h1, h2, h3⟩, m, hm⟩ => fun ρ ρ' s σ z b hs hr hz hk hb => by
  obtain ⟨m, rfl, hv0, hv2⟩ := stated_inv hm
  have sf := stated_form h1 hm
  by_cases q2 : x.Kind = 2
  ·obtain ⟨l2, hbr⟩ := hv2 q2
   obtain ⟨e, t, ht12, hkd⟩ := if_kids q2 hm
   have hex : ∃ ks, x.Kids = e :: t :: ks := by rcases hkd with hk | ⟨o, _, hk⟩ <;> exact ⟨_, hk⟩
   obtain ⟨ks, hks⟩ := hex
   obtain ⟨te, hte, hst⟩ := stm_inv hks hs
   rcases hst with ⟨q, _⟩ | ⟨_, rfl, hbs⟩ | ⟨_, q, _⟩
   ·omega
   ·have hE : XE ρ' n e := XE_of (h3 e (by rw [hks]; simp)) (hv0 e (by rw [hks]; rfl)) hte
    have hT := brs_none hbs
    have gd : ∀ k ∈ t :: ks, ∀ q ∈ brn k, Gd n q := fun k hk1 => by
     have hk2 : k ∈ x.Kids := by rw [hks]; simp at hk1 ⊢; exact .inr hk1
     obtain ⟨l', e1, e2, e3⟩ := branch_ok (h3 k hk2) ((hbr k (by rw [hks]; simpa using hk1)).imp (fun h => ⟨h.1, fun q hq => ⟨m, h.2 q hq⟩⟩) fun h => ⟨h.1, m, h.2⟩)
     rw [brn_eq] at e1
     cases e1
     exact e3
    have gs : ∀ k ∈ t :: ks, ∀ q ∈ brn k, Ok n q ∧ NE n q ∧ ES len n q := fun k hk1 q hq => ⟨(gd k hk1 q hq).1, cS_ne (gd k hk1 q hq), cS_seg n q (gd k hk1 q hq)⟩
    have gt := gs t (by simp)
    obtain ⟨ρt, hρt⟩ := hT t (by simp)
    rw [brn12 ht12] at gt hρt
    have lT := foldC_len (d := n) (g := cS n) t.Kids s z (b + (cE n s b e).length + 1) fun q hq => cS_len n q (gt q hq).1
    rcases hkd with hkd | ⟨o, ho, hkd⟩
    ·rw [cS_2 q2 hkd rfl] at hk hb ⊢
     simp only [if2, List.length_append, List.length_cons] at hk hb ⊢
     have hA := cE_seg (len := len) hr n b e 0 hE (by omega) (by omega)
     have hTs := foldC_seg t.Kids ρ' ρt s σ z (b + (cE n s b e).length + 1) gt hρt hr hz hk (by omega)
     have hI := Seg.if2 (len := len) (b := b + (cE n s b e).length) (d := 0 + 1) (R := fun τ => Up σ τ ∧ Rel ρ' s τ) (by omega) hTs (by omega) fun τ h => by
      have : Up σ (cap σ τ) := fun k hk => by unfold cap; rw [hk, h k hk]; rfl
      exact ⟨this, hr.mono this⟩
     have := Seg.append hA (fun τ e => by subst e; exact hI) (by simp)
     rwa [show (1 : Int) + -1 = 0 by omega] at this
    ·rw [hks] at hkd
     cases hkd
     obtain ⟨ρo, hρo⟩ := hT o (by simp)
     have go := gs o (by simp)
     rw [cS_3 q2 hks rfl rfl] at hk hb ⊢
     simp only [if3, List.length_append, List.length_cons] at hk hb ⊢
     have lO := foldC_len (d := n) (g := cS n) (brn o) s (foldC (cS n) s z (b + (cE n s b e).length + 1) t.Kids).2 (b + (cE n s b e).length + 1 + (foldC (cS n) s z (b + (cE n s b e).length + 1) t.Kids).1.length + 1) fun q hq => cS_len n q (go q hq).1
     have hA := cE_seg (len := len) hr n b e 0 hE (by omega) (by omega)
     have hTs := foldC_seg (len := len) t.Kids ρ' ρt s σ z (b + (cE n s b e).length + 1) gt hρt hr hz (by omega) (by omega)
     have hOs := foldC_seg (len := len) (brn o) ρ' ρo s σ (foldC (cS n) s z (b + (cE n s b e).length + 1) t.Kids).2 (b + (cE n s b e).length + 1 + (foldC (cS n) s z (b + (cE n s b e).length + 1) t.Kids).1.length + 1) go hρo hr (by omega) (by omega) (by omega)
     have hI := Seg.if3 (len := len) (b := b + (cE n s b e).length) (d := 0 + 1) (δ := 0) (R := fun τ => Up σ τ ∧ Rel ρ' s τ) (by omega) (by omega) hTs hOs (by omega) fun τ υ h h' => by
      have : Up σ (cap τ υ) := fun k hk => by unfold cap; rw [h k hk, h' k hk]; rfl
      exact ⟨this, hr.mono this⟩
     have := Seg.append hA (fun τ e => by subst e; exact hI) (by simp)
     rwa [show (1 : Int) + (0 - 1) = 0 by omega] at this
   ·exact absurd q2 q
  ·by_cases q3 : x.Kind = 3
   ·have l1 : x.Kids.length = 1 := by
     rcases sf with q | ⟨_, q⟩ | ⟨q, _⟩ | ⟨q, _⟩ | ⟨q, _⟩ | ⟨q, _⟩ | ⟨q, _⟩ <;> first | exact q | omega
    obtain ⟨e, he⟩ := len1 (l := x.Kids) (by rw [l1]; rfl)
    obtain ⟨te, hte, hst⟩ := stm_inv he hs
    rcases hst with ⟨_, rfl⟩ | ⟨q, _⟩ | ⟨q, _⟩
    ·have hE : XE ρ n e := XE_of (h3 e (by rw [he]; simp)) (hv0 e (by rw [he]; rfl)) hte
     rw [cS_let q3, he] at hk hb ⊢
     simp only [hdC, List.length_append, List.length_cons, List.length_nil] at hk hb ⊢
     have hA := cE_seg (len := len) hr n b e 0 hE (by omega) (by omega)
     have hS : Seg len (b + (cE n s b e).length) [⟨4, z, []⟩] (0 + 1) (0 - 1) σ (fun τ => Up σ τ ∧ Rel (ext ρ x.Text te) (upd s x.Text z) τ) := by
      refine (Seg.one (x := ⟨4, z, []⟩) (t := 1) (l := 0) (by simp [eff]; omega) (by omega) rfl (by simp) (by simp) (by omega)).mono fun τ e => ?_
      subst e
      have up : Up σ (nxt ⟨4, z, []⟩ σ) := fun k hk => by unfold nxt; simp [hk]
      refine ⟨up, fun q k hq => ?_, fun q hq hq2 => ?_⟩
      ·unfold upd at hq
       by_cases w : x.Text = q
       ·rw [if_pos w] at hq
        cases hq
        exact ⟨hz, by omega, by unfold nxt; simp⟩
       ·rw [if_neg w] at hq
        obtain ⟨a, b, c⟩ := hr.1 q k hq
        exact ⟨a, b, up k c⟩
      ·unfold upd at hq
       by_cases w : x.Text = q
       ·rw [if_pos w] at hq; cases hq
       ·rw [if_neg w] at hq
        unfold ext at hq2
        rw [if_neg w] at hq2
        exact hr.2 q hq hq2
     have := Seg.append hA (fun τ e => by subst e; exact hS) (by simp)
     rwa [show (1 : Int) + (0 - 1) = 0 by omega] at this
    ·omega
    ·exact absurd q3 q
   ·obtain ⟨w, ew, ef⟩ := acs_eff sf q2 q3
    rw [cS_act q2 q3, ew] at hk hb ⊢
    simp only [List.length_append, List.length_cons, List.length_nil] at hk hb ⊢
    have act : ∀ (d : Int) (b : Nat), (x.Kids.length : Int) = d → b + 1 < len → Seg len b [⟨11, 0, w⟩] d (-d) σ (fun τ => τ = σ) := fun d b hd hb => by
     refine Seg.one' ef (by omega) rfl (by simp) (by simp) (by simp) hb (by omega)
    match hks : x.Kids with
    | [] =>
     have e : ρ' = ρ := by rw [stm, hks] at hs; cases hs; rfl
     subst e
     rw [hks] at act hb
     simp only [hdC, List.nil_append, List.length_nil] at hb ⊢
     exact (act 0 b rfl (by omega)).mono fun τ e => by subst e; exact ⟨fun _ h => h, hr⟩
    | e :: ks =>
     obtain ⟨te, hte, hst⟩ := stm_inv hks hs
     have e1 : ks = [] := by
      have : x.Kids.length ≤ 1 := by
       rcases sf with q | ⟨_, q⟩ | ⟨_, q, _⟩ | ⟨_, q, _⟩ | ⟨_, q, _⟩ | ⟨_, q⟩ | ⟨_, q⟩ <;> omega
      rw [hks] at this
      simp only [List.length_cons] at this
      exact List.length_eq_zero_iff.1 (by omega)
     subst e1
     rcases hst with ⟨q, _⟩ | ⟨q, _⟩ | ⟨_, _, rfl⟩
     ·exact absurd q q3
     ·exact absurd q q2
     ·have hE : XE ρ' n e := XE_of (h3 e (by rw [hks]; simp)) (hv0 e (by rw [hks]; rfl)) hte
      rw [hks] at act hb
      simp only [hdC] at hb ⊢
      have hA := cE_seg (len := len) hr n b e 0 hE (by omega) (by omega)
      have := Seg.append hA (M := [⟨11, 0, w⟩]) (ε := -1) (R := fun τ => Up σ τ ∧ Rel ρ' s τ) (fun τ e => by subst e; exact (act 1 _ rfl (by omega)).mono fun τ e => by subst e; exact ⟨fun _ h => h, hr⟩) (by simp)
      rwa [show (1 : Int) + -1 = 0 by omega] at this
end Rt.Rc
set_option linter.unusedVariables false
set_option linter.unusedSimpArgs false
open Go Go.SL Go.Proofs Pl
namespace Rt.Rc
theorem depthOf_of {L : List I} (hl : (L ++ [haltI]).length ≤ 2048) {Q : St → Prop} (h : Seg (L ++ [haltI]).length 0 L 0 0 (fun _ => false) Q) : (depthOf (L ++ [haltI])).isSome = true := by
 obtain ⟨τ, B', g', _, k2, k3, _⟩ := h.run (B := B0) (g := 0) rfl fun j a b => by unfold B0; rw [if_neg (by omega)]
 unfold depthOf
 rw [if_neg (by simp only [List.length_append, List.length_cons, List.length_nil] at hl ⊢; omega), k2]
 have e : eff haltI = some (0, 0) := by decide
 simp only [Nat.zero_add] at k3 ⊢
 rw [wk_cons]
 unfold stA
 rw [e, k3]
 simp only
 rw [if_neg (by unfold haltI; simp), if_pos (show haltI.Op = 12 from rfl), if_pos (by omega)]
 rfl
theorem prog_depth {ys : List M} (hl : (prog 39 ys).length ≤ 2048) (hc : cntL 39 ys ≤ 511) (hg : ∀ k ∈ ys, Gd 39 k) {ρ : Env} (hs : foldS (stm 39) base ys = .ok ρ) : (depthOf (prog 39 ys)).isSome = true := by
 unfold prog at hl ⊢
 obtain ⟨l1, l2, l3⟩ := foldC_len (d := 39) (g := cS 39) ys (fun _ => none) 0 0 fun q hq => cS_len 39 q (hg q hq).1
 exact depthOf_of hl (foldC_seg (len := ((foldC (cS 39) (fun _ => none) 0 0 ys).1 ++ [haltI]).length) ys base ρ (fun _ => none) (fun _ => false) 0 0 (fun q hq => ⟨(hg q hq).1, cS_ne (hg q hq), cS_seg 39 q (hg q hq)⟩) hs Rel.nil (by omega) (by omega) (by simp))
def sto : List I → Int → Option Int
 | [], z => some z
 | x :: l, z => if x.Op = 4 then (if x.N = z then sto l (z + 1) else none) else sto l z
theorem sto_append : ∀ (a b : List I) (z : Int), sto (a ++ b) z = (sto a z).bind (sto b)
 | [], b, z => rfl
 | x :: a, b, z => by
  rw [List.cons_append, sto, sto]
  by_cases q : x.Op = 4
  ·rw [if_pos q, if_pos q]
   by_cases q2 : x.N = z
   ·rw [if_pos q2, if_pos q2, sto_append]
   ·rw [if_neg q2, if_neg q2]; rfl
  ·rw [if_neg q, if_neg q, sto_append]
theorem sto_no : ∀ {l : List I} {z : Int}, (∀ i ∈ l, i.Op ≠ 4) → sto l z = some z
 | [], _, _ => rfl
 | x :: l, z, h => by rw [sto, if_neg (h x (by simp)), sto_no fun i hi => h i (by simp [hi])]
theorem tr_no4 {v : Bool} : ∀ i ∈ tr v, i.Op ≠ 4 := by simp [tr]
theorem cE_no4 {s : Sg} : ∀ (d b : Nat) (x : M), ∀ i ∈ cE d s b x, i.Op ≠ 4
 | 0, _, _ => by simp [cE]
 | d + 1, b, x => by
  intro i hi
  rw [cE] at hi
  by_cases q20 : x.Kind = 20; · rw [if_pos q20] at hi; simp at hi; subst hi; simp
  by_cases q21 : x.Kind = 21; · rw [if_neg q20, if_pos q21] at hi; simp at hi; subst hi; simp
  by_cases q22 : x.Kind = 22; · rw [if_neg q20, if_neg q21, if_pos q22] at hi; exact tr_no4 i hi
  by_cases q23 : x.Kind = 23
  ·rw [if_neg q20, if_neg q21, if_neg q22, if_pos q23] at hi
   simp at hi
   subst hi
   unfold nmI
   split <;> simp
  rw [if_neg q20, if_neg q21, if_neg q22, if_neg q23] at hi
  split at hi
  ·rename_i k e
   rcases List.mem_append.1 hi with hi | hi
   ·exact cE_no4 d b k i hi
   ·split at hi <;> simp at hi <;> subst hi <;> simp
  ·rename_i k l e
   split at hi
   ·simp only [List.mem_append, List.mem_cons] at hi
    rcases hi with hi | hi | hi | hi | hi
    ·exact cE_no4 _ _ _ i hi
    ·subst hi; simp
    ·exact cE_no4 _ _ _ i hi
    ·subst hi; simp
    ·exact tr_no4 i hi
   ·split at hi
    ·simp only [List.mem_append, List.mem_cons] at hi
     rcases hi with hi | hi | hi | hi | hi
     ·exact cE_no4 _ _ _ i hi
     ·subst hi; simp
     ·exact tr_no4 i hi
     ·subst hi; simp
     ·exact cE_no4 _ _ _ i hi
    ·simp only [List.mem_append, List.mem_cons, List.not_mem_nil, or_false] at hi
     rcases hi with hi | hi | hi
     ·exact cE_no4 _ _ _ i hi
     ·exact cE_no4 _ _ _ i hi
     ·subst hi; simp
  ·cases hi
theorem hdC_no4 {d b : Nat} {s : Sg} : ∀ (l : List M), ∀ i ∈ hdC d s b l, i.Op ≠ 4
 | [], i, hi => by cases hi
 | e :: l, i, hi => cE_no4 d b e i hi
theorem acs_no4 (x : M) : ∀ i ∈ acs x, i.Op ≠ 4 := by
 intro i hi
 unfold acs at hi
 split at hi
 ·simp at hi; subst hi; simp
 ·cases hi
theorem foldC_sto {g : Sg → Int → Nat → M → List I × Int × Sg} : ∀ (l : List M) (s : Sg) (z : Int) (b : Nat), (∀ x ∈ l, ∀ s z b, sto (g s z b x).1 z = some (g s z b x).2.1) → sto (foldC g s z b l).1 z = some (foldC g s z b l).2
 | [], s, z, b, _ => rfl
 | x :: l, s, z, b, h => by
  rw [foldC]
  simp only
  rw [sto_append, h x (by simp), Option.bind_some]
  exact foldC_sto l _ _ _ fun q hq => h q (by simp [hq])
theorem sto_if2 {b : Nat} {A T : List I} {z z' : Int} (hA : ∀ i ∈ A, i.Op ≠ 4) (hT : sto T z = some z') : sto (if2 b A T) z = some z' := by
 unfold if2
 rw [sto_append, sto_no hA, Option.bind_some, sto, if_neg (by simp)]
 exact hT
theorem sto_if3 {b : Nat} {A T O : List I} {z z' z'' : Int} (hA : ∀ i ∈ A, i.Op ≠ 4) (hT : sto T z = some z') (hO : sto O z' = some z'') : sto (if3 b A T O) z = some z'' := by
 unfold if3
 rw [sto_append, sto_no hA, Option.bind_some, sto, if_neg (by simp), sto_append, hT, Option.bind_some, sto, if_neg (by simp)]
 exact hO
theorem cS_sto : ∀ (d : Nat) (x : M) (s : Sg) (z : Int) (b : Nat), sto (cS d s z b x).1 z = some (cS d s z b x).2.1
 | 0, x, s, z, b => rfl
 | d + 1, x, s, z, b => by
  have hf : ∀ (l : List M) (s : Sg) (z : Int) (b : Nat), sto (foldC (cS d) s z b l).1 z = some (foldC (cS d) s z b l).2 := fun l s z b => foldC_sto l s z b fun q _ => cS_sto d q
  by_cases q2 : x.Kind = 2
  ·rw [cS, if_pos q2]
   split
   ·exact sto_if2 (cE_no4 _ _ _) (hf _ _ _ _)
   ·exact sto_if3 (cE_no4 _ _ _) (hf _ _ _ _) (hf _ _ _ _)
   ·rfl
  ·by_cases q3 : x.Kind = 3
   ·rw [cS_let q3]
    simp only
    rw [sto_append, sto_no (hdC_no4 _), Option.bind_some, sto, if_pos rfl, if_pos rfl]
    rfl
   ·rw [cS_act q2 q3]
    simp only
    rw [sto_append, sto_no (hdC_no4 _), Option.bind_some, sto_no (acs_no4 x)]
theorem nlt_succ : ∀ {d : Nat} {x : M}, Ok d x → nlt (d + 1) x = nlt d x
 | d + 1, x, h => by
  rw [nlt_eq, nlt_eq]
  have : ∀ l : List M, (∀ k ∈ l, Ok d k) → nltL (d + 1) l = nltL d l := by
   intro l
   induction l with
   | nil => intro _; rfl
   | cons a l ih =>
    intro hl
    rw [nltL_cons, nltL_cons, ih fun k hk => hl k (by simp [hk]), nlt_succ (hl a (by simp))]
  rw [this x.Kids h.2.2]
theorem XE_nlt {ρ : Env} : ∀ {d : Nat} {x : M}, XE ρ d x → nlt d x = 0
 | 0, x, h => h.elim
 | d + 1, x, ⟨_, h⟩ => by
  rw [nlt_eq]
  rcases h with ⟨q, _, hk⟩ | ⟨q, _, hk⟩ | ⟨q, hk⟩ | ⟨q, _, hk⟩ | ⟨q, k, hk, hx⟩ | ⟨q, k, l, hk, hx, hy⟩
  ·rw [hk, if_neg (by omega)]; rfl
  ·rw [hk, if_neg (by omega)]; rfl
  ·rw [hk, if_neg (by omega)]; rfl
  ·rw [hk, if_neg (by omega)]; rfl
  ·rw [hk, if_neg (by omega), nltL_cons, XE_nlt hx]; rfl
  ·rw [hk, if_neg (by omega), nltL_cons, nltL_cons, XE_nlt hx, XE_nlt hy]; rfl
theorem foldC_nlt {d : Nat} : ∀ (l : List M) (ρ ρ' : Env) (s : Sg) (z : Int) (b : Nat), (∀ x ∈ l, ∀ ρ ρ' s z b, stm d ρ x = .ok ρ' → (cS d s z b x).2.1 = z + nlt d x) → foldS (stm d) ρ l = .ok ρ' → (foldC (cS d) s z b l).2 = z + nltL d l
 | [], ρ, ρ', s, z, b, _, _ => by simp [foldC, nltL]
 | x :: l, ρ, ρ', s, z, b, h, hs => by
  obtain ⟨ρ1, e1, e2⟩ := foldS_cons hs
  rw [foldC]
  simp only
  rw [foldC_nlt l ρ1 ρ' _ _ _ (fun q hq => h q (by simp [hq])) e2, h x (by simp) ρ ρ1 s z b e1, nltL_cons]
  omega
theorem brn_nlt {d : Nat} {k : M} (h : Ok d k) (hb : k.Kind = 12 ∨ k.Kind = 2) : nltL d (brn k) = nlt d k := by
 rcases hb with hb | hb
 ·rw [brn12 hb]
  cases d with
  | zero => exact h.elim
  | succ d =>
   rw [nlt_eq, if_neg (by omega)]
   have : ∀ l : List M, (∀ k ∈ l, Ok d k) → nltL (d + 1) l = nltL d l := by
    intro l
    induction l with
    | nil => intro _; rfl
    | cons a l ih =>
     intro hl
     rw [nltL_cons, nltL_cons, ih fun k hk => hl k (by simp [hk]), nlt_succ (hl a (by simp))]
   rw [this k.Kids h.2.2]
   omega
 ·rw [brn2 hb, nltL_cons]; rfl
theorem cS_nlt : ∀ (d : Nat) (x : M), Gd d x → ∀ (ρ ρ' : Env) (s : Sg) (z : Int) (b : Nat), stm d ρ x = .ok ρ' → (cS d s z b x).2.1 = z + nlt d x
 | 0, x, h => h.1.elim
 | d + 1, x, ⟨⟨h1, h2, h3⟩, m, hm⟩ => fun ρ ρ' s z b hs => by
  obtain ⟨m, rfl, hv0, hv2⟩ := stated_inv hm
  have sf := stated_form h1 hm
  rw [nlt_eq]
  by_cases q2 : x.Kind = 2
  ·obtain ⟨l2, hbr⟩ := hv2 q2
   obtain ⟨e, t, ht12, hkd⟩ := if_kids q2 hm
   have hex : ∃ ks, x.Kids = e :: t :: ks := by rcases hkd with hk | ⟨o, _, hk⟩ <;> exact ⟨_, hk⟩
   obtain ⟨ks, hks⟩ := hex
   obtain ⟨te, hte, hst⟩ := stm_inv hks hs
   rcases hst with ⟨q, _⟩ | ⟨_, rfl, hbs⟩ | ⟨_, q, _⟩
   ·omega
   ·have hE : XE ρ' d e := XE_of (h3 e (by rw [hks]; simp)) (hv0 e (by rw [hks]; rfl)) hte
    have hT := brs_none hbs
    have gd : ∀ k ∈ t :: ks, ∀ q ∈ brn k, Gd d q := fun k hk1 => by
     have hk2 : k ∈ x.Kids := by rw [hks]; simp at hk1 ⊢; exact .inr hk1
     obtain ⟨l', e1, e2, e3⟩ := branch_ok (h3 k hk2) ((hbr k (by rw [hks]; simpa using hk1)).imp (fun h => ⟨h.1, fun q hq => ⟨m, h.2 q hq⟩⟩) fun h => ⟨h.1, m, h.2⟩)
     rw [brn_eq] at e1
     cases e1
     exact e3
    have fd : ∀ k ∈ t :: ks, ∀ s z b, (foldC (cS d) s z b (brn k)).2 = z + nltL d (brn k) := fun k hk1 s z b => by
     obtain ⟨ρk, hk⟩ := hT k hk1
     exact foldC_nlt _ ρ' ρk s z b (fun q hq => cS_nlt d q (gd k hk1 q hq)) hk
    have ft := fd t (by simp)
    have bt := brn_nlt (h3 t (by rw [hks]; simp)) (.inl ht12)
    rw [brn12 ht12] at ft bt
    rcases hkd with hkd | ⟨o, ho, hkd⟩
    ·rw [cS_2 q2 hkd rfl, if_neg (by omega), hkd, nltL_cons, nltL_cons, XE_nlt hE]
     simp only
     rw [ft, bt]
     simp [nltL]
    ·rw [hks] at hkd
     cases hkd
     have fo := fd o (by simp)
     have bo := brn_nlt (h3 o (by rw [hks]; simp)) ho
     rw [cS_3 q2 hks rfl rfl, if_neg (by omega), hks, nltL_cons, nltL_cons, nltL_cons, XE_nlt hE]
     simp only
     rw [fo, ft, bt, bo]
     simp [nltL]
     omega
   ·exact absurd q2 q
  ·have kid : nltL d x.Kids = 0 := by
    match hks : x.Kids with
    | [] => rfl
    | e :: ks =>
     obtain ⟨te, hte, hst⟩ := stm_inv hks hs
     have hE : XE ρ d e := XE_of (h3 e (by rw [hks]; simp)) (hv0 e (by rw [hks]; rfl)) hte
     have : x.Kids.length ≤ 1 := by
      rcases sf with q | ⟨_, q⟩ | ⟨_, q, _⟩ | ⟨_, q, _⟩ | ⟨_, q, _⟩ | ⟨_, q⟩ | ⟨_, q⟩ <;> omega
     rw [hks] at this
     simp only [List.length_cons] at this
     rw [List.length_eq_zero_iff.1 (show ks.length = 0 by omega), nltL_cons, XE_nlt hE]
     rfl
   rw [kid]
   by_cases q3 : x.Kind = 3
   ·rw [cS_let q3, if_pos q3]; rfl
   ·rw [cS_act q2 q3, if_neg q3]; simp
theorem prog_sto {ys : List M} (hg : ∀ k ∈ ys, Gd 39 k) {ρ : Env} (hs : foldS (stm 39) base ys = .ok ρ) : sto (prog 39 ys) 0 = some ((nltL 39 ys : Nat) : Int) := by
 unfold prog
 rw [sto_append, foldC_sto ys _ 0 0 fun q _ => cS_sto 39 q, Option.bind_some, foldC_nlt ys base ρ _ 0 0 (fun q hq => cS_nlt 39 q (hg q hq)) hs, Int.zero_add]
 rfl
end Rt.Rc
set_option linter.unusedVariables false
set_option linter.unusedSimpArgs false
open Go Go.SL Go.Proofs Pl
namespace Rt.Rc
theorem tr_S {v : Bool} : ∀ i ∈ tr v, i.S.length ≤ 100000 := by simp [tr]
theorem cE_S {s : Sg} : ∀ (d b : Nat) (x : M), Ok d x → ∀ i ∈ cE d s b x, i.S.length ≤ 100000
 | 0, _, _, h => h.elim
 | d + 1, b, x, ⟨h1, h2, h3⟩ => by
  intro i hi
  rw [cE] at hi
  by_cases q20 : x.Kind = 20; · rw [if_pos q20] at hi; simp at hi; subst hi; simp
  by_cases q21 : x.Kind = 21; · rw [if_neg q20, if_pos q21] at hi; simp at hi; subst hi; simp only; omega
  by_cases q22 : x.Kind = 22; · rw [if_neg q20, if_neg q21, if_pos q22] at hi; exact tr_S i hi
  by_cases q23 : x.Kind = 23
  ·rw [if_neg q20, if_neg q21, if_neg q22, if_pos q23] at hi
   simp at hi
   subst hi
   unfold nmI
   split
   ·simp
   ·simp only; omega
  rw [if_neg q20, if_neg q21, if_neg q22, if_neg q23] at hi
  split at hi
  ·rename_i k e
   rcases List.mem_append.1 hi with hi | hi
   ·exact cE_S d b k (h3 k (by rw [e]; simp)) i hi
   ·split at hi <;> simp at hi <;> subst hi <;> simp only [List.length_nil] <;> omega
  ·rename_i k l e
   have hk := h3 k (by rw [e]; simp)
   have hl := h3 l (by rw [e]; simp)
   split at hi
   ·simp only [List.mem_append, List.mem_cons] at hi
    rcases hi with hi | hi | hi | hi | hi
    ·exact cE_S _ _ _ hk i hi
    ·subst hi; simp
    ·exact cE_S _ _ _ hl i hi
    ·subst hi; simp
    ·exact tr_S i hi
   ·split at hi
    ·simp only [List.mem_append, List.mem_cons] at hi
     rcases hi with hi | hi | hi | hi | hi
     ·exact cE_S _ _ _ hk i hi
     ·subst hi; simp
     ·exact tr_S i hi
     ·subst hi; simp
     ·exact cE_S _ _ _ hl i hi
    ·simp only [List.mem_append, List.mem_cons, List.not_mem_nil, or_false] at hi
     rcases hi with hi | hi | hi
     ·exact cE_S _ _ _ hk i hi
     ·exact cE_S _ _ _ hl i hi
     ·subst hi
      unfold opw
      simp only
      split
      ·simp
      ·split
       ·simp
       ·split
        ·simp
        ·omega
  ·cases hi
theorem hdC_S {d b : Nat} {s : Sg} : ∀ (l : List M), (∀ k ∈ l, Ok d k) → ∀ i ∈ hdC d s b l, i.S.length ≤ 100000
 | [], _, i, hi => by cases hi
 | e :: l, h, i, hi => cE_S d b e (h e (by simp)) i hi
theorem acs_S {x : M} (h : x.Text.length ≤ 3000) : ∀ i ∈ acs x, i.S.length ≤ 100000 := by
 intro i hi
 unfold acs acw at hi
 split at hi
 ·rename_i w hw
  simp only [List.mem_singleton] at hi
  subst hi
  show w.length ≤ 100000
  have go : ∀ v : Str, some v = some w → v.length ≤ 100000 → w.length ≤ 100000 := fun v e h => by cases e; exact h
  repeat' split at hw
  all_goals first | exact go _ hw (by simp only [List.length_append, List.length_cons, List.length_nil]; omega) | exact go _ hw (by omega) | cases hw
 ·cases hi
theorem foldC_S {g : Sg → Int → Nat → M → List I × Int × Sg} : ∀ (l : List M) (s : Sg) (z : Int) (b : Nat), (∀ x ∈ l, ∀ s z b, ∀ i ∈ (g s z b x).1, i.S.length ≤ 100000) → ∀ i ∈ (foldC g s z b l).1, i.S.length ≤ 100000
 | [], s, z, b, _, i, hi => by cases hi
 | x :: l, s, z, b, h, i, hi => by
  rw [foldC] at hi
  rcases List.mem_append.1 hi with hi | hi
  ·exact h x (by simp) _ _ _ i hi
  ·exact foldC_S l _ _ _ (fun q hq => h q (by simp [hq])) i hi
theorem cS_S : ∀ (d : Nat) (x : M), Ok d x → ∀ (s : Sg) (z : Int) (b : Nat), ∀ i ∈ (cS d s z b x).1, i.S.length ≤ 100000
 | 0, x, h => h.elim
 | d + 1, x, ⟨h1, h2, h3⟩ => fun s z b i hi => by
  have hf : ∀ (l : List M) (s : Sg) (z : Int) (b : Nat), (∀ q ∈ l, Ok d q) → ∀ i ∈ (foldC (cS d) s z b l).1, i.S.length ≤ 100000 := fun l s z b h => foldC_S l s z b fun q hq => cS_S d q (h q hq)
  by_cases q2 : x.Kind = 2
  ·rw [cS, if_pos q2] at hi
   split at hi
   ·rename_i e t hk
    have ht := h3 t (by rw [hk]; simp)
    have kt : ∀ q ∈ t.Kids, Ok d q := fun q hq => by
     cases d with
     | zero => exact ht.elim
     | succ d => exact (ht.2.2 q hq).succ
    simp only [if2, List.mem_append, List.mem_cons] at hi
    rcases hi with hi | hi | hi
    ·exact cE_S _ _ _ (h3 e (by rw [hk]; simp)) i hi
    ·subst hi; simp
    ·exact hf _ _ _ _ kt i hi
   ·rename_i e t o hk
    have ht := h3 t (by rw [hk]; simp)
    have kt : ∀ q ∈ t.Kids, Ok d q := fun q hq => by
     cases d with
     | zero => exact ht.elim
     | succ d => exact (ht.2.2 q hq).succ
    have ko : ∀ q ∈ brn o, Ok d q := (brn_ok (h3 o (by rw [hk]; simp))).1
    simp only [if3, List.mem_append, List.mem_cons] at hi
    rcases hi with hi | hi | hi | hi | hi
    ·exact cE_S _ _ _ (h3 e (by rw [hk]; simp)) i hi
    ·subst hi; simp
    ·exact hf _ _ _ _ kt i hi
    ·subst hi; simp
    ·exact hf _ _ _ _ ko i hi
   ·cases hi
  ·by_cases q3 : x.Kind = 3
   ·rw [cS_let q3] at hi
    simp only [List.mem_append, List.mem_cons, List.not_mem_nil, or_false] at hi
    rcases hi with hi | hi
    ·exact hdC_S _ h3 i hi
    ·subst hi; simp
   ·rw [cS_act q2 q3] at hi
    simp only [List.mem_append] at hi
    rcases hi with hi | hi
    ·exact hdC_S _ h3 i hi
    ·exact acs_S h1 i hi
theorem prog_S {d : Nat} {l : List M} (h : ∀ k ∈ l, Ok d k) : ∀ i ∈ prog d l, i.S.length ≤ 100000 := by
 intro i hi
 unfold prog at hi
 rcases List.mem_append.1 hi with hi | hi
 ·exact foldC_S l _ _ _ (fun q hq => cS_S d q (h q hq)) i hi
 ·simp at hi; subst hi; simp [haltI]
theorem plain_L0 : ∀ (l : List I) (i : Nat) (y : List I2), y.length + l.length ≤ 1000000 → Jaz l i y = some (y ++ l.map cv)
 | [], i, y, _ => by rw [Jaz]; simp
 | x :: l, i, y, h => by
  simp only [List.length_cons] at h
  rw [Jaz, chk_bind (by simp only [List.length_cons, List.length_nil, lim]; omega), plain_L0 l (i + 1) _ (by simp only [List.length_append, List.length_cons, List.length_nil]; omega)]
  simp [cv]
theorem plain_eq {l : List I} (h : l.length ≤ 100000) : JbC l = some (l.map cv) := by
 unfold JbC
 rw [chk_bind (by simp only [szMax]; omega), plain_L0 l 0 [] (by simp; omega), Option.bind_some, List.nil_append]
end Rt.Rc
