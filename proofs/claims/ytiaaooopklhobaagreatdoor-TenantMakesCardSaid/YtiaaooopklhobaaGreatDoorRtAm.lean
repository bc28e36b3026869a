import Derived.Test.YtiaaooopklhobaaGreatDoorRtAll
set_option linter.unusedVariables false
set_option linter.unusedSimpArgs false
open Go Go.SL Go.Proofs Pl
namespace Rt.Rc
def SF (x : M) : Prop :=
 x.Ab = 2 ∨ (x.Ab = 3 ∧ x.Aa.length = 1) ∨ (x.Ab = 4 ∧ x.Aa.length = 1 ∧ (x.Ac = [112, 97, 116, 104] ∨ x.Ac = [113, 117, 101, 114, 121])) ∨ (x.Ab = 5 ∧ x.Aa.length = 1 ∧ prt x.Ac = true) ∨ (x.Ab = 6 ∧ x.Aa.length = 0 ∧ prt x.Ac = true) ∨
 ((x.Ab = 7 ∨ x.Ab = 8 ∨ x.Ab = 9) ∧ x.Aa.length = 1) ∨ ((x.Ab = 10 ∨ x.Ab = 11) ∧ x.Aa.length = 0)
theorem qg0 {m : Nat} {x : M} (h : (if decide ((x.Aa.length : Int) = 1) = true then (ix x.Aa 0).bind fun x121 => (Jv m x121).bind fun x123 => some x123 else some false).bind (fun x124 => some x124) = some true) : x.Aa.length = 1 := by
 by_cases q : (x.Aa.length : Int) = 1
 ·omega
 ·rw [qx1 (by simpa using q)] at h; cases h
theorem qit {m : Nat} {x : M} (ht : x.Ac.length ≤ 4200) (h : JB (m + 1) x = some true) : SF x := by
 unfold SF
 by_cases q2 : x.Ab = 2
 ·exact .inl q2
 rw [JB, qx1 (by simpa using q2)] at h
 by_cases q6 : x.Ab = 6
 ·rw [qx2 (by simpa using q6), qer (by omega), qx0] at h
  simp only [Option.some.injEq, Bool.and_eq_true, decide_eq_true_eq] at h
  exact .inr (.inr (.inr (.inr (.inl ⟨q6, by omega, h.1⟩))))
 rw [qx1 (by simpa using q6)] at h
 by_cases q10 : x.Ab = 10
 ·rw [qx2 (by simpa using q10)] at h
  simp only [Option.some.injEq, Bool.and_eq_true, decide_eq_true_eq] at h
  exact .inr (.inr (.inr (.inr (.inr (.inr ⟨.inl q10, by omega⟩)))))
 rw [qx1 (by simpa using q10)] at h
 by_cases q11 : x.Ab = 11
 ·rw [qx2 (by simpa using q11)] at h
  simp only [Option.some.injEq, Bool.and_eq_true, decide_eq_true_eq] at h
  exact .inr (.inr (.inr (.inr (.inr (.inr ⟨.inr q11, by omega⟩)))))
 rw [qx1 (by simpa using q11)] at h
 by_cases q3 : x.Ab = 3
 ·rw [qx2 (by simpa using q3)] at h
  obtain ⟨b, hb, h⟩ := bnd h
  cases b with
  | false => rw [qx2 (by simp)] at h; cases h
  | true => rw [qx1 (by simp)] at h; exact .inr (.inl ⟨q3, qg0 h⟩)
 rw [qx1 (by simpa using q3)] at h
 by_cases q4 : x.Ab = 4
 ·rw [qx2 (by simpa using q4)] at h
  cases q : (decide (x.Ac ≠ ([112, 97, 116, 104] : Str)) && decide (x.Ac ≠ ([113, 117, 101, 114, 121] : Str))) with
  | true => rw [q, qx2 rfl] at h; cases h
  | false =>
   rw [q, qx1 (by simp)] at h
   refine .inr (.inr (.inl ⟨q4, qg0 h, ?_⟩))
   simp only [Bool.and_eq_false_iff, decide_eq_false_iff_not, ne_eq, Classical.not_not] at q
   exact q
 rw [qx1 (by simpa using q4)] at h
 by_cases q5 : x.Ab = 5
 ·rw [qx2 (by simpa using q5), qer (by omega), qx0] at h
  cases q : prt x.Ac with
  | false => rw [q, qx2 (by simp)] at h; cases h
  | true => rw [q, qx1 (by simp)] at h; exact .inr (.inr (.inr (.inl ⟨q5, qg0 h, rfl⟩)))
 rw [qx1 (by simpa using q5)] at h
 by_cases q7 : x.Ab = 7
 ·rw [qx2 (by simpa using q7)] at h
  split at h
  ·cases h
  ·exact .inr (.inr (.inr (.inr (.inr (.inl ⟨.inl q7, qg0 h⟩)))))
 rw [qx1 (by simpa using q7)] at h
 by_cases q8 : x.Ab = 8
 ·rw [qx2 (by simpa using q8)] at h
  split at h
  ·cases h
  ·exact .inr (.inr (.inr (.inr (.inr (.inl ⟨.inr (.inl q8), qg0 h⟩)))))
 rw [qx1 (by simpa using q8)] at h
 by_cases q9 : x.Ab = 9
 ·rw [qx2 (by simpa using q9)] at h
  split at h
  ·cases h
  ·exact .inr (.inr (.inr (.inr (.inr (.inl ⟨.inr (.inr q9), qg0 h⟩)))))
 rw [qx1 (by simpa using q9)] at h
 cases h
def isJ (i : I) : Bool := decide (i.Op = 9) || decide (i.Op = 10)
def Bd (b : Nat) (l : List I) : Prop := ∀ i ∈ l, isJ i = true → (b : Int) ≤ i.N ∧ i.N ≤ b + l.length
theorem qhg {e : Int} {f : M → Int → Int → Option (Bool × Int)} {d : Nat} (hf : ∀ k z m, f k z (e - 1) = some (true, m) → m + cnt d k ≤ z ∧ 0 ≤ m) : ∀ (l : List M) (i : Nat) (y : Int) (r : Fl (Bool × Int) Int), JaW e f l i y = some r → (∀ m, r = Fl.go m → m + cntL d l ≤ y ∧ (0 ≤ y → 0 ≤ m)) ∧ ∀ z, r = Fl.ret z → z.1 = false
 | [], i, y, r, h => by
  cases h
  exact ⟨fun m e => by cases e; simp [cntL], fun z e => by cases e⟩
 | k :: l, i, y, r, h => by
  rw [JaW] at h
  obtain ⟨_, h⟩ := qax h
  obtain ⟨x, hx, h⟩ := bnd h
  obtain ⟨b, m⟩ := x
  cases b with
  | false =>
   rw [qx2 (by simp)] at h
   cases h
   exact ⟨fun m e => (by cases e), fun z e => by cases e; rfl⟩
  | true =>
   rw [qx1 (by simp)] at h
   obtain ⟨h1, h2⟩ := hf k y m hx
   obtain ⟨g1, g2⟩ := qhg hf l (i + 1) m r h
   refine ⟨fun m' e => ?_, g2⟩
   obtain ⟨a1, a2⟩ := g1 m' e
   rw [cntL_cons]
   exact ⟨by omega, fun _ => a2 h2⟩
theorem qlr : ∀ (n d : Nat) (x : M) (z e m : Int), JaR n x z e = some (true, m) → m + cnt d x ≤ z ∧ 0 ≤ m
 | 0, d, x, z, e, m, h => by rw [JaR] at h; cases h
 | n + 1, d, x, z, e, m, h => by
  rw [JaR] at h
  obtain ⟨_, h⟩ := qax h
  split at h
  ·cases h
  ·rename_i hq
   simp only [Bool.or_eq_true, decide_eq_true_eq, not_or] at hq
   obtain ⟨_, h⟩ := qax h
   obtain ⟨r, hr, h⟩ := bnd h
   have key : ∀ d', (∀ m, r = Fl.go m → m + cntL d' x.Aa ≤ z - 1 ∧ (0 ≤ z - 1 → 0 ≤ m)) ∧ ∀ z, r = Fl.ret z → z.1 = false := fun d' => qhg (d := d') (fun k z m hk => qlr n d' k z _ m hk) x.Aa 0 (z - 1) r hr
   cases r with
   | ret q =>
    rw [qeo] at h
    have := (key 0).2 q rfl
    cases h
    cases this
   | go q =>
    rw [el_go] at h
    cases h
    cases d with
    | zero =>
     have h0 := (key 0).1 m rfl
     have hc : cnt 0 x = 0 := rfl
     rw [hc]
     have : (0 : Int) ≤ cntL 0 x.Aa := by omega
     exact ⟨by omega, h0.2 (by omega)⟩
    | succ d =>
     have h1 := (key d).1 m rfl
     rw [cnt_eq]
     exact ⟨by omega, h1.2 (by omega)⟩
theorem Valid_small {n : Nat} {x : M} (h : JaC n x = some true) (d : Nat) : cnt d x ≤ 512 := by
 unfold JaC at h
 split at h
 ·cases h
 ·obtain ⟨s, hs, h⟩ := bnd h
  obtain ⟨b, m⟩ := s
  cases b with
  | false => rw [qx2 (by simp)] at h; cases h
  | true =>
   have := qlr n d x 512 32 m hs
   omega
abbrev S8 := Jbb
def wl (W : S8) : List Int := [W.f0, W.f1, W.f2, W.f3, W.f4, W.f5, W.f6, W.f7]
def acts1 : List Str := [[112, 97, 116, 104], [113, 117, 101, 114, 121], [116, 97, 103], [116, 116, 108], [100, 101, 110, 121]]
def acts0 : List Str := [[112, 97, 115, 115], [116, 111, 107, 101, 110]]
def qet : Str := [104, 101, 97, 100, 101, 114, 58]
def qls : Str := [118, 97, 114, 121, 58]
def hp (s p : Str) : Bool := decide (s.length ≥ p.length) && decide (s.take p.length = p)
def qv9 (s : Str) : Option Int :=
 if s ∈ acts1 then some 1 else if s ∈ acts0 then some 0 else if hp s qet = true then (if prt s = true then some 1 else none) else if (hp s qls && prt s) = true then some 0 else none
def eff (x : I) : Option (Int × Int) :=
 if x.Op = 1 then (if x.S = [] ∧ 0 ≤ x.N ∧ x.N ≤ 999999999 then some (0, 1) else none)
 else if x.Op = 2 then (if x.N = 0 ∧ prt x.S = true then some (0, 1) else none)
 else if x.Op = 3 then (if x.S = [] ∧ 0 ≤ x.N ∧ x.N ≤ 511 then some (0, 1) else none)
 else if x.Op = 4 then (if x.S = [] ∧ 0 ≤ x.N ∧ x.N ≤ 511 then some (1, 0) else none)
 else if x.Op = 5 then (if x.N = 0 ∧ x.S ∈ Jao then some (0, 1) else none)
 else if x.Op = 6 then (if x.N = 0 ∧ x.S ∈ JaV then some (1, 1) else none)
 else if x.Op = 7 then (if x.N = 0 ∧ x.S ∈ Jai then some (2, 1) else none)
 else if x.Op = 8 then (if x.N = 0 ∧ x.S = [] then some (1, 1) else none)
 else if x.Op = 9 then (if x.S = [] then some (0, 0) else none)
 else if x.Op = 10 then (if x.S = [] then some (1, 0) else none)
 else if x.Op = 11 then (if x.N = 0 then (qv9 x.S).map fun t => (t, 0) else none)
 else if x.Op = 12 then (if x.N = 0 ∧ x.S = [] then some (0, 0) else none)
 else none
theorem qvs {s p : Str} (h : hp s p = true) : s = p ++ s.drop p.length := by
 simp only [hp, Bool.and_eq_true, decide_eq_true_eq] at h
 conv => lhs; rw [← List.take_append_drop p.length s, h.2]
theorem qjw (a b : Str) : prt (a ++ b) = (prt a && prt b) := by simp [prt]
theorem qwv {s p q : Str} (h : hp s p = true) (hn : ∀ t, hp (p ++ t) q = false) : hp s q = false := by
 rw [qvs h]; exact hn _
theorem qvt (s : Str) (h : hp s qls = true) : hp s qet = false := by
 refine qwv h fun t => ?_
 unfold hp qls qet
 simp
theorem qvu {s : Str} (h : hp s qls = true) : s ∉ acts1 := by
 intro hs
 have : ∀ w ∈ acts1, hp w qls = false := by decide
 rw [this s hs] at h; cases h
theorem qlt {s : Str} (h : hp s qet = true) : s ∉ acts0 := by
 intro hs
 have : ∀ w ∈ acts0, hp w qet = false := by decide
 rw [this s hs] at h; cases h
theorem qvv (s : Str) : True ∧ ((fnc s).2 ≠ 0 ↔ s ∈ JaV) := by
 refine ⟨trivial, ?_⟩
 have e : (JaY s).map (fun r => decide (r.2 ≠ 0)) = some (decide (s ∈ JaV)) := by
  unfold JaY JaV
  by_cases q1 : s = [104, 101, 97, 100, 101, 114]; · subst q1; rfl
  by_cases q2 : s = [97, 114, 103]; · subst q2; rfl
  by_cases q3 : s = [108, 111, 119, 101, 114]; · subst q3; rfl
  by_cases q4 : s = [104, 97, 115]; · subst q4; rfl
  by_cases q5 : s = [108, 101, 110]; · subst q5; rfl
  by_cases q6 : s = [110, 117, 109, 98, 101, 114]; · subst q6; rfl
  by_cases q7 : s = [112, 97, 114, 116]; · subst q7; rfl
  by_cases q8 : s = [116, 101, 120, 116]; · subst q8; rfl
  simp [q1, q2, q3, q4, q5, q6, q7, q8]
 rw [qsx s] at e
 exact decide_eq_decide.1 (Option.some.inj e)
abbrev AS := Option (Int × (Int → Bool))
abbrev AB := Nat → AS
def joinA (a : AS) (d : Int) (σ : Int → Bool) : Option AS := match a with
 | none => some (some (d, σ))
 | some (d0, σ0) => if d0 = d then some (some (d0, fun n => σ0 n && σ n)) else none
def updA (B : AB) (i : Nat) (a : AS) : AB := fun j => if j = i then a else B j
def nxt (x : I) (σ : Int → Bool) : Int → Bool := if x.Op = 4 then (fun n => decide (n = x.N) || σ n) else σ
def far (len i : Nat) (x : I) (B : AB) (d : Int) (σ : Int → Bool) : Option AB :=
 if isJ x = true then (if x.N ≤ i ∨ x.N ≥ len then none else (joinA (B x.N.toNat) d σ).map fun a => updA B x.N.toNat a) else some B
def near (i : Nat) (x : I) (B : AB) (d : Int) (σ : Int → Bool) : Option AB :=
 if x.Op = 9 then some B else (joinA (B (i + 1)) d σ).map fun a => updA B (i + 1) a
def stA (len i : Nat) (x : I) (B : AB) (g : Int) : Option (AB × Int) :=
 match eff x, B i with
 | some (t, l), some (d, σ) =>
  if d < t ∨ ¬ ((x.Op = 12) ↔ (i + 1 = len)) ∨ (x.Op = 3 ∧ σ x.N = false) then none
  else if x.Op = 12 then (if d = 0 then some (B, max (max g d) (d + (l - t))) else none)
  else (far len i x B (d + (l - t)) (nxt x σ)).bind fun B1 => (near i x B1 (d + (l - t)) (nxt x σ)).map fun B2 => (B2, max (max g d) (d + (l - t)))
 | _, _ => none
def wk (len : Nat) : Nat → List I → AB → Int → Option Int
 | _, [], _, g => some g
 | i, x :: l, B, g => (stA len i x B g).bind fun r => wk len (i + 1) l r.1 r.2
def B0 : AB := fun i => if i = 0 then some (0, fun _ => false) else none
def depthOf (c : List I) : Option Int := if c.length < 1 ∨ c.length > 2048 then none else wk c.length 0 c B0 0
theorem qiu {len i : Nat} {x : I} {l : List I} {B : AB} {g : Int} : wk len i (x :: l) B g = (stA len i x B g).bind fun r => wk len (i + 1) l r.1 r.2 := rfl
def Asc (l : List Int) : Prop := l.Pairwise (· < ·)
structure SL (l : List Int) (σ : Int → Bool) : Prop where
 asc : Asc l
 rng : ∀ n ∈ l, 0 ≤ n ∧ n ≤ 511
 mem : ∀ n : Int, 0 ≤ n → n ≤ 511 → (n ∈ l ↔ σ n = true)
abbrev St := Int → Bool
def cap (a b : St) : St := fun n => a n && b n
theorem qhq (a : St) : cap a a = a := by funext n; simp [cap]
theorem qr6 (a b : St) : cap a b = cap b a := by funext n; simp [cap, Bool.and_comm]
theorem qqb (a b c : St) : cap (cap a b) c = cap a (cap b c) := by funext n; simp [cap, Bool.and_assoc]
theorem qe4 {b a : AS} {d : Int} {σ τ : St} (h : joinA b d σ = some a) : joinA a d τ = joinA b d (cap σ τ) := by
 cases b with
 | none => cases h; simp only [joinA, if_true]; rfl
 | some p =>
  obtain ⟨d0, σ0⟩ := p
  unfold joinA at h
  simp only at h
  split at h
  ·rename_i q
   subst q
   cases h
   simp only [joinA, if_true]
   exact congrArg some (congrArg some (Prod.ext rfl (qqb σ0 σ τ)))
  ·cases h
theorem qhr {b : AS} {d : Int} (h : ∀ e, b = some e → e.1 = d) (σ : St) : ∃ τ, joinA b d σ = some (some (d, τ)) ∧ (b = none → τ = σ) := by
 cases b with
 | none => exact ⟨σ, rfl, fun _ => rfl⟩
 | some p =>
  obtain ⟨d0, σ0⟩ := p
  have := h _ rfl
  simp only at this
  subst this
  exact ⟨cap σ0 σ, by simp only [joinA, if_true]; rfl, fun e => by cases e⟩
def Sg1 (len b : Nat) (L : List I) (d δ : Int) (σ : St) (Q : St → Prop) : Prop :=
 ∀ (B : AB) (g : Int), B b = some (d, σ) → (∀ j, b < j → j < b + L.length → B j = none) → (∀ e, B (b + L.length) = some e → e.1 = d + δ) →
  ∃ σ' B' g', Q σ' ∧ (∀ R, wk len b (L ++ R) B g = wk len (b + L.length) R B' g') ∧ joinA (B (b + L.length)) (d + δ) σ' = some (B' (b + L.length)) ∧ ∀ j, b + L.length < j → B' j = B j
def Seg (len b : Nat) (L : List I) (d δ : Int) (σ : St) (Q : St → Prop) : Prop := (L = [] ∧ δ = 0 ∧ Q σ) ∨ (L ≠ [] ∧ Sg1 len b L d δ σ Q)
theorem Seg.mono {len b : Nat} {L : List I} {d δ : Int} {σ : St} {Q R : St → Prop} (h : Seg len b L d δ σ Q) (hq : ∀ τ, Q τ → R τ) : Seg len b L d δ σ R := by
 rcases h with ⟨h1, h2, h3⟩ | ⟨h1, h2⟩
 ·exact .inl ⟨h1, h2, hq _ h3⟩
 ·exact .inr ⟨h1, fun B g a b c => by obtain ⟨σ', B', g', k, r⟩ := h2 B g a b c; exact ⟨σ', B', g', hq _ k, r⟩⟩
theorem Seg.run {len b : Nat} {L : List I} {d δ : Int} {σ : St} {Q : St → Prop} (h : Seg len b L d δ σ Q) {B : AB} {g : Int} (hB : B b = some (d, σ)) (hn : ∀ j, b < j → j ≤ b + L.length → B j = none) :
  ∃ σ' B' g', Q σ' ∧ (∀ R, wk len b (L ++ R) B g = wk len (b + L.length) R B' g') ∧ B' (b + L.length) = some (d + δ, σ') ∧ ∀ j, b + L.length < j → B' j = B j := by
 rcases h with ⟨rfl, rfl, h3⟩ | ⟨h1, h2⟩
 ·exact ⟨σ, B, g, h3, fun R => rfl, by simpa using hB, fun j _ => rfl⟩
 ·have hl : 0 < L.length := List.length_pos_iff.2 h1
  have he : B (b + L.length) = none := hn _ (by omega) (Nat.le_refl _)
  obtain ⟨σ', B', g', k1, k2, k3, k4⟩ := h2 B g hB (fun j a b => hn j a (by omega)) fun e h => by rw [he] at h; cases h
  rw [he] at k3
  exact ⟨σ', B', g', k1, k2, (Option.some.inj k3).symm, k4⟩
theorem Seg.append {len b : Nat} {L M : List I} {d δ ε : Int} {σ : St} {Q R : St → Prop} (h : Seg len b L d δ σ Q) (h2 : ∀ τ, Q τ → Seg len (b + L.length) M (d + δ) ε τ R) (hM : M ≠ []) : Seg len b (L ++ M) d (δ + ε) σ R := by
 have hm : 0 < M.length := List.length_pos_iff.2 hM
 refine .inr ⟨by simp [hM], fun B g a1 a2 a3 => ?_⟩
 simp only [List.length_append] at a2 a3 ⊢
 obtain ⟨τ, B1, g1, q1, q2, q3, q4⟩ := h.run a1 fun j x y => a2 j x (by omega)
 rcases h2 τ q1 with ⟨e, _⟩ | ⟨_, k⟩
 ·exact absurd e hM
 ·rw [show b + (L.length + M.length) = b + L.length + M.length by omega] at a3 ⊢
  have e1 : B1 (b + L.length + M.length) = B (b + L.length + M.length) := q4 _ (by omega)
  obtain ⟨τ', B2, g2, p1, p2, p3, p4⟩ := k B1 g1 q3 (fun j x y => by rw [q4 j (by omega)]; exact a2 j (by omega) (by omega)) fun e h => by rw [e1] at h; rw [a3 e h]; omega
  refine ⟨τ', B2, g2, p1, fun R => by rw [List.append_assoc, q2, p2], ?_, fun j hj => by rw [p4 j hj, q4 j (by omega)]⟩
  rw [← p3, e1, show d + (δ + ε) = d + δ + ε by omega]
theorem Seg.one {len b : Nat} {x : I} {d t l : Int} {σ : St} (he : eff x = some (t, l)) (ht : t ≤ d) (hj : isJ x = false) (h12 : x.Op ≠ 12) (h3 : x.Op = 3 → σ x.N = true) (hb : b + 1 < len) : Seg len b [x] d (l - t) σ (fun τ => τ = nxt x σ) := by
 refine .inr ⟨by simp, fun B g a1 a2 a3 => ?_⟩
 simp only [List.length_cons, List.length_nil, Nat.zero_add] at a2 a3 ⊢
 obtain ⟨τ, ha, _⟩ := qhr a3 (nxt x σ)
 refine ⟨nxt x σ, updA B (b + 1) (some (d + (l - t), τ)), max (max g d) (d + (l - t)), rfl, fun R => ?_, ?_, fun j hj => ?_⟩
 ·have h9 : x.Op ≠ 9 := by unfold isJ at hj; simp at hj; exact hj.1
  rw [List.cons_append, List.nil_append, qiu]
  unfold stA
  rw [he, a1]
  simp only
  have hno : ¬ (d < t ∨ ¬ ((x.Op = 12) ↔ (b + 1 = len)) ∨ (x.Op = 3 ∧ σ x.N = false)) := by
   intro h
   rcases h with h | h | h
   ·omega
   ·exact h ⟨fun q => absurd q h12, fun q => by omega⟩
   ·have := h3 h.1
    rw [h.2] at this
    cases this
  rw [qx1 hno, qx1 h12]
  unfold far near
  rw [qx1 (by simp [hj]), qx0, qx1 h9, ha]
  rfl
 ·rw [ha]; unfold updA; rw [qx2 rfl]
 ·unfold updA; rw [qx1 (by omega)]
theorem qs0 {n : Int} : eff ⟨10, n, []⟩ = some (1, 0) := by simp [eff]
theorem qww {n : Int} : eff ⟨9, n, []⟩ = some (0, 0) := by simp [eff]
theorem Seg.if2 {len b : Nat} {T : List I} {d : Int} {σ : St} {Q R : St → Prop} (hd : 1 ≤ d) (hT : Seg len (b + 1) T (d - 1) 0 σ Q) (hb : b + 1 + T.length < len) (hR : ∀ τ, Q τ → R (cap σ τ)) : Seg len b (⟨10, (b + 1 + T.length : Nat), []⟩ :: T) d (-1) σ R := by
 refine .inr ⟨by simp, fun B g a1 a2 a3 => ?_⟩
 simp only [List.length_cons] at a2 a3 ⊢
 rw [show b + (T.length + 1) = b + 1 + T.length by omega] at a2 a3 ⊢
 have a3' : ∀ e, B (b + 1 + T.length) = some e → e.1 = d - 1 := fun e h => by rw [a3 e h]; omega
 obtain ⟨τ, ha, _⟩ := qhr a3' σ
 have st : ∀ B2, near b ⟨10, (b + 1 + T.length : Nat), []⟩ (updA B (b + 1 + T.length) (some (d - 1, τ))) (d - 1) σ = some B2 → ∀ R', wk len b ((⟨10, (b + 1 + T.length : Nat), []⟩ : I) :: R') B g = wk len (b + 1) R' B2 (max (max g d) (d - 1)) := fun B2 h R' => by
  rw [qiu]
  unfold stA
  rw [qs0, a1]
  simp only
  rw [qx1 (by simp; omega), qx1 (by simp)]
  unfold far
  rw [show isJ (⟨10, ((b + 1 + T.length : Nat) : Int), []⟩ : I) = true from rfl, qx2 rfl, qx1 (by simp only; omega)]
  simp only [Int.toNat_natCast]
  rw [show d + (0 - 1) = d - 1 by omega, show nxt (⟨10, ((b + 1 + T.length : Nat) : Int), []⟩ : I) σ = σ from by unfold nxt; simp, ha]
  simp only [Option.map_some, qx0]
  rw [h]
  simp
 rcases hT with ⟨rfl, _, hq⟩ | ⟨hT, hk⟩
 ·simp only [List.length_nil, Nat.add_zero] at a3 a3' ha st ⊢
  have ha2 : joinA (some (d - 1, τ)) (d - 1) σ = some (some (d - 1, cap τ σ)) := by simp only [joinA, if_true]; rfl
  refine ⟨σ, _, _, by have := hR _ hq; rwa [qhq] at this, fun R' => st (updA (updA B (b + 1) (some (d - 1, τ))) (b + 1) (some (d - 1, cap τ σ))) ?_ R', ?_, fun j hj => ?_⟩
  ·unfold near
   rw [qx1 (by simp), show updA B (b + 1) (some (d - 1, τ)) (b + 1) = some (d - 1, τ) from qx2 rfl, ha2]; rfl
  ·rw [show d + -1 = d - 1 by omega, show updA (updA B (b + 1) (some (d - 1, τ))) (b + 1) (some (d - 1, cap τ σ)) (b + 1) = some (d - 1, cap τ σ) from qx2 rfl, ← ha2, qe4 ha, qhq]
  ·unfold updA; rw [qx1 (by omega), qx1 (by omega)]
 ·have hl : 0 < T.length := List.length_pos_iff.2 hT
  have hnear : near b ⟨10, (b + 1 + T.length : Nat), []⟩ (updA B (b + 1 + T.length) (some (d - 1, τ))) (d - 1) σ = some (updA (updA B (b + 1 + T.length) (some (d - 1, τ))) (b + 1) (some (d - 1, σ))) := by
   unfold near
   rw [qx1 (by simp), show updA B (b + 1 + T.length) (some (d - 1, τ)) (b + 1) = none from by unfold updA; rw [qx1 (by omega)]; exact a2 _ (by omega) (by omega)]
   rfl
  obtain ⟨σ', B', g', k1, k2, k3, k4⟩ := hk (updA (updA B (b + 1 + T.length) (some (d - 1, τ))) (b + 1) (some (d - 1, σ))) (max (max g d) (d - 1)) (qx2 rfl)
   (fun j x y => by unfold updA; rw [qx1 (by omega), qx1 (by omega)]; exact a2 j (by omega) (by omega))
   (fun e h => by unfold updA at h; rw [qx1 (by omega), qx2 rfl] at h; cases h; simp)
  refine ⟨cap σ σ', B', g', hR _ k1, fun R' => by rw [List.cons_append, st _ hnear, k2], ?_, fun j hj => ?_⟩
  ·rw [show updA (updA B (b + 1 + T.length) (some (d - 1, τ))) (b + 1) (some (d - 1, σ)) (b + 1 + T.length) = some (d - 1, τ) from by unfold updA; rw [qx1 (by omega), qx2 rfl], show d - 1 + 0 = d - 1 by omega] at k3
   rw [← k3, qe4 ha, show d + -1 = d - 1 by omega]
  ·rw [k4 j hj]; unfold updA; rw [qx1 (by omega), qx1 (by omega)]
theorem Seg.if3 {len b : Nat} {T O : List I} {d δ : Int} {σ : St} {Q P R : St → Prop} (hd : 1 ≤ d) (hdB : 1 ≤ d + δ) (hT : Seg len (b + 1) T (d - 1) δ σ Q) (hO : Seg len (b + 1 + T.length + 1) O (d - 1) δ σ P) (hb : b + 1 + T.length + 1 + O.length < len) (hR : ∀ τ υ, Q τ → P υ → R (cap τ υ)) :
  Seg len b (⟨10, (b + 1 + T.length + 1 : Nat), []⟩ :: (T ++ ⟨9, (b + 1 + T.length + 1 + O.length : Nat), []⟩ :: O)) d (δ - 1) σ R := by
 refine .inr ⟨by simp, fun B g a1 a2 a3 => ?_⟩
 simp only [List.length_cons, List.length_append] at a2 a3 ⊢
 rw [show b + (T.length + (O.length + 1) + 1) = b + 1 + T.length + 1 + O.length by omega] at a2 a3 ⊢
 have a3' : ∀ e, B (b + 1 + T.length + 1 + O.length) = some e → e.1 = d - 1 + δ := fun e h => by rw [a3 e h]; omega
 have hq : ∀ e, B (b + 1 + T.length + 1) = some e → e.1 = d - 1 := fun e h => by
  rcases hO with ⟨rfl, e0, _⟩ | ⟨hO, _⟩
  ·rw [a3' e h]; omega
  ·have hl : 0 < O.length := List.length_pos_iff.2 hO
   rw [a2 _ (by omega) (by omega)] at h; cases h
 obtain ⟨τ, ha, hτ⟩ := qhr hq σ
 have st : ∀ R', wk len b ((⟨10, (b + 1 + T.length + 1 : Nat), []⟩ : I) :: R') B g = wk len (b + 1) R' (updA (updA B (b + 1 + T.length + 1) (some (d - 1, τ))) (b + 1) (some (d - 1, σ))) (max (max g d) (d - 1)) := fun R' => by
  rw [qiu]
  unfold stA
  rw [qs0, a1]
  simp only
  rw [qx1 (by simp; omega), qx1 (by simp)]
  unfold far
  rw [show isJ (⟨10, ((b + 1 + T.length + 1 : Nat) : Int), []⟩ : I) = true from rfl, qx2 rfl, qx1 (by simp only; omega)]
  simp only [Int.toNat_natCast]
  rw [show d + (0 - 1) = d - 1 by omega, show nxt (⟨10, ((b + 1 + T.length + 1 : Nat) : Int), []⟩ : I) σ = σ from by unfold nxt; simp, ha]
  simp only [Option.map_some, qx0]
  unfold near
  rw [qx1 (by simp), show updA B (b + 1 + T.length + 1) (some (d - 1, τ)) (b + 1) = none from by unfold updA; rw [qx1 (by omega)]; exact a2 _ (by omega) (by omega)]
  simp [joinA]
 generalize hB2 : updA (updA B (b + 1 + T.length + 1) (some (d - 1, τ))) (b + 1) (some (d - 1, σ)) = B2 at st
 generalize max (max g d) (d - 1) = g2 at st
 have b1 : B2 (b + 1) = some (d - 1, σ) := by rw [← hB2]; exact qx2 rfl
 have b2 : B2 (b + 1 + T.length + 1) = some (d - 1, τ) := by rw [← hB2]; unfold updA; rw [qx1 (by omega), qx2 rfl]
 have b3 : ∀ j, b + 1 < j → j ≠ b + 1 + T.length + 1 → B2 j = B j := fun j x y => by rw [← hB2]; unfold updA; rw [qx1 (by omega), qx1 y]
 obtain ⟨σT, B3, g3, q1, q2, q3, q4⟩ := hT.run (g := g2) b1 fun j x y => by rw [b3 j x (by omega)]; exact a2 j (by omega) (by omega)
 have a4 : ∀ e, B3 (b + 1 + T.length + 1 + O.length) = some e → e.1 = d - 1 + δ := fun e h => by
  rw [q4 _ (by omega)] at h
  rcases hO with ⟨rfl, e0, _⟩ | ⟨hO, _⟩
  ·simp only [List.length_nil, Nat.add_zero] at h
   rw [b2] at h
   cases h
   simp only
   omega
  ·have hl : 0 < O.length := List.length_pos_iff.2 hO
   rw [b3 _ (by omega) (by omega)] at h
   exact a3' e h
 obtain ⟨υ, hu, _⟩ := qhr a4 σT
 have st2 : ∀ R', wk len (b + 1 + T.length) ((⟨9, (b + 1 + T.length + 1 + O.length : Nat), []⟩ : I) :: R') B3 g3 = wk len (b + 1 + T.length + 1) R' (updA B3 (b + 1 + T.length + 1 + O.length) (some (d - 1 + δ, υ))) (max (max g3 (d - 1 + δ)) (d - 1 + δ)) := fun R' => by
  rw [qiu]
  unfold stA
  rw [qww, q3]
  simp only
  rw [qx1 (by simp; omega), qx1 (by simp)]
  unfold far
  rw [show isJ (⟨9, ((b + 1 + T.length + 1 + O.length : Nat) : Int), []⟩ : I) = true from rfl, qx2 rfl, qx1 (by simp only; omega)]
  simp only [Int.toNat_natCast]
  rw [show d - 1 + δ + (0 - 0) = d - 1 + δ by omega, show nxt (⟨9, ((b + 1 + T.length + 1 + O.length : Nat) : Int), []⟩ : I) σT = σT from by unfold nxt; simp, hu]
  simp only [Option.map_some, qx0]
  unfold near
  rw [qx2 (by simp)]
  rfl
 generalize hB4 : updA B3 (b + 1 + T.length + 1 + O.length) (some (d - 1 + δ, υ)) = B4 at st2
 generalize max (max g3 (d - 1 + δ)) (d - 1 + δ) = g4 at st2
 have c1 : B4 (b + 1 + T.length + 1 + O.length) = some (d - 1 + δ, υ) := by rw [← hB4]; exact qx2 rfl
 have c2 : ∀ j, b + 1 + T.length < j → j ≠ b + 1 + T.length + 1 + O.length → B4 j = B2 j := fun j x y => by rw [← hB4]; unfold updA; rw [qx1 y, q4 j x]
 have run : ∀ R', wk len b ((⟨10, (b + 1 + T.length + 1 : Nat), []⟩ : I) :: (T ++ ⟨9, (b + 1 + T.length + 1 + O.length : Nat), []⟩ :: O) ++ R') B g = wk len (b + 1 + T.length + 1) (O ++ R') B4 g4 := fun R' => by
  rw [List.cons_append, st, List.append_assoc, q2, List.cons_append, st2]
 rcases hO with ⟨rfl, rfl, hp⟩ | ⟨hO, hk⟩
 ·simp only [List.length_nil, Nat.add_zero] at *
  rw [q4 _ (by omega), b2] at hu
  rw [show d - 1 + 0 = d - 1 by omega] at hu c1
  refine ⟨cap σT σ, B4, g4, hR _ _ q1 hp, fun R' => run R', ?_, fun j hj => by rw [c2 j (by omega) (by omega), b3 j (by omega) (by omega)]⟩
  rw [c1, qr6, show d + (0 - 1) = d - 1 by omega, ← qe4 ha, hu]
 ·have hl : 0 < O.length := List.length_pos_iff.2 hO
  rw [q4 _ (by omega), b3 _ (by omega) (by omega)] at hu
  have hn : B (b + 1 + T.length + 1) = none := a2 _ (by omega) (by omega)
  have hτ := hτ hn
  subst hτ
  obtain ⟨σO, B5, g5, k1, k2, k3, k4⟩ := hk B4 g4 (by rw [c2 _ (by omega) (by omega)]; exact b2) (fun j x y => by rw [c2 j (by omega) (by omega), b3 j (by omega) (by omega)]; exact a2 j (by omega) (by omega)) fun e h => by rw [c1] at h; cases h; rfl
  refine ⟨cap σT σO, B5, g5, hR _ _ q1 k1, fun R' => by rw [run, k2], ?_, fun j hj => by rw [k4 j hj, c2 j (by omega) (by omega), b3 j (by omega) (by omega)]⟩
  rw [c1] at k3
  rw [← k3, show d + (δ - 1) = d - 1 + δ by omega, qe4 hu]
def Rel (ρ : Env) (s : Sg) (σ : St) : Prop := (∀ q k, s q = some k → 0 ≤ k ∧ k ≤ 511 ∧ σ k = true) ∧ ∀ q, s q = none → ρ q ≠ 0 → q ∈ Jao
theorem Rel.mono {ρ : Env} {s : Sg} {σ τ : St} (h : Rel ρ s σ) (hs : ∀ n, σ n = true → τ n = true) : Rel ρ s τ :=
 ⟨fun q k e => by obtain ⟨a, b, c⟩ := h.1 q k e; exact ⟨a, b, hs _ c⟩, h.2⟩
theorem qud {s : Str} (h : base s ≠ 0) : s ∈ Jao := by
 unfold base pre at h
 split at h
 ·rename_i q
  unfold Jao
  simp only [Bool.or_eq_true, decide_eq_true_eq] at q
  rcases q with ((q | q) | q) | q <;> subst q <;> simp
 ·exact absurd rfl h
theorem Rel.nil : Rel Rt.base (fun _ => none) (fun _ => false) := ⟨fun q k e => (by cases e), fun q _ h => qud h⟩
theorem que {s : Str} (h : cmp s = true) : s ∈ Jai := by
 unfold cmp at h
 unfold Jai
 simp only [Bool.or_eq_true, decide_eq_true_eq] at h
 rcases h with q | q | q | q | q | q | q <;> subst q <;> simp
theorem qvw {s : Str} (h : nmr s = true) : 0 ≤ num s ∧ num s ≤ 999999999 := by
 obtain ⟨h1, h2, h3⟩ := qp8 h
 have go : ∀ (t : Str) (a : Int), t.all isD = true → 0 ≤ a → 0 ≤ t.foldl (fun n c => 10 * n + ((c.toNat : Int) - 48)) a ∧ t.foldl (fun n c => 10 * n + ((c.toNat : Int) - 48)) a + 1 ≤ (a + 1) * 10 ^ t.length := by
  intro t
  induction t with
  | nil => intro a _ ha; simp [ha]
  | cons c t ih =>
   intro a hc ha
   simp only [List.all_cons, Bool.and_eq_true] at hc
   have hd := hc.1
   simp only [isD, Bool.and_eq_true, decide_eq_true_eq] at hd
   rw [List.foldl_cons, List.length_cons]
   obtain ⟨g1, g2⟩ := ih (10 * a + ((c.toNat : Int) - 48)) hc.2 (by omega)
   refine ⟨g1, Int.le_trans g2 ?_⟩
   rw [Int.pow_succ, Int.mul_comm (10 ^ t.length) 10, ← Int.mul_assoc]
   exact Int.mul_le_mul_of_nonneg_right (by omega) (Int.le_of_lt (Int.pow_pos (by omega)))
 obtain ⟨g1, g2⟩ := go s 0 h1 (by omega)
 refine ⟨g1, ?_⟩
 unfold num
 have : s.length = 1 ∨ s.length = 2 ∨ s.length = 3 ∨ s.length = 4 ∨ s.length = 5 ∨ s.length = 6 ∨ s.length = 7 ∨ s.length = 8 ∨ s.length = 9 := by omega
 rcases this with e | e | e | e | e | e | e | e | e <;> rw [e] at g2 <;> omega
theorem qvx {x : I} {σ : St} (h : x.Op ≠ 4) : nxt x σ = σ := by unfold nxt; rw [qx1 h]
theorem Seg.one' {len b : Nat} {x : I} {d t l δ : Int} {σ : St} (he : eff x = some (t, l)) (ht : t ≤ d) (hj : isJ x = false) (h12 : x.Op ≠ 12) (h4 : x.Op ≠ 4) (h3 : x.Op = 3 → σ x.N = true) (hb : b + 1 < len) (hδ : δ = l - t) : Seg len b [x] d δ σ (fun τ => τ = σ) := by
 subst hδ
 have := Seg.one he ht hj h12 h3 hb
 rwa [qvx h4] at this
theorem qqc {len b : Nat} {d : Int} {σ : St} (v : Bool) (hd : 0 ≤ d) (hb : b + 3 < len) : Seg len b (tr v) d 1 σ (fun τ => τ = σ) := by
 have e1 : eff ⟨1, 0, []⟩ = some (0, 1) := by simp [eff]
 have e2 : eff ⟨1, if v then 0 else 1, []⟩ = some (0, 1) := by cases v <;> simp [eff]
 have e3 : eff ⟨7, 0, [61, 61]⟩ = some (2, 1) := by simp [eff, Jai]
 have h1 : Seg len b [⟨1, 0, []⟩] d 1 σ (fun τ => τ = σ) := Seg.one' e1 (by omega) rfl (by simp) (by simp) (by simp) (by omega) (by omega)
 have h2 : Seg len (b + 1) [⟨1, if v then 0 else 1, []⟩] (d + 1) 1 σ (fun τ => τ = σ) := Seg.one' e2 (by omega) rfl (by simp) (by simp) (by simp) (by omega) (by omega)
 have h3 : Seg len (b + 2) [⟨7, 0, [61, 61]⟩] (d + 2) (-1) σ (fun τ => τ = σ) := Seg.one' e3 (by omega) rfl (by simp) (by simp) (by simp) (by omega) (by omega)
 have h12 := Seg.append h1 (fun τ e => by subst e; exact h2) (by simp)
 have h123 := Seg.append h12 (fun τ e => by subst e; rw [show d + (1 + 1) = d + 2 by omega]; exact h3) (by simp)
 exact h123
theorem qd9 {len : Nat} {ρ : Env} {s : Sg} {σ : St} (hr : Rel ρ s σ) : ∀ (n b : Nat) (x : M) (d : Int), XE ρ n x → 0 ≤ d → b + (cE n s b x).length < len → Seg len b (cE n s b x) d 1 σ (fun τ => τ = σ)
 | 0, _, _, _, h, _, _ => h.elim
 | n + 1, b, x, d, ⟨hx, h⟩, hd, hb => by
  rcases h with ⟨q, hn, _⟩ | ⟨q, hp, _⟩ | ⟨q, _⟩ | ⟨q, hn, _⟩ | ⟨q, k, hk, hxk⟩ | ⟨q, k, l, hk, hxk, hxl⟩
  ·rw [qvj q] at hb ⊢
   obtain ⟨n0, n1⟩ := qvw hn
   exact Seg.one' (t := 0) (l := 1) (by simp [eff, n0, n1]) hd rfl (by simp) (by simp) (by simp) hb (by omega)
  ·rw [qvk q] at hb ⊢
   exact Seg.one' (t := 0) (l := 1) (by simp [eff, hp]) hd rfl (by simp) (by simp) (by simp) hb (by omega)
  ·rw [qvl q] at hb ⊢
   exact qqc _ hd (by simpa [qcq] using hb)
  ·rw [qvm q] at hb ⊢
   unfold nmI at hb ⊢
   cases e : s x.Ac with
   | some k =>
    rw [e] at hb
    obtain ⟨k0, k1, k2⟩ := hr.1 _ _ e
    exact Seg.one' (t := 0) (l := 1) (by simp [eff, k0, k1]) hd rfl (by simp) (by simp) (fun _ => k2) hb (by omega)
   | none =>
    rw [e] at hb
    have := hr.2 _ e hn
    exact Seg.one' (t := 0) (l := 1) (by simp [eff, this]) hd rfl (by simp) (by simp) (by simp) hb (by omega)
  ·rcases q with ⟨q, hf⟩ | q
   ·rw [qvn q hk] at hb ⊢
    simp only [List.length_append, List.length_cons, List.length_nil] at hb
    have h1 := qd9 (len := len) hr n b k d hxk hd (by omega)
    have hm := (qvv x.Ac).2.1 hf
    have := Seg.append h1 (M := [⟨6, 0, x.Ac⟩]) (ε := 0) (R := fun τ => τ = σ) (fun τ e => by subst e; exact Seg.one' (t := 1) (l := 1) (by simp [eff, hm]) (by omega) rfl (by simp) (by simp) (by simp) (by omega) (by omega)) (by simp)
    rwa [show (1 : Int) + 0 = 1 by omega] at this
   ·rw [qvo q hk] at hb ⊢
    simp only [List.length_append, List.length_cons, List.length_nil] at hb
    have h1 := qd9 (len := len) hr n b k d hxk hd (by omega)
    have := Seg.append h1 (M := [⟨8, 0, []⟩]) (ε := 0) (R := fun τ => τ = σ) (fun τ e => by subst e; exact Seg.one' (t := 1) (l := 1) (by simp [eff]) (by omega) rfl (by simp) (by simp) (by simp) (by omega) (by omega)) (by simp)
    rwa [show (1 : Int) + 0 = 1 by omega] at this
  ·by_cases q14 : x.Ab = 14
   ·rw [qvp q14 hk] at hb ⊢
    simp only [List.length_append, List.length_cons, qcq] at hb
    have h1 := qd9 (len := len) hr n b k d hxk hd (by omega)
    have h2 := qd9 (len := len) hr n (b + (cE n s b k).length + 1) l d hxl hd (by omega)
    have h3 := qqc (len := len) (b := b + (cE n s b k).length + 1 + (cE n s (b + (cE n s b k).length + 1) l).length + 1) (d := d) (σ := σ) false hd (by omega)
    have e1 : d + 1 - 1 = d := by omega
    have h4 := Seg.if3 (len := len) (b := b + (cE n s b k).length) (d := d + 1) (δ := 1) (Q := fun τ => τ = σ) (P := fun τ => τ = σ) (R := fun τ => τ = σ) (T := cE n s (b + (cE n s b k).length + 1) l) (O := tr false) (by omega) (by omega) (by rw [e1]; exact h2) (by rw [e1]; exact h3) (by rw [qcq]; omega) (fun τ υ e1 e2 => by subst e1 e2; exact qhq _)
    rw [qcq] at h4
    have := Seg.append h1 (fun τ e => by subst e; exact h4) (by simp)
    exact this
   ·by_cases q13 : x.Ab = 13
    ·rw [qvq q13 hk] at hb ⊢
     simp only [List.length_append, List.length_cons, qcq] at hb
     have h1 := qd9 (len := len) hr n b k d hxk hd (by omega)
     have h2 := qd9 (len := len) hr n (b + (cE n s b k).length + 5) l d hxl hd (by omega)
     have h3 := qqc (len := len) (b := b + (cE n s b k).length + 1) (d := d) (σ := σ) true hd (by omega)
     have e1 : d + 1 - 1 = d := by omega
     have h4 := Seg.if3 (len := len) (b := b + (cE n s b k).length) (d := d + 1) (δ := 1) (Q := fun τ => τ = σ) (P := fun τ => τ = σ) (R := fun τ => τ = σ) (T := tr true) (O := cE n s (b + (cE n s b k).length + 5) l) (by omega) (by omega) (by rw [e1]; exact h3) (by rw [e1, qcq]; exact h2) (by rw [qcq]; omega) (fun τ υ e1 e2 => by subst e1 e2; exact qhq _)
     rw [qcq] at h4
     have := Seg.append h1 (fun τ e => by subst e; exact h4) (by simp)
     exact this
    ·rw [qvr (by omega) hk] at hb ⊢
     simp only [List.length_append, List.length_cons, List.length_nil] at hb
     have h1 := qd9 (len := len) hr n b k d hxk hd (by omega)
     have h2 := qd9 (len := len) hr n (b + (cE n s b k).length) l (d + 1) hxl (by omega) (by omega)
     have hm : opw x ∈ Jai := by
      unfold opw
      by_cases q17 : x.Ab = 17
      ·rw [qx2 q17]; simp [Jai]
      by_cases q18 : x.Ab = 18
      ·rw [qx1 q17, qx2 q18]; simp [Jai]
      by_cases q19 : x.Ab = 19
      ·rw [qx1 q17, qx1 q18, qx2 q19]; simp [Jai]
      rw [qx1 q17, qx1 q18, qx1 q19]
      rcases q with q | q | q | q | q | q
      ·exact absurd q q13
      ·exact absurd q q14
      ·exact absurd q q17
      ·exact absurd q q18
      ·exact absurd q q19
      ·exact que q.2
     have h3 := Seg.append h2 (M := [⟨7, 0, opw x⟩]) (ε := -1) (R := fun τ => τ = σ) (fun τ e => by subst e; exact Seg.one' (t := 2) (l := 1) (by simp [eff, hm]) (by omega) rfl (by simp) (by simp) (by simp) (by omega) (by omega)) (by simp)
     have := Seg.append h1 (fun τ e => by subst e; exact h3) (by simp)
     rwa [show (1 : Int) + (1 + -1) = 1 by omega] at this
theorem qs1 (p s : Str) : hp (p ++ s) p = true := by simp [hp]
theorem qqd {x : M} (h : SF x) (h2 : x.Ab ≠ 2) (h3 : x.Ab ≠ 3) : ∃ w, acs x = [⟨11, 0, w⟩] ∧ eff ⟨11, 0, w⟩ = some ((x.Aa.length : Int), 0) := by
 have go : ∀ w k, acw x = some w → qv9 w = some k → k = (x.Aa.length : Int) → ∃ w, acs x = [⟨11, 0, w⟩] ∧ eff ⟨11, 0, w⟩ = some ((x.Aa.length : Int), 0) := fun w k h1 h2 h3 => by
  subst h3
  refine ⟨w, by unfold acs; rw [h1], ?_⟩
  simp [eff, h2]
 rcases h with q | ⟨q, _⟩ | ⟨q, l, t⟩ | ⟨q, l, t⟩ | ⟨q, l, t⟩ | ⟨q, l⟩ | ⟨q, l⟩
 ·exact absurd q h2
 ·exact absurd q h3
 ·rcases t with t | t
  ·exact go _ 1 (by unfold acw; rw [qx2 q, t]) (by decide) (by rw [l]; rfl)
  ·exact go _ 1 (by unfold acw; rw [qx2 q, t]) (by decide) (by rw [l]; rfl)
 ·refine go (qet ++ x.Ac) 1 (by unfold acw; rw [qx1 (by omega), qx2 q]; rfl) ?_ (by rw [l]; rfl)
  have h0 := qs1 qet x.Ac
  unfold qv9
  rw [qx1 (fun m => ?_), qx1 (qlt h0), qx2 h0, qjw, t, qx2 (by decide)]
  ·revert m
   unfold acts1 qet
   simp
 ·refine go (qls ++ x.Ac) 0 (by unfold acw; rw [qx1 (by omega), qx1 (by omega), qx2 q]; rfl) ?_ (by rw [l]; rfl)
  have h0 := qs1 qls x.Ac
  have h1 := qvt _ h0
  unfold qv9
  rw [qx1 (qvu h0), qx1 (fun m => ?_), qx1 (by rw [h1]; simp), h0, qjw, t, qx2 (by decide)]
  ·revert m
   unfold acts0 qls
   simp
 ·rcases q with q | q | q
  ·exact go [116, 97, 103] 1 (by unfold acw; rw [qx1 (by omega), qx1 (by omega), qx1 (by omega), qx2 q]) (by decide) (by rw [l]; rfl)
  ·exact go [116, 116, 108] 1 (by unfold acw; rw [qx1 (by omega), qx1 (by omega), qx1 (by omega), qx1 (by omega), qx2 q]) (by decide) (by rw [l]; rfl)
  ·exact go [100, 101, 110, 121] 1 (by unfold acw; rw [qx1 (by omega), qx1 (by omega), qx1 (by omega), qx1 (by omega), qx1 (by omega), qx2 q]) (by decide) (by rw [l]; rfl)
 ·rcases q with q | q
  ·exact go [112, 97, 115, 115] 0 (by unfold acw; rw [qx1 (by omega), qx1 (by omega), qx1 (by omega), qx1 (by omega), qx1 (by omega), qx1 (by omega), qx2 q]) (by decide) (by rw [l]; rfl)
  ·exact go [116, 111, 107, 101, 110] 0 (by unfold acw; rw [qx1 (by omega), qx1 (by omega), qx1 (by omega), qx1 (by omega), qx1 (by omega), qx1 (by omega), qx1 (by omega), qx2 q]) (by decide) (by rw [l]; rfl)
def Up (σ τ : St) : Prop := ∀ m, σ m = true → τ m = true
def ES (len n : Nat) (x : M) : Prop := ∀ (ρ ρ' : Env) (s : Sg) (σ : St) (z : Int) (b : Nat), stm n ρ x = .ok ρ' → Rel ρ s σ → 0 ≤ z → (cS n s z b x).2.1 ≤ 512 → b + (cS n s z b x).1.length < len →
 Seg len b (cS n s z b x).1 0 0 σ (fun τ => Up σ τ ∧ Rel ρ' (cS n s z b x).2.2 τ)
def NE (n : Nat) (x : M) : Prop := ∀ (s : Sg) (z : Int) (b : Nat), (cS n s z b x).1 ≠ []
theorem qeu {len n : Nat} : ∀ (l : List M) (ρ ρ' : Env) (s : Sg) (σ : St) (z : Int) (b : Nat), (∀ x ∈ l, Ok n x ∧ NE n x ∧ ES len n x) → foldS (stm n) ρ l = .ok ρ' → Rel ρ s σ → 0 ≤ z → (foldC (cS n) s z b l).2 ≤ 512 → b + (foldC (cS n) s z b l).1.length < len →
  Seg len b (foldC (cS n) s z b l).1 0 0 σ (fun τ => Up σ τ)
 | [], ρ, ρ', s, σ, z, b, _, _, _, _, _, _ => .inl ⟨rfl, rfl, fun _ h => h⟩
 | x :: l, ρ, ρ', s, σ, z, b, hx, hs, hr, hz, hk, hb => by
  obtain ⟨ρ1, e1, e2⟩ := qe3 hs
  obtain ⟨ok, ne, es⟩ := hx x (by simp)
  obtain ⟨c1, c2, c3⟩ := qes n x ok s z b
  obtain ⟨f1, f2, f3⟩ := qce (d := n) (g := cS n) l (cS n s z b x).2.2 (cS n s z b x).2.1 (b + (cS n s z b x).1.length) fun q hq => qes n q (hx q (by simp [hq])).1
  rw [foldC] at hk hb ⊢
  simp only [List.length_append] at hk hb ⊢
  have h1 := es ρ ρ1 s σ z b e1 hr hz (by omega) (by omega)
  cases l with
  | nil =>
   rw [foldC, List.append_nil]
   exact h1.mono fun τ h => h.1
  | cons y l =>
   have h2 : ∀ τ, Up σ τ ∧ Rel ρ1 (cS n s z b x).2.2 τ → Seg len (b + (cS n s z b x).1.length) (foldC (cS n) (cS n s z b x).2.2 (cS n s z b x).2.1 (b + (cS n s z b x).1.length) (y :: l)).1 (0 + 0) 0 τ (fun υ => Up σ υ) := fun τ hτ =>
    (qeu (y :: l) ρ1 ρ' (cS n s z b x).2.2 τ (cS n s z b x).2.1 (b + (cS n s z b x).1.length) (fun q hq => hx q (by simp at hq ⊢; exact .inr hq)) e2 hτ.2 (by omega) hk (by omega)).mono fun υ hυ m hm => hυ m (hτ.1 m hm)
   have hy : (foldC (cS n) (cS n s z b x).2.2 (cS n s z b x).2.1 (b + (cS n s z b x).1.length) (y :: l)).1 ≠ [] := by
    rw [foldC]
    exact fun e => (hx y (by simp)).2.1 _ _ _ (List.append_eq_nil_iff.1 e).1
   exact Seg.append h1 h2 hy
theorem qvy : ∀ {n : Nat} {x : M}, Gd n x → NE n x
 | 0, x, h => h.1.elim
 | n + 1, x, ⟨⟨h1, h2, h3⟩, m, hm⟩ => fun s z b => by
  obtain ⟨m, rfl, hv0, hv2⟩ := qcj hm
  have sf := qit h1 hm
  by_cases q2 : x.Ab = 2
  ·obtain ⟨e, t, ht12, hk⟩ := qm0 q2 hm
   rcases hk with hk | ⟨o, _, hk⟩
   ·rw [qws q2 hk rfl]; simp [if2]
   ·rw [qwt q2 hk rfl rfl]; simp [if3]
  ·by_cases q3 : x.Ab = 3
   ·rw [qlo q3]; simp
   ·rw [qlp q2 q3]
    obtain ⟨w, e, _⟩ := qqd sf q2 q3
    simp [e]
theorem qs2 {len : Nat} : ∀ (n : Nat) (x : M), Gd n x → ES len n x
 | 0, x, h => h.1.elim
 | n + 1, x, ⟨⟨h1, h2, h3⟩, m, hm⟩ => fun ρ ρ' s σ z b hs hr hz hk hb => by
  obtain ⟨m, rfl, hv0, hv2⟩ := qcj hm
  have sf := qit h1 hm
  by_cases q2 : x.Ab = 2
  ·obtain ⟨l2, hbr⟩ := hv2 q2
   obtain ⟨e, t, ht12, hkd⟩ := qm0 q2 hm
   have hex : ∃ ks, x.Aa = e :: t :: ks := by rcases hkd with hk | ⟨o, _, hk⟩ <;> exact ⟨_, hk⟩
   obtain ⟨ks, hks⟩ := hex
   obtain ⟨te, hte, hst⟩ := qgy hks hs
   rcases hst with ⟨q, _⟩ | ⟨_, rfl, hbs⟩ | ⟨_, q, _⟩
   ·omega
   ·have hE : XE ρ' n e := qoq (h3 e (by rw [hks]; simp)) (hv0 e (by rw [hks]; rfl)) hte
    have hT := qhp hbs
    have gd : ∀ k ∈ t :: ks, ∀ q ∈ brn k, Gd n q := fun k hk1 => by
     have hk2 : k ∈ x.Aa := by rw [hks]; simp at hk1 ⊢; exact .inr hk1
     obtain ⟨l', e1, e2, e3⟩ := qeq (h3 k hk2) ((hbr k (by rw [hks]; simpa using hk1)).imp (fun h => ⟨h.1, fun q hq => ⟨m, h.2 q hq⟩⟩) fun h => ⟨h.1, m, h.2⟩)
     rw [qis] at e1
     cases e1
     exact e3
    have gs : ∀ k ∈ t :: ks, ∀ q ∈ brn k, Ok n q ∧ NE n q ∧ ES len n q := fun k hk1 q hq => ⟨(gd k hk1 q hq).1, qvy (gd k hk1 q hq), qs2 n q (gd k hk1 q hq)⟩
    have gt := gs t (by simp)
    obtain ⟨ρt, hρt⟩ := hT t (by simp)
    rw [qr5 ht12] at gt hρt
    have lT := qce (d := n) (g := cS n) t.Aa s z (b + (cE n s b e).length + 1) fun q hq => qes n q (gt q hq).1
    rcases hkd with hkd | ⟨o, ho, hkd⟩
    ·rw [qws q2 hkd rfl] at hk hb ⊢
     simp only [if2, List.length_append, List.length_cons] at hk hb ⊢
     have hA := qd9 (len := len) hr n b e 0 hE (by omega) (by omega)
     have hTs := qeu t.Aa ρ' ρt s σ z (b + (cE n s b e).length + 1) gt hρt hr hz hk (by omega)
     have hI := Seg.if2 (len := len) (b := b + (cE n s b e).length) (d := 0 + 1) (R := fun τ => Up σ τ ∧ Rel ρ' s τ) (by omega) hTs (by omega) fun τ h => by
      have : Up σ (cap σ τ) := fun k hk => by unfold cap; rw [hk, h k hk]; rfl
      exact ⟨this, hr.mono this⟩
     have := Seg.append hA (fun τ e => by subst e; exact hI) (by simp)
     rwa [show (1 : Int) + -1 = 0 by omega] at this
    ·rw [hks] at hkd
     cases hkd
     obtain ⟨ρo, hρo⟩ := hT o (by simp)
     have go := gs o (by simp)
     rw [qwt q2 hks rfl rfl] at hk hb ⊢
     simp only [if3, List.length_append, List.length_cons] at hk hb ⊢
     have lO := qce (d := n) (g := cS n) (brn o) s (foldC (cS n) s z (b + (cE n s b e).length + 1) t.Aa).2 (b + (cE n s b e).length + 1 + (foldC (cS n) s z (b + (cE n s b e).length + 1) t.Aa).1.length + 1) fun q hq => qes n q (go q hq).1
     have hA := qd9 (len := len) hr n b e 0 hE (by omega) (by omega)
     have hTs := qeu (len := len) t.Aa ρ' ρt s σ z (b + (cE n s b e).length + 1) gt hρt hr hz (by omega) (by omega)
     have hOs := qeu (len := len) (brn o) ρ' ρo s σ (foldC (cS n) s z (b + (cE n s b e).length + 1) t.Aa).2 (b + (cE n s b e).length + 1 + (foldC (cS n) s z (b + (cE n s b e).length + 1) t.Aa).1.length + 1) go hρo hr (by omega) (by omega) (by omega)
     have hI := Seg.if3 (len := len) (b := b + (cE n s b e).length) (d := 0 + 1) (δ := 0) (R := fun τ => Up σ τ ∧ Rel ρ' s τ) (by omega) (by omega) hTs hOs (by omega) fun τ υ h h' => by
      have : Up σ (cap τ υ) := fun k hk => by unfold cap; rw [h k hk, h' k hk]; rfl
      exact ⟨this, hr.mono this⟩
     have := Seg.append hA (fun τ e => by subst e; exact hI) (by simp)
     rwa [show (1 : Int) + (0 - 1) = 0 by omega] at this
   ·exact absurd q2 q
  ·by_cases q3 : x.Ab = 3
   ·have l1 : x.Aa.length = 1 := by
     rcases sf with q | ⟨_, q⟩ | ⟨q, _⟩ | ⟨q, _⟩ | ⟨q, _⟩ | ⟨q, _⟩ | ⟨q, _⟩ <;> first | exact q | omega
    obtain ⟨e, he⟩ := qwq (l := x.Aa) (by rw [l1]; rfl)
    obtain ⟨te, hte, hst⟩ := qgy he hs
    rcases hst with ⟨_, rfl⟩ | ⟨q, _⟩ | ⟨q, _⟩
    ·have hE : XE ρ n e := qoq (h3 e (by rw [he]; simp)) (hv0 e (by rw [he]; rfl)) hte
     rw [qlo q3, he] at hk hb ⊢
     simp only [hdC, List.length_append, List.length_cons, List.length_nil] at hk hb ⊢
     have hA := qd9 (len := len) hr n b e 0 hE (by omega) (by omega)
     have hS : Seg len (b + (cE n s b e).length) [⟨4, z, []⟩] (0 + 1) (0 - 1) σ (fun τ => Up σ τ ∧ Rel (ext ρ x.Ac te) (upd s x.Ac z) τ) := by
      refine (Seg.one (x := ⟨4, z, []⟩) (t := 1) (l := 0) (by simp [eff]; omega) (by omega) rfl (by simp) (by simp) (by omega)).mono fun τ e => ?_
      subst e
      have up : Up σ (nxt ⟨4, z, []⟩ σ) := fun k hk => by unfold nxt; simp [hk]
      refine ⟨up, fun q k hq => ?_, fun q hq hq2 => ?_⟩
      ·unfold upd at hq
       by_cases w : x.Ac = q
       ·rw [qx2 w] at hq
        cases hq
        exact ⟨hz, by omega, by unfold nxt; simp⟩
       ·rw [qx1 w] at hq
        obtain ⟨a, b, c⟩ := hr.1 q k hq
        exact ⟨a, b, up k c⟩
      ·unfold upd at hq
       by_cases w : x.Ac = q
       ·rw [qx2 w] at hq; cases hq
       ·rw [qx1 w] at hq
        unfold ext at hq2
        rw [qx1 w] at hq2
        exact hr.2 q hq hq2
     have := Seg.append hA (fun τ e => by subst e; exact hS) (by simp)
     rwa [show (1 : Int) + (0 - 1) = 0 by omega] at this
    ·omega
    ·exact absurd q3 q
   ·obtain ⟨w, ew, ef⟩ := qqd sf q2 q3
    rw [qlp q2 q3, ew] at hk hb ⊢
    simp only [List.length_append, List.length_cons, List.length_nil] at hk hb ⊢
    have act : ∀ (d : Int) (b : Nat), (x.Aa.length : Int) = d → b + 1 < len → Seg len b [⟨11, 0, w⟩] d (-d) σ (fun τ => τ = σ) := fun d b hd hb => by
     refine Seg.one' ef (by omega) rfl (by simp) (by simp) (by simp) hb (by omega)
    match hks : x.Aa with
    | [] =>
     have e : ρ' = ρ := by rw [stm, hks] at hs; cases hs; rfl
     subst e
     rw [hks] at act hb
     simp only [hdC, List.nil_append, List.length_nil] at hb ⊢
     exact (act 0 b rfl (by omega)).mono fun τ e => by subst e; exact ⟨fun _ h => h, hr⟩
    | e :: ks =>
     obtain ⟨te, hte, hst⟩ := qgy hks hs
     have e1 : ks = [] := by
      have : x.Aa.length ≤ 1 := by
       rcases sf with q | ⟨_, q⟩ | ⟨_, q, _⟩ | ⟨_, q, _⟩ | ⟨_, q, _⟩ | ⟨_, q⟩ | ⟨_, q⟩ <;> omega
      rw [hks] at this
      simp only [List.length_cons] at this
      exact List.length_eq_zero_iff.1 (by omega)
     subst e1
     rcases hst with ⟨q, _⟩ | ⟨q, _⟩ | ⟨_, _, rfl⟩
     ·exact absurd q q3
     ·exact absurd q q2
     ·have hE : XE ρ' n e := qoq (h3 e (by rw [hks]; simp)) (hv0 e (by rw [hks]; rfl)) hte
      rw [hks] at act hb
      simp only [hdC] at hb ⊢
      have hA := qd9 (len := len) hr n b e 0 hE (by omega) (by omega)
      have := Seg.append hA (M := [⟨11, 0, w⟩]) (ε := -1) (R := fun τ => Up σ τ ∧ Rel ρ' s τ) (fun τ e => by subst e; exact (act 1 _ rfl (by omega)).mono fun τ e => by subst e; exact ⟨fun _ h => h, hr⟩) (by simp)
      rwa [show (1 : Int) + -1 = 0 by omega] at this
theorem qor {L : List I} (hl : (L ++ [haltI]).length ≤ 2048) {Q : St → Prop} (h : Seg (L ++ [haltI]).length 0 L 0 0 (fun _ => false) Q) : (depthOf (L ++ [haltI])).isSome = true := by
 obtain ⟨τ, B', g', _, k2, k3, _⟩ := h.run (B := B0) (g := 0) rfl fun j a b => by unfold B0; rw [qx1 (by omega)]
 unfold depthOf
 rw [qx1 (by simp only [List.length_append, List.length_cons, List.length_nil] at hl ⊢; omega), k2]
 have e : eff haltI = some (0, 0) := by decide
 simp only [Nat.zero_add] at k3 ⊢
 rw [qiu]
 unfold stA
 rw [e, k3]
 simp only
 rw [qx1 (by unfold haltI; simp), qx2 (show haltI.Op = 12 from rfl), qx2 (by omega)]
 rfl
theorem prog_depth {ys : List M} (hl : (prog 39 ys).length ≤ 2048) (hc : cntL 39 ys ≤ 511) (hg : ∀ k ∈ ys, Gd 39 k) {ρ : Env} (hs : foldS (stm 39) base ys = .ok ρ) : (depthOf (prog 39 ys)).isSome = true := by
 unfold prog at hl ⊢
 obtain ⟨l1, l2, l3⟩ := qce (d := 39) (g := cS 39) ys (fun _ => none) 0 0 fun q hq => qes 39 q (hg q hq).1
 exact qor hl (qeu (len := ((foldC (cS 39) (fun _ => none) 0 0 ys).1 ++ [haltI]).length) ys base ρ (fun _ => none) (fun _ => false) 0 0 (fun q hq => ⟨(hg q hq).1, qvy (hg q hq), qs2 39 q (hg q hq)⟩) hs Rel.nil (by omega) (by omega) (by simp))
theorem qwx {v : Bool} : ∀ i ∈ tr v, i.S.length ≤ 100000 := by simp [tr]
theorem qqy {s : Sg} : ∀ (d b : Nat) (x : M), Ok d x → ∀ i ∈ cE d s b x, i.S.length ≤ 100000
 | 0, _, _, h => h.elim
 | d + 1, b, x, ⟨h1, h2, h3⟩ => by
  intro i hi
  rw [cE] at hi
  by_cases q20 : x.Ab = 20; · rw [qx2 q20] at hi; simp at hi; subst hi; simp
  by_cases q21 : x.Ab = 21; · rw [qx1 q20, qx2 q21] at hi; simp at hi; subst hi; simp only; omega
  by_cases q22 : x.Ab = 22; · rw [qx1 q20, qx1 q21, qx2 q22] at hi; exact qwx i hi
  by_cases q23 : x.Ab = 23
  ·rw [qx1 q20, qx1 q21, qx1 q22, qx2 q23] at hi
   simp at hi
   subst hi
   unfold nmI
   split
   ·simp
   ·simp only; omega
  rw [qx1 q20, qx1 q21, qx1 q22, qx1 q23] at hi
  split at hi
  ·rename_i k e
   rcases List.mem_append.1 hi with hi | hi
   ·exact qqy d b k (h3 k (by rw [e]; simp)) i hi
   ·split at hi <;> simp at hi <;> subst hi <;> simp only [List.length_nil] <;> omega
  ·rename_i k l e
   have hk := h3 k (by rw [e]; simp)
   have hl := h3 l (by rw [e]; simp)
   split at hi
   ·simp only [List.mem_append, List.mem_cons] at hi
    rcases hi with hi | hi | hi | hi | hi
    ·exact qqy _ _ _ hk i hi
    ·subst hi; simp
    ·exact qqy _ _ _ hl i hi
    ·subst hi; simp
    ·exact qwx i hi
   ·split at hi
    ·simp only [List.mem_append, List.mem_cons] at hi
     rcases hi with hi | hi | hi | hi | hi
     ·exact qqy _ _ _ hk i hi
     ·subst hi; simp
     ·exact qwx i hi
     ·subst hi; simp
     ·exact qqy _ _ _ hl i hi
    ·simp only [List.mem_append, List.mem_cons, List.not_mem_nil, or_false] at hi
     rcases hi with hi | hi | hi
     ·exact qqy _ _ _ hk i hi
     ·exact qqy _ _ _ hl i hi
     ·subst hi
      unfold opw
      simp only
      split
      ·simp
      ·split
       ·simp
       ·split
        ·simp
        ·omega
  ·cases hi
theorem qvz {d b : Nat} {s : Sg} : ∀ (l : List M), (∀ k ∈ l, Ok d k) → ∀ i ∈ hdC d s b l, i.S.length ≤ 100000
 | [], _, i, hi => by cases hi
 | e :: l, h, i, hi => qqy d b e (h e (by simp)) i hi
theorem qwy {x : M} (h : x.Ac.length ≤ 4200) : ∀ i ∈ acs x, i.S.length ≤ 100000 := by
 intro i hi
 unfold acs acw at hi
 split at hi
 ·rename_i w hw
  simp only [List.mem_singleton] at hi
  subst hi
  show w.length ≤ 100000
  have go : ∀ v : Str, some v = some w → v.length ≤ 100000 → w.length ≤ 100000 := fun v e h => by cases e; exact h
  repeat' split at hw
  all_goals first | exact go _ hw (by simp only [List.length_append, List.length_cons, List.length_nil]; omega) | exact go _ hw (by omega) | cases hw
 ·cases hi
theorem qm1 {g : Sg → Int → Nat → M → List I × Int × Sg} : ∀ (l : List M) (s : Sg) (z : Int) (b : Nat), (∀ x ∈ l, ∀ s z b, ∀ i ∈ (g s z b x).1, i.S.length ≤ 100000) → ∀ i ∈ (foldC g s z b l).1, i.S.length ≤ 100000
 | [], s, z, b, _, i, hi => by cases hi
 | x :: l, s, z, b, h, i, hi => by
  rw [foldC] at hi
  rcases List.mem_append.1 hi with hi | hi
  ·exact h x (by simp) _ _ _ i hi
  ·exact qm1 l _ _ _ (fun q hq => h q (by simp [hq])) i hi
theorem qxi : ∀ (d : Nat) (x : M), Ok d x → ∀ (s : Sg) (z : Int) (b : Nat), ∀ i ∈ (cS d s z b x).1, i.S.length ≤ 100000
 | 0, x, h => h.elim
 | d + 1, x, ⟨h1, h2, h3⟩ => fun s z b i hi => by
  have hf : ∀ (l : List M) (s : Sg) (z : Int) (b : Nat), (∀ q ∈ l, Ok d q) → ∀ i ∈ (foldC (cS d) s z b l).1, i.S.length ≤ 100000 := fun l s z b h => qm1 l s z b fun q hq => qxi d q (h q hq)
  by_cases q2 : x.Ab = 2
  ·rw [cS, qx2 q2] at hi
   split at hi
   ·rename_i e t hk
    have ht := h3 t (by rw [hk]; simp)
    have kt : ∀ q ∈ t.Aa, Ok d q := fun q hq => by
     cases d with
     | zero => exact ht.elim
     | succ d => exact (ht.2.2 q hq).succ
    simp only [if2, List.mem_append, List.mem_cons] at hi
    rcases hi with hi | hi | hi
    ·exact qqy _ _ _ (h3 e (by rw [hk]; simp)) i hi
    ·subst hi; simp
    ·exact hf _ _ _ _ kt i hi
   ·rename_i e t o hk
    have ht := h3 t (by rw [hk]; simp)
    have kt : ∀ q ∈ t.Aa, Ok d q := fun q hq => by
     cases d with
     | zero => exact ht.elim
     | succ d => exact (ht.2.2 q hq).succ
    have ko : ∀ q ∈ brn o, Ok d q := (qjs (h3 o (by rw [hk]; simp))).1
    simp only [if3, List.mem_append, List.mem_cons] at hi
    rcases hi with hi | hi | hi | hi | hi
    ·exact qqy _ _ _ (h3 e (by rw [hk]; simp)) i hi
    ·subst hi; simp
    ·exact hf _ _ _ _ kt i hi
    ·subst hi; simp
    ·exact hf _ _ _ _ ko i hi
   ·cases hi
  ·by_cases q3 : x.Ab = 3
   ·rw [qlo q3] at hi
    simp only [List.mem_append, List.mem_cons, List.not_mem_nil, or_false] at hi
    rcases hi with hi | hi
    ·exact qvz _ h3 i hi
    ·subst hi; simp
   ·rw [qlp q2 q3] at hi
    simp only [List.mem_append] at hi
    rcases hi with hi | hi
    ·exact qvz _ h3 i hi
    ·exact qwy h1 i hi
theorem prog_S {d : Nat} {l : List M} (h : ∀ k ∈ l, Ok d k) : ∀ i ∈ prog d l, i.S.length ≤ 100000 := by
 intro i hi
 unfold prog at hi
 rcases List.mem_append.1 hi with hi | hi
 ·exact qm1 l _ _ _ (fun q hq => qxi d q (h q hq)) i hi
 ·simp at hi; subst hi; simp [haltI]
end Rt.Rc
namespace Vary
abbrev RF := JeE
abbrev FF := Jc
def qxv (c : UInt8) : UInt8 := if (decide ((c.toNat : Int) ≥ 65) && decide ((c.toNat : Int) ≤ 90)) then c + 32 else c
def low (s : Str) : Str := s.map qxv
theorem qqe {α : Type} (p r : List α) (c : α) : ix (p ++ c :: r) (p.length : Int) = some c := by
 unfold ix
 rw [qx2 (by omega)]
 simp
def ffs (f : List RF) : List FF := f.map fun x => ⟨x.Name, x.Value⟩
def qxj (f : List RF) (n : Str) : List Str := (f.filter fun x => decide (low x.Name = low n)).map (·.Value)
def isB (c : UInt8) : Bool := decide ((c.toNat : Int) = 32) || decide ((c.toNat : Int) = 9)
def cl (c : UInt8) : UInt8 := if (decide ((c.toNat : Int) < 32) || decide ((c.toNat : Int) = 127)) then 63 else c
def rel (y : Str) (b : Bool) : Str := if (b && decide ((y.length : Int) > 0)) then y ++ [32] else y
def nst (p : Str × Bool) (c : UInt8) : Str × Bool := if isB c then (p.1, true) else (rel p.1 p.2 ++ [cl c], false)
def qxw (s : Str) : Str := (s.foldl nst ([], false)).1
abbrev jn := Go.Lib.join
def esc (c : UInt8) : Str := if (decide ((c.toNat : Int) = 34) || decide ((c.toNat : Int) = 92)) then [92, c] else [c]
def quo (s : Str) : Str := [34] ++ s.flatMap esc ++ [34]
theorem el_go {ρ σ γ : Type} {y : σ} {f : ρ → Option γ} {g : σ → Option γ} : (Fl.go y : Fl ρ σ).el f g = g y := rfl
def qxx (f : List RF) (m : Str) : Str := if qxj f m = [] then m else m ++ [61] ++ quo (jn ((qxj f m).map qxw) [44])
def key (names : List Str) (f : List RF) : Str := jn (names.map (qxx f)) [38]
theorem tl {c : UInt8} {t : Str} : subL (c :: t) (1 : Int) (((c :: t).length : Nat) : Int) = t := by
 unfold subL
 rw [show ((1 : Int)).toNat = 1 from rfl, List.drop_succ_cons, List.drop_zero, List.take_of_length_le (by simp only [List.length_cons]; omega)]
theorem qc4 {α : Type} {s : List α} {i : Int} (h0 : 0 ≤ i) (h1 : i < (s.length : Int)) : ∃ x, ix s i = some x := by
 unfold ix
 rw [qx2 h0]
 exact ⟨s[i.toNat]'(by omega), List.getElem?_eq_getElem (by omega)⟩
end Vary
open Go Go.SL Go.Proofs Pl Vary
namespace Rt.Rv
def hd (p : Str) : List Str → List Str
 | [] => [p]
 | x :: r => (p ++ x) :: r
def spl (c : UInt8) : Str → List Str
 | [] => [[]]
 | b :: s => if b = c then [] :: spl c s else hd [b] (spl c s)
theorem qn3 (c : UInt8) (s : Str) : spl c s ≠ [] := by
 cases s with
 | nil => simp [spl]
 | cons b s =>
  rw [spl]
  split
  ·simp
  ·cases spl c s <;> simp [hd]
theorem qm2 (c b : UInt8) (l : Str) : ([c] : Str).isPrefixOf (b :: l) = (c == b) := by simp [List.isPrefixOf]
theorem qqf (c : UInt8) (l : Str) : Go.Lib.index (c :: l) [c] = 0 := by rw [Go.Lib.index, qx2 (by simp [List.isPrefixOf])]
theorem qqg {c b : UInt8} (h : b ≠ c) (l : Str) : Go.Lib.index (b :: l) [c] = if Go.Lib.index l [c] = -1 then -1 else Go.Lib.index l [c] + 1 := by
 have : (c == b) = false := by simp; exact fun e => h e.symm
 rw [Go.Lib.index, qm2, this]
 simp
theorem qkm {b c : UInt8} (h : b ≠ c) (k : Nat) (l : Str) : Go.Lib.splitK [c] 0 k (b :: l) = hd [b] (Go.Lib.splitK [c] 0 k l) := by
 cases k with
 | zero => rfl
 | succ k =>
  have hg := Go.Lib.index_ge l [c]
  rw [Go.Lib.splitK, Go.Lib.splitK, qqg h]
  by_cases q : Go.Lib.index l [c] = -1
  ·rw [q]; simp [hd]
  ·rw [qx1 q]
   have e : (Go.Lib.index l [c] + 1).toNat = (Go.Lib.index l [c]).toNat + 1 := by omega
   rw [qx1 (by simp; omega), qx1 (by simpa using q), e]
   simp [hd, Nat.add_right_comm]
theorem qgj (c : UInt8) : ∀ s : Str, Go.Lib.split s [c] = spl c s
 | [] => by unfold Go.Lib.split; rw [Go.Lib.count_one]; rfl
 | b :: l => by
  have ih := qgj c l
  unfold Go.Lib.split at ih ⊢
  rw [spl]
  by_cases q : b = c
  ·subst q
   rw [qx2 rfl, Go.Lib.count_cons_eq, Nat.add_comm, Go.Lib.splitK, qqf, qx1 (by decide), ← ih]
   simp
  ·rw [qx1 q, Go.Lib.count_cons_ne b c l q, qkm q, ih]
theorem qkn : qlc = 4294967281 := rfl
theorem qlu {s : Str} (c : UInt8) (h : s.length ≤ 1000000) : qem s [c] = some (spl c s) := by
 unfold qem
 rw [qx2 ⟨by rw [qkn]; omega, by simp⟩, qgj]
theorem qiv (c : UInt8) : ∀ (s x : Str), x ∈ spl c s → x.length ≤ s.length
 | [], x, h => by simp [spl] at h; subst h; simp
 | b :: l, x, h => by
  have ih := qiv c l
  rw [spl] at h
  split at h
  ·rcases List.mem_cons.1 h with rfl | h
   ·simp
   ·have := ih x h; simp; omega
  ·cases e : spl c l with
   | nil => exact absurd e (qn3 _ _)
   | cons a r =>
    rw [e] at h ih
    rcases List.mem_cons.1 h with rfl | h
    ·have := ih a (by simp); simp; omega
    ·have := ih x (by simp [h]); simp; omega
def nst (n : Int) (c : UInt8) : Int := 10 * n + ((c - (48 : UInt8)).toNat : Int)
abbrev V1 := Jk
abbrev In1 := J5
abbrev In2 := JeF
def clip (n : Int) : Int := max (-1099511627776) (min n 1099511627776)
def nm' (n : Int) : V1 := ⟨2, clip n, [], false⟩
def tr' (b : Bool) : V1 := ⟨3, 0, [], b⟩
def inp (i : In2) : In1 := ⟨i.Am, i.An, i.Ae, i.Af, ffs i.Ao⟩
abbrev R1 := Jq
abbrev M1 := Jh
abbrev I := Rt.Rc.I
def z0 : V1 := ⟨0, 0, [], false⟩
def wS (m : M1) (s : Int) : M1 := ⟨m.Aq, m.most, ⟨m.result.Ae, m.result.Af, m.result.Ag, m.result.Vary, m.result.Ah, m.result.TTL, m.result.Ai, s, m.result.Ak, m.result.Al⟩, m.stack, m.Ap⟩
def top (m : M1) : V1 := m.stack.getLastD z0
def At (c : List I) (k : Nat) (d : Int) : Prop := k < c.length ∧ ∃ B g σ G, Rc.wk c.length k (c.drop k) B g = some G ∧ B k = some (d, σ)
def m0 (i : In2) (most : Int) : M1 := ⟨inp i, most, ⟨i.Ae, i.Af, [], [], [], -1, 0, 0, false, false⟩, [], List.replicate 512 z0⟩
abbrev WSt := R1 × Bool
def DI (r : R1) : Prop := r.Ai = 0 ∨ (400 ≤ r.Ai ∧ r.Ai ≤ 499)
def b0 (i : In2) : WSt := (⟨i.Ae, i.Af, [], [], [], -1, 0, 0, false, false⟩, false)
def BC (v : V1) : Prop := v.kind = 3 → v = tr' v.As
def OB (o : Option (V1 × Bool)) : Prop := ∀ r, o = some r → BC r.1
theorem OB.bind {α : Type} {o : Option α} {f : α → Option (V1 × Bool)} (h : ∀ a, o = some a → OB (f a)) : OB (o.bind f) := fun t ht => by
 cases o with
 | none => cases ht
 | some a => exact h a rfl t ht
def PB (o : Option V1) : Prop := ∀ r, o = some r → BC r
theorem PB.bind {α : Type} {o : Option α} {f : α → Option V1} (h : ∀ a, PB (f a)) : PB (o.bind f) := fun t ht => by
 cases o with
 | none => cases ht
 | some a => exact h a t ht
def NE (o : Err) : Prop := o ≠ some 9 ∧ o ≠ some 13
structure PrF (y : M) (ρ : Env) : Prop where
 g : ∀ k ∈ y.Aa, Gd 39 k
 s : foldS (stm 39) base y.Aa = .ok ρ
 c : Rt.cntL 39 y.Aa ≤ 511
 l : (Rc.prog 39 y.Aa).length ≤ 2048
 d : ∃ g, Rc.depthOf (Rc.prog 39 y.Aa) = some g
 i : ∀ x ∈ Rc.prog 39 y.Aa, x.S.length ≤ 100000
 w : 0 ≤ foldW (Rt.wS 39) (stm 39) base y.Aa ∧ foldW (Rt.wS 39) (stm 39) base y.Aa ≤ 200000
theorem compile_cases {n : Nat} {y : M} (hok : Ok 40 y) (hn : 2000100 ≤ n) (hcn : Rt.cntL 39 y.Aa ≤ 10000) :
  (∃ e, JaT n y = some ([], some e)) ∨ ∃ ρ, PrF y ρ ∧ JaC n y = some true ∧ JaT n y = some (Rc.prog 39 y.Aa, none) := by
 obtain ⟨b, b2⟩ := qki (n := n) hok (by omega)
 have hC := Rc.Compile_pure (n := n) (d := 39) hok (by omega) (by omega) hcn b2
 cases b with
 | false => exact .inl ⟨2, hC⟩
 | true =>
  rw [qx2 rfl] at hC
  cases q : foldS (stm 39) base y.Aa with
  | error e => rw [q] at hC; exact .inl ⟨e.2, hC⟩
  | ok ρ =>
   rw [q] at hC
   dsimp only at hC
   by_cases q2 : (Rc.prog 39 y.Aa).length ≤ 2048
   ·rw [qx2 q2] at hC
    have hv := qgb b2
    have hg : ∀ k ∈ y.Aa, Gd 39 k := fun k hk => ⟨hok.2.2 k hk, n, hv k hk⟩
    have hsm : Rt.cntL 39 y.Aa ≤ 511 := by
     have := Rc.Valid_small b2 40
     rw [Rt.cnt_eq] at this; omega
    have bd := qgh (d := 39) (w := Rt.wS 39) (g := stm 39) y.Aa base fun q hq ρ => qp7 39 q (hok.2.2 q hq) ρ
    exact .inr ⟨ρ, ⟨hg, q, hsm, q2, Option.isSome_iff_exists.1 (Rc.prog_depth q2 hsm hg q), Rc.prog_S (d := 39) (l := y.Aa) hok.2.2, by omega⟩, b2, hC⟩
   ·rw [qx1 q2] at hC; exact .inl ⟨5, hC⟩
theorem qos {n : Nat} {y : M} (hok : Ok 40 y) (hn : 2000100 ≤ n) (hcn : Rt.cntL 39 y.Aa ≤ 10000) : ∃ r, Jba n y = some r := by
 obtain ⟨b, b2⟩ := qki (n := n) hok (by omega)
 have hC := qe2 (d := 39) (n := n) hok (by omega) (by omega) b2
 unfold Jba
 cases b with
 | false => rw [hC]; exact ⟨_, rfl⟩
 | true =>
  rw [qx2 rfl] at hC
  unfold chkR at hC
  cases q : foldS (stm 39) base y.Aa with
  | error e => rw [hC, q]; exact ⟨_, rfl⟩
  | ok ρ =>
   have hv := qgb b2
   have hg : ∀ k ∈ y.Aa, Gd 39 k := fun k hk => ⟨hok.2.2 k hk, n, hv k hk⟩
   have hw := qgz 39 n y.Aa [] ρ hg hok.2.1 (by omega) (by simp only [List.length_nil]; omega) (by omega) q
   have bd := qgh (d := 39) (w := Rt.wS 39) (g := stm 39) y.Aa base fun q hq ρ => qp7 39 q (hok.2.2 q hq) ρ
   rw [qmv] at hw
   rw [hC, q, qx0, qx1 (by simp), hw, qx0, qad (by constructor <;> omega)]
   exact ⟨_, rfl⟩
theorem qr7 {n : Nat} {y : M} {ρ : Env} (h : PrF y ρ) (hok : Ok 40 y) (hn : 2000100 ≤ n) (hv : JaC n y = some true) : Jba n y = some (foldW (Rt.wS 39) (stm 39) base y.Aa + 1, none) := by
 have hC := qe2 (d := 39) (n := n) hok (by omega) (by omega) hv
 have hc := h.c
 have bd := h.w
 have hw := qgz 39 n y.Aa [] ρ h.g hok.2.1 (by omega) (by simp only [List.length_nil]; omega) (by omega) h.s
 rw [qmv] at hw
 rw [qx2 rfl] at hC
 unfold chkR at hC
 unfold Jba
 rw [hC, h.s, qx0, qx1 (by simp), hw, qx0, qad (by constructor <;> omega)]
end Rt.Rv
namespace Tn
def hd (p : Str) : List Str → List Str
 | [] => [p]
 | x :: r => (p ++ x) :: r
def spl (c : UInt8) : Str → List Str
 | [] => [[]]
 | b :: s => if b = c then [] :: spl c s else hd [b] (spl c s)
theorem qn3 (c : UInt8) (s : Str) : spl c s ≠ [] := by
 cases s with
 | nil => simp [spl]
 | cons b s =>
  rw [spl]
  split
  ·simp
  ·cases spl c s <;> simp [hd]
theorem qm2 (c b : UInt8) (l : Str) : ([c] : Str).isPrefixOf (b :: l) = (c == b) := by simp [List.isPrefixOf]
theorem qqf (c : UInt8) (l : Str) : Go.Lib.index (c :: l) [c] = 0 := by rw [Go.Lib.index, qx2 (by simp [List.isPrefixOf])]
theorem qqg {c b : UInt8} (h : b ≠ c) (l : Str) : Go.Lib.index (b :: l) [c] = if Go.Lib.index l [c] = -1 then -1 else Go.Lib.index l [c] + 1 := by
 have : (c == b) = false := by simp; exact fun e => h e.symm
 rw [Go.Lib.index, qm2, this]
 simp
theorem qkm {b c : UInt8} (h : b ≠ c) (k : Nat) (l : Str) : Go.Lib.splitK [c] 0 k (b :: l) = hd [b] (Go.Lib.splitK [c] 0 k l) := by
 cases k with
 | zero => rfl
 | succ k =>
  have hg := Go.Lib.index_ge l [c]
  rw [Go.Lib.splitK, Go.Lib.splitK, qqg h]
  by_cases q : Go.Lib.index l [c] = -1
  ·rw [q]; simp [hd]
  ·rw [qx1 q]
   have e : (Go.Lib.index l [c] + 1).toNat = (Go.Lib.index l [c]).toNat + 1 := by omega
   rw [qx1 (by simp; omega), qx1 (by simpa using q), e]
   simp [hd, Nat.add_right_comm]
theorem qgj (c : UInt8) : ∀ s : Str, Go.Lib.split s [c] = spl c s
 | [] => by unfold Go.Lib.split; rw [Go.Lib.count_one]; rfl
 | b :: l => by
  have ih := qgj c l
  unfold Go.Lib.split at ih ⊢
  rw [spl]
  by_cases q : b = c
  ·subst q
   rw [qx2 rfl, Go.Lib.count_cons_eq, Nat.add_comm, Go.Lib.splitK, qqf, qx1 (by decide), ← ih]
   simp
  ·rw [qx1 q, Go.Lib.count_cons_ne b c l q, qkm q, ih]
theorem qkn : qlc = 4294967281 := rfl
theorem qlu {s : Str} (c : UInt8) (h : s.length ≤ 1000000) : qem s [c] = some (spl c s) := by
 unfold qem
 rw [qx2 ⟨by rw [qkn]; omega, by simp⟩, qgj]
theorem qwz {P : UInt8 → Prop} (h : ∀ n : Fin 256, P (UInt8.ofNat n.val)) (c : UInt8) : P c := by
 have := h ⟨c.toNat, c.toNat_lt⟩
 simpa using this
noncomputable def dgv (c : UInt8) : Int := (Jb7 c).getD 0
noncomputable def hx (a b : UInt8) : UInt8 := qj5 (16 * dgv a + dgv b)
theorem qw0 {α : Type} {l : List α} {i : Nat} (h : i < l.length) : ix l (i : Int) = some l[i] := by
 unfold ix; rw [qx2 (by omega), Int.toNat_natCast, List.getElem?_eq_getElem h]
def jn (c : UInt8) : List Str → Str
 | [] => []
 | [a] => a
 | a :: b :: l => a ++ c :: jn c (b :: l)
def qxy : Str := [46]
def qxz : Str := [46, 46]
def nd (p : Str) : Prop := p ≠ qxy ∧ p ≠ qxz
def wt : List Str → Nat
 | [] => 0
 | a :: l => a.length + 1 + wt l
theorem qs3 : ∀ l : List Str, l.length ≤ wt l ∧ (jn 47 l).length ≤ wt l
 | [] => by simp [wt, jn]
 | [a] => by simp [wt, jn]
 | a :: b :: l => by
  have := qs3 (b :: l)
  rw [wt, jn]
  simp only [List.length_cons, List.length_append] at this ⊢; omega
theorem qw1 (p : Str) (l : List Str) (h : l ≠ []) : wt (hd p l) = p.length + wt l := by
 cases l with
 | nil => exact absurd rfl h
 | cons a l => simp [hd, wt]; omega
theorem qqh (c : UInt8) : ∀ s : Str, wt (spl c s) = s.length + 1
 | [] => rfl
 | b :: s => by
  rw [spl]
  split
  ·rw [wt, qqh c s]; simp; omega
  ·rw [qw1 _ _ (qn3 c s), qqh c s]; simp; omega
noncomputable def aln (c : UInt8) : Bool := (Jb2 c).getD false
theorem qv0 (c : UInt8) : Jb2 c = some (aln c) := by
 unfold aln Jb2
 split
 ·rfl
 ·split <;> rfl
noncomputable def hch (c : UInt8) : Bool := aln c || decide (c = 45)
theorem qw2 : hch 47 = false := by unfold hch aln; decide +kernel
theorem qqi : ∀ (l : Str) (i : Nat), ∃ f, JbH l i = some f ∧ (f = .ret ([], some 8) ∨ (f = .go () ∧ ∀ c ∈ l, hch c = true))
 | [], i => ⟨_, rfl, .inr ⟨rfl, fun c h => by cases h⟩⟩
 | c :: l, i => by
  rw [JbH, qv0, qx0]
  have e : ((if (!aln c) = true then some (decide ((c.toNat : Int) ≠ 45)) else some false) : Option Bool) = some (!hch c) := by
   unfold hch
   cases aln c with
   | true => simp
   | false =>
    simp only [Bool.not_false, if_true, Bool.false_or]
    congr 1
    rw [← decide_not, decide_eq_decide]
    constructor
    ·intro h e; subst e; exact h rfl
    ·intro h e; exact h (UInt8.toNat_inj.1 (by show c.toNat = 45; omega))
  rw [e, qx0]
  by_cases q : hch c = true
  ·rw [qx1 (by simp [q])]
   obtain ⟨f, h1, h2⟩ := qqi l (i + 1)
   refine ⟨f, h1, ?_⟩
   rcases h2 with h2 | ⟨h2, h3⟩
   ·exact .inl h2
   ·refine .inr ⟨h2, fun x hx => ?_⟩
    rcases List.mem_cons.1 hx with e | e
    ·subst e; exact q
    ·exact h3 x e
  ·rw [qx2 (by simpa using q)]
   exact ⟨_, rfl, .inl rfl⟩
theorem qqj : ∀ (l : List Str) (i : Nat), ∃ f, JbI l i = some f ∧ (f = .ret ([], some 8) ∨ (f = .go () ∧ ∀ p ∈ l, ∀ c ∈ p, hch c = true))
 | [], i => ⟨_, rfl, .inr ⟨rfl, fun c h => by cases h⟩⟩
 | p :: l, i => by
  rw [JbI]
  by_cases q : (decide ((p.length : Int) < 1) || decide ((p.length : Int) > 63)) = true
  ·rw [qx2 q, qx0, qx2 rfl, qx0, qx0, qx2 rfl]
   exact ⟨_, rfl, .inl rfl⟩
  ·have hl : 1 ≤ p.length ∧ p.length ≤ 63 := by simp at q; omega
   have e0 : ix p 0 = some p[0] := qw0 (i := 0) (by omega)
   have e1 : ix p ((p.length : Int) - 1) = some (p[p.length - 1]'(by omega)) := by
    rw [show ((p.length : Int) - 1) = ((p.length - 1 : Nat) : Int) by omega]; exact qw0 (by omega)
   rw [qx1 q, e0, qx0, qx0]
   obtain ⟨b, hb⟩ : ∃ b, ((if decide ((p[0].toNat : Int) = 45) = true then some true else (chk (InI ((p.length : Int) - 1))).bind fun _ => (ix p ((p.length : Int) - 1)).bind fun x39 => some (decide ((x39.toNat : Int) = 45))) : Option Bool) = some b := by
    split
    ·exact ⟨_, rfl⟩
    ·rw [qad (by constructor <;> omega), e1]; exact ⟨_, rfl⟩
   rw [hb, qx0, qx0]
   cases b with
   | true => rw [qx2 rfl]; exact ⟨_, rfl, .inl rfl⟩
   | false =>
    rw [qx1 (by simp), qad (by simp only [qa1]; omega)]
    obtain ⟨f, h1, h2⟩ := qqi p 0
    rw [h1, qx0]
    rcases h2 with rfl | ⟨rfl, h3⟩
    ·exact ⟨_, rfl, .inl rfl⟩
    ·obtain ⟨g, g1, g2⟩ := qqj l (i + 1)
     refine ⟨g, g1, ?_⟩
     rcases g2 with g2 | ⟨g2, g3⟩
     ·exact .inl g2
     ·refine .inr ⟨g2, fun x hx => ?_⟩
      rcases List.mem_cons.1 hx with e | e
      ·subst e; exact h3
      ·exact g3 x e
theorem qw3 : ∀ c : UInt8, 65 ≤ c.toNat → c.toNat ≤ 90 → c + 32 ≠ 47 := qwz (by decide +kernel)
theorem qm3 : ∀ (k i : Nat) (s : Str), i + k ≤ s.length → ∃ r, Jbu k i s = some r ∧ r.length = s.length ∧ ((47 : UInt8) ∉ s → (47 : UInt8) ∉ r)
 | 0, i, s, _ => ⟨_, rfl, rfl, id⟩
 | k + 1, i, s, h => by
  have hi : i < s.length := by omega
  rw [Jbu, qw0 hi, qx0, qx0]
  split
  ·rename_i q
   obtain ⟨r, h1, h2, h3⟩ := qm3 k (i + 1) (s.set i (s[i] + 32)) (by rw [List.length_set]; omega)
   refine ⟨r, h1, by rw [h2, List.length_set], fun hs => h3 fun e => ?_⟩
   rcases List.mem_or_eq_of_mem_set e with e | e
   ·exact hs e
   ·simp only [Bool.and_eq_true, decide_eq_true_eq] at q
    exact qw3 s[i] (by omega) (by omega) e.symm
  ·exact qm3 k (i + 1) s (by omega)
theorem qiv {c d : UInt8} (h : c ≠ d) : ∀ s : Str, c ∈ s → ∃ p ∈ spl d s, c ∈ p
 | [], e => by cases e
 | b :: s, e => by
  rw [spl]
  split
  ·rename_i q
   rcases List.mem_cons.1 e with e | e
   ·exact absurd (e.trans q) h
   ·obtain ⟨p, h1, h2⟩ := qiv h s e
    exact ⟨p, by simp [h1], h2⟩
  ·cases hl : spl d s with
   | nil => exact absurd hl (qn3 d s)
   | cons x l =>
    rcases List.mem_cons.1 e with e | e
    ·exact ⟨[b] ++ x, by simp [hd], by simp [e]⟩
    ·obtain ⟨p, h1, h2⟩ := qiv h s e
     rw [hl] at h1
     rcases List.mem_cons.1 h1 with rfl | h1
     ·exact ⟨[b] ++ p, by simp [hd], by simp [h2]⟩
     ·exact ⟨p, by simp [hd, h1], h2⟩
theorem qr8 (s : Str) : ∃ r e, Jcj s = some (r, e) ∧ (e = none → r.length ≤ 100 ∧ (47 : UInt8) ∉ r) := by
 unfold Jcj
 by_cases q : (s.length : Int) > 100
 ·rw [qx2 (by simpa using q)]; exact ⟨_, _, rfl, fun e => by cases e⟩
 rw [qx1 (by simpa using q), qlu 46 (by omega), qx0]
 have w1 := qqh 46 s
 have w2 := qs3 (spl 46 s)
 rw [qad (by simp only [qa1]; omega)]
 obtain ⟨f, h1, h2⟩ := qqj (spl 46 s) 0
 rw [h1, qx0]
 rcases h2 with rfl | ⟨rfl, h3⟩
 ·exact ⟨_, _, rfl, fun e => by cases e⟩
 dsimp only [Fl.el]
 rw [qad (by simp only [lim]; omega), qad (by constructor <;> omega), Int.toNat_natCast]
 obtain ⟨r, r1, rr, r3⟩ := qm3 s.length 0 s (by omega)
 rw [r1, qx0]
 refine ⟨_, _, rfl, fun _ => ⟨by omega, r3 fun e => ?_⟩⟩
 obtain ⟨p, p1, p2⟩ := qiv (c := 47) (d := 46) (by decide) s e
 have := h3 p p1 47 p2
 rw [qw2] at this; cases this
end Tn
open Go Go.SL Go.Proofs Pl Rt
namespace Tn
theorem qiw {s : Str} (hs : s.length ≤ 5000) : ∀ (n : Nat) (y : Str) (i : Int), 0 ≤ i → i ≤ (s.length : Int) → (s.length : Int) - i < n → (y.length : Int) ≤ i → ∃ r, JaA s n y i = some r ∧ ∀ a b, r = Fl.ret (a, b) → 0 ≤ a ∧ a ≤ (s.length : Int) ∧ b.length ≤ s.length
 | 0, y, i, h0, h3, h1, h2 => by omega
 | n + 1, y, i, h0, h3, h1, h2 => by
  rw [JaA]
  by_cases hi : i < (s.length : Int)
  ·obtain ⟨c, hc⟩ := Rt.qc4 h0 hi
   rw [qx2 (by simpa using hi), hc, qx0]
   by_cases q : (c.toNat : Int) = 34
   ·rw [qx2 (by simpa using q), qad (by constructor <;> omega)]
    exact ⟨_, rfl, fun a b e => by cases e; omega⟩
   ·rw [qx1 (by simpa using q)]
    by_cases q2 : (c.toNat : Int) = 92
    ·rw [qx2 (by simpa using q2), qad (by constructor <;> omega)]
     by_cases q3 : i + 1 = (s.length : Int)
     ·rw [qx2 (by simpa using q3)]; exact ⟨_, rfl, fun a b e => by cases e; simp⟩
     ·obtain ⟨d, hd⟩ := Rt.qc4 (s := s) (i := i + 1) (by omega) (by omega)
      rw [qx1 (by simpa using q3), hd, qx0]
      have e2 : ∃ b, (if decide ((d.toNat : Int) ≠ 34) = true then (some d).bind fun x40 => some (decide ((x40.toNat : Int) ≠ 92)) else some false) = some b := qat (fun _ => ⟨_, rfl⟩) (fun _ => ⟨_, rfl⟩)
      obtain ⟨b, hb⟩ := e2
      rw [hb, qx0]
      cases b with
      | true => exact ⟨_, qx2 rfl, fun a b e => by cases e; simp⟩
      | false =>
       rw [qx1 (by simp), qx0, qad (by simp only [lim, List.length_cons, List.length_nil]; omega), qad (by constructor <;> omega)]
       exact qiw hs n _ _ (by omega) (by omega) (by omega) (by simp only [List.length_append, List.length_cons, List.length_nil]; omega)
    ·rw [qx1 (by simpa using q2)]
     refine (fun (h : ∀ b : Bool, b = (decide ((c.toNat : Int) < 32) || decide ((c.toNat : Int) > 126)) → _) => h _ rfl) fun b hb => ?_
     rw [← hb]
     cases b with
     | true => exact ⟨_, qx2 rfl, fun a b e => by cases e; simp⟩
     | false =>
      rw [qx1 (by simp), qad (by simp only [lim, List.length_cons, List.length_nil]; omega), qad (by constructor <;> omega)]
      exact qiw hs n _ _ (by omega) (by omega) (by omega) (by simp only [List.length_append, List.length_cons, List.length_nil]; omega)
  ·rw [qx1 (by simpa using hi)]; exact ⟨_, rfl, fun a b e => by cases e⟩
theorem qn4 {s : Str} : ∀ (k i : Nat), i + k = 14 → ∃ r, Ja5 s k i = some r ∧ ∀ a b c, r = Fl.ret (a, b, c) → a = 4 ∧ 0 ≤ b ∧ b ≤ (s.length : Int) ∧ c.length ≤ s.length
 | 0, i, h => ⟨_, rfl, fun a b c e => by cases e⟩
 | k + 1, i, h => by
  rw [Ja5]
  obtain ⟨p, hp⟩ := Rt.qc4 (s := ([([61, 61] : Str), ([33, 61] : Str), ([60, 61] : Str), ([60] : Str), ([43] : Str), ([45] : Str), ([42] : Str), ([40] : Str), ([41] : Str), ([123] : Str), ([125] : Str), ([44] : Str), ([59] : Str), ([61] : Str)])) (i := (i : Int)) (by omega) (by simp; omega)
  rw [hp, qx0, qlh, qx0]
  by_cases q : (decide ((s.length : Int) ≥ (p.length : Int)) && decide (subL s (0 : Int) (p.length : Int) = p)) = true
  ·rw [qx2 q]
   simp only [Bool.and_eq_true, decide_eq_true_eq] at q
   exact ⟨_, rfl, fun a b c e => by cases e; omega⟩
  ·rw [qx1 q]; exact qn4 k (i + 1) (by omega)
theorem qg1 (s : Str) (a b : Int) : subL s a b <:+: s := by
 unfold subL
 exact (List.take_prefix _ _).isInfix.trans (List.drop_suffix _ _).isInfix
theorem qr9 {n : Nat} {s : Str} (hn : 10000 ≤ n) (h0 : 0 < s.length) (hs : s.length ≤ 5000) : ∃ a b c, Jb3 n s = some (a, b, c) ∧ 0 ≤ b ∧ b ≤ (s.length : Int) ∧ c.length ≤ s.length ∧ (a = 1 → c <:+: s) := by
 have sl : ∀ r : Int, (subL s 0 r).length ≤ s.length := fun r => (qg1 s 0 r).length_le
 unfold Jb3
 obtain ⟨c, hc⟩ := Rt.qc4 (s := s) (i := 0) (by omega) (by omega)
 rw [hc, qx0]
 unfold JbT
 rw [qx0]
 split
 ·obtain ⟨r, hr, h1, h2⟩ := qke hs n 1 (by omega) (by omega) (by omega)
  rw [hr, qx0, qad (by omega)]
  exact ⟨_, _, _, rfl, by omega, h2, sl _, fun _ => qg1 _ _ _⟩
 ·unfold JbE
  rw [qx0]
  split
  ·obtain ⟨r, hr, h1, h2⟩ := qkf hs n 1 (by omega) (by omega) (by omega)
   rw [hr, qx0]
   split
   ·exact ⟨_, _, _, rfl, by omega, by omega, by simp, fun e => by cases e⟩
   ·rw [qad (by omega)]; exact ⟨_, _, _, rfl, by omega, h2, sl _, fun e => by cases e⟩
  ·split
   ·unfold Jcw
    obtain ⟨r, hr, h1⟩ := qiw hs n [] 1 (by omega) (by omega) (by omega) (by simp)
    rw [hr, qx0]
    cases r with
    | ret z =>
     obtain ⟨a, b⟩ := z
     rw [qeo, qx0]
     have := h1 a b rfl
     exact ⟨_, _, _, rfl, this.1, this.2.1, this.2.2, fun e => by cases e⟩
    | go z => rw [Rt.el_go, qx0]; exact ⟨_, _, _, rfl, by omega, by omega, by simp, fun e => by cases e⟩
   ·obtain ⟨r, hr, h1⟩ := qn4 (s := s) 14 0 rfl
    rw [qad (by constructor <;> omega), show ((14 : Int)).toNat = 14 from rfl, hr, qx0]
    cases r with
    | ret z =>
     obtain ⟨a, b, c⟩ := z
     have := h1 a b c rfl
     exact ⟨_, _, _, rfl, this.2.1, this.2.2.1, this.2.2.2, fun e => by rw [this.1] at e; cases e⟩
    | go z => exact ⟨_, _, _, rfl, by omega, by omega, by simp, fun e => by cases e⟩
def TOK (s : Str) (t : Je) : Prop := t.Ac.length ≤ s.length ∧ t.Ad ≠ 0 ∧ (t.Ab = 1 → t.Ac <:+: s)
theorem qd8 {s : Str} {m : Nat} (hm : 10000 ≤ m) (hs : s.length ≤ 5000) : ∀ (n : Nat) (y : List Je) (a b i : Int), 0 ≤ i → i ≤ (s.length : Int) → (s.length : Int) - i < n → (y.length : Int) ≤ i → 0 < a → a ≤ i + 1 → 0 ≤ b → b ≤ i → (∀ t ∈ y, TOK s t) →
  ∃ r, Jab s m n y a b i = some r ∧ (∀ p q, r = Fl.ret (p, q) → q ≠ none ∧ q ≠ some 0) ∧ ∀ p q u v, r = Fl.go (p, q, u, v) → p.length ≤ s.length ∧ 0 ≤ u ∧ u ≤ (s.length : Int) ∧ 0 < q ∧ ∀ t ∈ p, TOK s t
 | 0, y, a, b, i, h0, h1, h2, h3, h4, h5, h6, h7, h8 => by omega
 | n + 1, y, a, b, i, h0, h1, h2, h3, h4, h5, h6, h7, h8 => by
  rw [Jab]
  by_cases hi : i < (s.length : Int)
  ·obtain ⟨c, hc⟩ := Rt.qc4 h0 hi
   rw [qx2 (by simpa using hi), hc, qx0]
   split
   ·rw [qad (by constructor <;> omega), qad (by constructor <;> omega)]
    exact qd8 hm hs n _ _ _ _ (by omega) (by omega) (by omega) (by omega) (by omega) (by omega) (by omega) (by omega) h8
   ·rename_i h10
    split
    ·rw [qad (by constructor <;> omega)]
     exact qd8 hm hs n _ _ _ _ (by omega) (by omega) (by omega) (by omega) (by omega) (by omega) (by omega) (by omega) h8
    ·split
     ·rw [qad (by constructor <;> omega)]
      exact qd8 hm hs n _ _ _ _ (by omega) (by omega) (by omega) (by omega) (by omega) (by omega) (by omega) (by omega) h8
     ·split
      ·rw [qad (by constructor <;> omega)]
       exact qd8 hm hs n _ _ _ _ (by omega) (by omega) (by omega) (by omega) (by omega) (by omega) (by omega) (by omega) h8
      ·split
       ·obtain ⟨r, hr, g1, g2, g3⟩ := qkg hs m i h0 h1 (by omega)
        have := g3 c hc (by simpa using h10)
        rw [hr, qx0]
        exact qd8 hm hs n _ _ _ _ (by omega) (by omega) (by omega) (by omega) (by omega) (by omega) (by omega) (by omega) h8
       ·have hsl : (subL s i (s.length : Int)).length = s.length - i.toNat := by
         unfold subL
         rw [List.length_take, List.length_drop]; omega
        rw [qad (by omega)]
        obtain ⟨u, v, w, hr, g1, g2, g3, g4⟩ := qr9 (n := m) (s := subL s i (s.length : Int)) hm (by omega) (by omega)
        rw [hr, qx0]
        split
        ·exact ⟨_, rfl, fun p q e => by cases e; simp, fun p q u v e => by cases e⟩
        ·rename_i hz
         have hz' : v ≠ 0 := by simpa using hz
         rw [qad (by constructor <;> omega), qad (by constructor <;> omega), qad (by simp only [lim, List.length_cons, List.length_nil]; omega), qad (by constructor <;> simp only <;> omega)]
         refine qd8 hm hs n _ _ _ _ (by simp only; omega) (by simp only; omega) (by simp only; omega) (by simp only [List.length_append, List.length_cons, List.length_nil]; omega) (by omega) (by simp only; omega) (by omega) (by simp only; omega) ?_
         intro t ht
         rcases List.mem_append.1 ht with ht | ht
         ·exact h8 t ht
         ·rw [List.mem_singleton] at ht
          subst ht
          exact ⟨by simp only; omega, by simp only; omega, fun e => (g4 e).trans (qg1 _ _ _)⟩
  ·rw [qx1 (by simpa using hi)]
   exact ⟨_, rfl, (fun p q e => by cases e), fun p q u v e => by cases e; exact ⟨by omega, by omega, by omega, by omega, h8⟩⟩
def TL (s : Str) (l : List Je) : Prop := l.length ≤ s.length + 1 ∧ (∀ t ∈ l, TOK s t) ∧ ∃ a e, l = a ++ [e] ∧ e.Ab = 5
theorem qqk {n : Nat} {s : Str} (hn : 10000 ≤ n) : ∃ l e, JbP n s = some (l, e) ∧ (e = none → s.length ≤ 4096 ∧ TL s l) ∧ e ≠ some 0 := by
 unfold JbP
 by_cases h : (s.length : Int) > 4096
 ·exact ⟨_, _, qx2 (by simpa using h), (fun e => by cases e), by simp⟩
 ·obtain ⟨r, hr, h0, h1⟩ := qd8 hn (s := s) (by omega) n [] 1 0 0 (by omega) (by omega) (by omega) (by simp) (by omega) (by omega) (by omega) (by omega) (fun t ht => by cases ht)
  rw [qx1 (by simpa using h), hr, qx0]
  cases r with
  | ret z => obtain ⟨p, q⟩ := z; rw [qeo]; exact ⟨_, _, rfl, fun e => absurd e (h0 p q rfl).1, (h0 p q rfl).2⟩
  | go z =>
   obtain ⟨p, q, u, v⟩ := z
   obtain ⟨g1, g2, g3, g4, g5⟩ := h1 p q u v rfl
   rw [Rt.el_go, qad (by constructor <;> simp only <;> omega), qad (by constructor <;> simp only <;> omega), qad (by simp only [lim, List.length_cons, List.length_nil]; omega)]
   refine ⟨_, _, rfl, (fun _ => ⟨by omega, by simp only [List.length_append, List.length_singleton]; omega, ?_, _, _, rfl, rfl⟩), by simp⟩
   intro t ht
   rcases List.mem_append.1 ht with ht | ht
   ·exact g5 t ht
   ·rw [List.mem_singleton] at ht
    subst ht
    exact ⟨by simp, by simp only; omega, fun e => by cases e⟩
abbrev Pr := Jb
abbrev Tk := Je
abbrev No := Ja
noncomputable def nsz (x : No) : Nat := Ja.rec (motive_1 := fun _ => Nat) (motive_2 := fun _ => Nat) (fun _ _ _ _ h => h + 1) 0 (fun _ _ a b => a + b) x
noncomputable def ndp (x : No) : Nat := Ja.rec (motive_1 := fun _ => Nat) (motive_2 := fun _ => Nat) (fun _ _ _ _ h => h + 1) 0 (fun _ _ a b => max a b) x
def nal (Q : Int → Str → Prop) (x : No) : Prop := Ja.rec (motive_1 := fun _ => Prop) (motive_2 := fun _ => Prop) (fun k t _ _ h => Q k t ∧ h) True (fun _ _ a b => a ∧ b) x
noncomputable def nszL : List No → Nat
 | [] => 0
 | a :: l => nsz a + nszL l
noncomputable def qsa : List No → Nat
 | [] => 0
 | a :: l => max (ndp a) (qsa l)
theorem nsz_eq (k : Int) (t : Str) (l : List No) (n : Int) : nsz ⟨k, t, l, n⟩ = nszL l + 1 := by
 have : ∀ l : List No, (Ja.rec_1 (motive_1 := fun _ => Nat) (motive_2 := fun _ => Nat) (fun _ _ _ _ h => h + 1) 0 (fun _ _ a b => a + b) l : Nat) = nszL l := by
  intro l
  induction l with
  | nil => rfl
  | cons a l ih => show nsz a + _ = _; rw [ih]; rfl
 show _ + 1 = _
 rw [this]
theorem ndp_eq (k : Int) (t : Str) (l : List No) (n : Int) : ndp ⟨k, t, l, n⟩ = qsa l + 1 := by
 have : ∀ l : List No, (Ja.rec_1 (motive_1 := fun _ => Nat) (motive_2 := fun _ => Nat) (fun _ _ _ _ h => h + 1) 0 (fun _ _ a b => max a b) l : Nat) = qsa l := by
  intro l
  induction l with
  | nil => rfl
  | cons a l ih => show max (ndp a) _ = _; rw [ih]; rfl
 show _ + 1 = _
 rw [this]
theorem qix (Q : Int → Str → Prop) (k : Int) (t : Str) (l : List No) (n : Int) : nal Q ⟨k, t, l, n⟩ ↔ Q k t ∧ ∀ x ∈ l, nal Q x := by
 have : ∀ l : List No, (Ja.rec_1 (motive_1 := fun _ => Prop) (motive_2 := fun _ => Prop) (fun k t _ _ h => Q k t ∧ h) True (fun _ _ a b => a ∧ b) l : Prop) ↔ ∀ x ∈ l, nal Q x := by
  intro l
  induction l with
  | nil => exact ⟨fun _ x h => (by cases h), fun _ => trivial⟩
  | cons a l ih =>
   show (nal Q a ∧ _) ↔ _
   rw [ih, List.forall_mem_cons]
 show (Q k t ∧ _) ↔ _
 rw [this]
theorem qko : ∀ (a b : List No), nszL (a ++ b) = nszL a + nszL b
 | [], b => by simp [nszL]
 | x :: a, b => by rw [List.cons_append, nszL, nszL, qko a b]; omega
theorem quf (x : No) : 1 ≤ nsz x := by cases x; rw [nsz_eq]; omega
theorem qug (x : No) : 1 ≤ ndp x := by cases x; rw [ndp_eq]; omega
theorem qhs : ∀ l : List No, l.length ≤ nszL l
 | [] => by simp [nszL]
 | x :: l => by have := qhs l; have := quf x; rw [nszL, List.length_cons]; omega
theorem qn5 : ∀ {l : List No} {x : No}, x ∈ l → nsz x ≤ nszL l
 | a :: l, x, h => by
  rw [nszL]
  rcases List.mem_cons.1 h with rfl | h
  ·omega
  ·have := qn5 h; omega
theorem qn6 : ∀ {l : List No} {x : No}, x ∈ l → ndp x ≤ qsa l
 | a :: l, x, h => by
  rw [qsa]
  rcases List.mem_cons.1 h with rfl | h
  ·omega
  ·have := qn6 h; omega
theorem qql : ∀ (n : Nat) (x : No), nsz x ≤ 100000 → nsz x < n → Jbd n x = some (nsz x : Int)
 | 0, x, h, h2 => by omega
 | n + 1, ⟨k, t, kids, ln⟩, h, h2 => by
  rw [nsz_eq] at h h2 ⊢
  have L : ∀ (l : List No) (i : Nat) (y : Int), 0 ≤ y → y + nszL l ≤ 1000000 → nszL l ≤ 100000 → nszL l < n → Jbl (Jbd n) l i y = some (y + (nszL l : Int)) := by
   intro l
   induction l with
   | nil => intro i y _ _ _ _; rw [Jbl, nszL]; simp
   | cons a l ih =>
    intro i y h0 h1 h3 h4
    rw [nszL] at h1 h3 h4
    rw [Jbl, qql n a (by omega) (by omega), qx0, qad (by constructor <;> omega), ih (i + 1) _ (by omega) (by omega) (by omega) (by omega), nszL]
    congr 1; omega
  have := qhs kids
  rw [Jbd, qad (by simp only [qa1]; omega), L kids 0 1 (by omega) (by omega) (by omega) (by omega), qx0]
  congr 1; omega
theorem qn7 : ∀ (n : Nat) (x : No), nsz x ≤ 100000 → nsz x < n → Ja3 n x = some (ndp x : Int) ∧ ndp x ≤ nsz x
 | 0, x, h, h2 => by omega
 | n + 1, ⟨k, t, kids, ln⟩, h, h2 => by
  rw [nsz_eq] at h h2
  rw [nsz_eq, ndp_eq]
  have L : ∀ (l : List No) (i : Nat) (y : Nat), nszL l ≤ 100000 → nszL l < n → Ja7 (Ja3 n) l i (y : Int) = some ((max y (qsa l) : Nat) : Int) ∧ qsa l ≤ nszL l := by
   intro l
   induction l with
   | nil => intro i y _ _; rw [Ja7, qsa, nszL]; simp
   | cons a l ih =>
    intro i y h3 h4
    rw [nszL] at h3 h4
    obtain ⟨e, e2⟩ := qn7 n a (by omega) (by omega)
    obtain ⟨g, g2⟩ := ih (i + 1) (max y (ndp a)) (by omega) (by omega)
    rw [Ja7, e, qx0, show max (y : Int) (ndp a : Int) = ((max y (ndp a) : Nat) : Int) by omega, g, qsa, nszL]
    exact ⟨by congr 1; omega, by omega⟩
  have := qhs kids
  obtain ⟨g, g2⟩ := L kids 0 0 (by omega) (by omega)
  rw [Ja3, qad (by simp only [qa1]; omega), show (0 : Int) = ((0 : Nat) : Int) from rfl, g, qx0, qad (by constructor <;> omega)]
  exact ⟨by congr 1, by omega⟩
structure At (l : List Tk) (p : Pr) (i : Nat) : Prop where
 e : p.list = l
 a : p.atZ = (i : Int)
 i : i < l.length
def hdrS : Str := [104, 101, 97, 100, 101, 114]
def QT (s : Str) (k : Int) (t : Str) : Prop := t.length ≤ s.length ∧ (k = 5 → hdrS <:+: s) ∧ (k = 24 → t <:+: s)
structure GotJ (s : Str) (l : List Tk) (i c : Nat) (r : No × Pr) (j : Nat) : Prop where
 a : At l r.2 j
 le : i ≤ j
 t : nal (QT s) r.1
 n : nsz r.1 + 3 * i ≤ 3 * j + 1 + c
 ok : r.2.line = 0 → i < j ∧ nsz r.1 + 3 * i ≤ 3 * j + c
def Got (s : Str) (l : List Tk) (i c : Nat) (r : No × Pr) : Prop := ∃ j, GotJ s l i c r j
def VGot (s : Str) (l : List Tk) (i : Nat) (r : List No × Pr) : Prop := ∃ j, At l r.2 j ∧ i ≤ j ∧ (∀ x ∈ r.1, nal (QT s) x) ∧ nszL r.1 + 3 * i ≤ 3 * j + 1
def Rec (s : Str) (l : List Tk) (b : Nat) (f : Pr → Option (No × Pr)) : Prop := ∀ p i, At l p i → b ≤ i → ∃ r, f p = some r ∧ Got s l i 0 r
def RecL (s : Str) (l : List Tk) (b : Nat) (f : Pr → Option (List No × Pr)) : Prop := ∀ p i, At l p i → b ≤ i → ∃ r, f p = some r ∧ VGot s l i r
theorem Rec.up {s : Str} {l : List Tk} {b c : Nat} {f : Pr → Option (No × Pr)} (h : Rec s l b f) (k : b ≤ c) : Rec s l c f := fun p i a e => h p i a (Nat.le_trans k e)
theorem RecL.up {s : Str} {l : List Tk} {b c : Nat} {f : Pr → Option (List No × Pr)} (h : RecL s l b f) (k : b ≤ c) : RecL s l c f := fun p i a e => h p i a (Nat.le_trans k e)
theorem qbl {α : Type} {b : Bool} {x y : Option α} {P : α → Prop} (h1 : b = true → ∃ r, x = some r ∧ P r) (h2 : b = false → ∃ r, y = some r ∧ P r) : ∃ r, (if b = true then x else y) = some r ∧ P r := by
 cases b with
 | true => exact h1 rfl
 | false => exact h2 rfl
theorem TL.len {s : Str} {l : List Tk} (h : TL s l) (hs : s.length ≤ 4096) : l.length ≤ 4097 := by have := h.1; omega
theorem TL.last {s : Str} {l : List Tk} (h : TL s l) {i : Nat} {t : Tk} (ht : l[i]? = some t) (hk : t.Ab ≠ 5) : i + 1 < l.length := by
 obtain ⟨_, _, a, e, rfl, he⟩ := h
 have hi : i < (a ++ [e]).length := by
  rcases Nat.lt_or_ge i (a ++ [e]).length with q | q
  ·exact q
  ·rw [List.getElem?_eq_none q] at ht; cases ht
 rw [List.length_append, List.length_singleton] at hi ⊢
 rcases Nat.lt_or_ge (i + 1) (a.length + 1) with q | q
 ·exact q
 ·exfalso
  have : i = a.length := by omega
  subst this
  rw [List.getElem?_append_right (Nat.le_refl _), Nat.sub_self] at ht
  cases ht
  exact hk he
theorem TL.tok {s : Str} {l : List Tk} (h : TL s l) {i : Nat} {t : Tk} (ht : l[i]? = some t) : TOK s t := h.2.1 t (List.mem_of_getElem? ht)
theorem qbv {l : List Tk} {p : Pr} {i : Nat} (h : At l p i) : ∃ t, l[i]? = some t ∧ JE p = some t := by
 obtain ⟨t, ht⟩ : ∃ t, l[i]? = some t := ⟨_, List.getElem?_eq_getElem h.i⟩
 refine ⟨t, ht, ?_⟩
 unfold JE ix
 rw [h.a, h.e, qx2 (by omega), Int.toNat_natCast, ht]; rfl
theorem qdm {p : Pr} {t : Tk} (h : JE p = some t) (k : Int) (w : Str) : Jy p k w = some (decide (t.Ab = k) && decide (t.Ac = w)) := by
 unfold Jy
 rw [h]; rfl
theorem qcc {s : Str} {l : List Tk} {p : Pr} {i : Nat} {t : Tk} (hT : TL s l) (h : At l p i) (ht : l[i]? = some t) (hp : JE p = some t) (hk : t.Ab ≠ 5) (hs : s.length ≤ 4096) : ∃ q, Jm p = some (t, q) ∧ At l q (i + 1) ∧ q.line = p.line := by
 have h1 := hT.last ht hk
 have h2 := hT.len hs
 unfold Jm
 rw [hp, qx0, h.e, h.a, qad (by constructor <;> omega), qx2 (by simp; omega), qad (by constructor <;> omega)]
 exact ⟨_, rfl, ⟨rfl, by show (i : Int) + 1 = _; omega, h1⟩, rfl⟩
theorem qcn {s : Str} {l : List Tk} {p : Pr} {i : Nat} (hT : TL s l) (h : At l p i) : ∃ q, J2 p = some q ∧ At l q i ∧ q.line ≠ 0 := by
 obtain ⟨t, ht, hp⟩ := qbv h
 unfold J2
 rw [hp]
 by_cases q : p.line = 0
 ·rw [qx2 (by simpa using q), qx0]
  exact ⟨_, rfl, ⟨h.e, h.a, h.i⟩, (hT.tok ht).2.1⟩
 ·rw [qx1 (by simpa using q)]; exact ⟨_, rfl, h, q⟩
theorem qev {s : Str} {l : List Tk} {p : Pr} {i : Nat} (hT : TL s l) (hs : s.length ≤ 4096) (h : At l p i) (w : Str) : ∃ q j, JF p w = some q ∧ At l q j ∧ i ≤ j ∧ (q.line = 0 → i < j ∧ p.line = 0) := by
 obtain ⟨t, ht, hp⟩ := qbv h
 unfold JF
 rw [qdm hp, qx0]
 cases q : (decide (t.Ab = 4) && decide (t.Ac = w)) with
 | false =>
  obtain ⟨q, hq, ha, hl⟩ := qcn hT h
  rw [qx2 (by simp), hq]; exact ⟨q, i, rfl, ha, Nat.le_refl _, fun e => absurd e hl⟩
 | true =>
  simp only [Bool.and_eq_true, decide_eq_true_eq] at q
  obtain ⟨r, hr, ha, hl⟩ := qcc hT h ht hp (by rw [q.1]; decide) hs
  rw [qx1 (by simp), hr]; exact ⟨r, i + 1, rfl, ha, Nat.le_succ _, fun e => ⟨Nat.lt_succ_self _, by rw [← hl]; exact e⟩⟩
theorem GotJ.bin {s : Str} {l : List Tk} {i j j2 : Nat} {r r2 : No × Pr} (h : GotJ s l i 0 r j) (ho : r.2.line = 0) (h2 : GotJ s l (j + 1) 0 r2 j2) {k : Int} {t : Str} (ht : QT s k t) (ln : Int) : GotJ s l i 0 (⟨k, t, [r.1, r2.1], ln⟩, r2.2) j2 := by
 have a := h.ok ho
 have b := h2.n
 have c := h2.le
 have e : nsz ⟨k, t, [r.1, r2.1], ln⟩ = nsz r.1 + nsz r2.1 + 1 := by rw [nsz_eq, nszL, nszL, nszL]; omega
 exact ⟨h2.a, by omega, (qix _ _ _ _ _).2 ⟨ht, fun x hx => by
  rcases List.mem_cons.1 hx with rfl | hx
  ·exact h.t
  ·rw [List.mem_singleton] at hx; subst hx; exact h2.t⟩, by show nsz _ + _ ≤ _; rw [e]; omega, fun _ => ⟨by omega, by show nsz _ + _ ≤ _; rw [e]; omega⟩⟩
theorem QT.nil (s : Str) {k : Int} (h5 : k ≠ 5) (h24 : k ≠ 24) : QT s k [] := ⟨by simp, fun e => absurd e h5, fun e => absurd e h24⟩
theorem QT.of {s t : Str} {k : Int} (h : t.length ≤ s.length) (h5 : k ≠ 5) (h24 : k ≠ 24) : QT s k t := ⟨h, fun e => absurd e h5, fun e => absurd e h24⟩
theorem Got.leaf {s : Str} {l : List Tk} {i j c : Nat} {q : Pr} (ha : At l q j) (hj : i < j) {k : Int} {t : Str} (ht : QT s k t) (ln : Int) : Got s l i c (⟨k, t, [], ln⟩, q) := by
 have e : nsz ⟨k, t, [], ln⟩ = 1 := by rw [nsz_eq, nszL]
 exact ⟨j, ha, Nat.le_of_lt hj, (qix _ _ _ _ _).2 ⟨ht, fun x hx => by cases hx⟩, by show nsz _ + _ ≤ _; rw [e]; omega, fun _ => ⟨hj, by show nsz _ + _ ≤ _; rw [e]; omega⟩⟩
theorem Got.bad {s : Str} {l : List Tk} {i j c : Nat} {q : Pr} (ha : At l q j) (hj : i ≤ j) (hq : q.line ≠ 0) {k : Int} {t : Str} (ht : QT s k t) (ln : Int) : Got s l i c (⟨k, t, [], ln⟩, q) := by
 have e : nsz ⟨k, t, [], ln⟩ = 1 := by rw [nsz_eq, nszL]
 exact ⟨j, ha, hj, (qix _ _ _ _ _).2 ⟨ht, fun x hx => by cases hx⟩, by show nsz _ + _ ≤ _; rw [e]; omega, fun e => absurd e hq⟩
theorem Got.over {s : Str} {l : List Tk} {i b c : Nat} {r : List No × Pr} (h : VGot s l b r) (hb : i < b) {k : Int} {t : Str} (ht : QT s k t) (ln : Int) : Got s l i c (⟨k, t, r.1, ln⟩, r.2) := by
 obtain ⟨j, ha, hj, hx, hn⟩ := h
 have e : nsz ⟨k, t, r.1, ln⟩ = nszL r.1 + 1 := nsz_eq _ _ _ _
 exact ⟨j, ha, by omega, (qix _ _ _ _ _).2 ⟨ht, hx⟩, by show nsz _ + _ ≤ _; rw [e]; omega, fun _ => ⟨by omega, by show nsz _ + _ ≤ _; rw [e]; omega⟩⟩
theorem oks {p : Pr} {t : Tk} {k : Int} {w : Str} (hp : JE p = some t) : ((Jr p).bind fun x7 => if x7 = true then (Jy p k w).bind fun x10 => some x10 else some false) = some (decide (p.line = 0) && (decide (t.Ab = k) && decide (t.Ac = w))) := by
 unfold Jr
 rw [qx0, qdm hp, qx0]
 cases decide (p.line = 0) <;> rfl
theorem qfm {α β γ : Type} (o : Option α) (f : α → Option β) (g : β → Option γ) : (o.bind fun x => (f x).bind g) = (o.bind f).bind g := by cases o <;> rfl
section
variable {s : Str} {l : List Tk} (hT : TL s l) (hs : s.length ≤ 4096)
include hT hs
theorem qqm {b : Nat} {f : Pr → Option (No × Pr)} (hR : Rec s l b f) : ∀ (m : Nat) (y : List No) (p : Pr) (i : Nat), At l p i → b ≤ i → l.length - i < m → y.length ≤ i →
  ∃ r, J3 f m y p = some r ∧ ∃ z, r.1 = y ++ z ∧ VGot s l i (z, r.2)
 | 0, y, p, i, hA, hb, hm, hy => by omega
 | m + 1, y, p, i, hA, hb, hm, hy => by
  have hl := hT.len hs
  have hi := hA.i
  rw [J3]
  unfold Jr
  rw [qx0]
  refine qbl (fun h0 => ?_) fun h0 => ⟨_, rfl, [], by simp, i, hA, Nat.le_refl _, fun x hx => (by cases hx), by show nszL [] + _ ≤ _; rw [nszL]; omega⟩
  obtain ⟨r, hr, j, g⟩ := hR p i hA hb
  have one : nszL [r.1] = nsz r.1 := by rw [nszL, nszL]; rfl
  have m1 : ∀ x ∈ [r.1], nal (QT s) x := fun x hx => by rw [List.mem_singleton] at hx; subst hx; exact g.t
  have gn := g.n
  have gl := g.le
  rw [hr, qx0, qad (by simp only [lim, List.length_singleton]; omega), qx0]
  refine qbl (fun h1 => ⟨_, rfl, [r.1], rfl, j, g.a, g.le, m1, by show nszL _ + _ ≤ _; rw [one]; omega⟩) fun h1 => ?_
  have hz : r.2.line = 0 := by simpa using h1
  have go := g.ok hz
  obtain ⟨t, ht, hp⟩ := qbv g.a
  rw [qdm hp, qx0]
  refine qbl (fun h2 => ?_) fun h2 => ?_
  ·simp only [Bool.and_eq_true, decide_eq_true_eq] at h2
   obtain ⟨q, hq, qa, ql⟩ := qcc hT g.a ht hp (by rw [h2.1]; decide) hs
   rw [hq, qx0]
   obtain ⟨rr, e, z, ez, j2, a2, l2, m2, n2⟩ := qqm hR m (y ++ [r.1]) q (j + 1) qa (by omega) (by omega) (by simp only [List.length_append, List.length_singleton]; omega)
   refine ⟨rr, e, r.1 :: z, by rw [ez]; simp, j2, a2, by omega, fun x hx => ?_, by show nszL (r.1 :: z) + _ ≤ _; rw [nszL]; simp only at n2; omega⟩
   rcases List.mem_cons.1 hx with rfl | hx
   ·exact g.t
   ·exact m2 x hx
  ·obtain ⟨q, j2, hq, qa, ql, qo⟩ := qev hT hs g.a [41]
   rw [hq, qx0]
   exact ⟨_, rfl, [r.1], rfl, j2, qa, by omega, m1, by show nszL _ + _ ≤ _; rw [one]; omega⟩
theorem quh {n : Nat} {f : Pr → Option (No × Pr)} {p : Pr} {i : Nat} (hA : At l p i) (hR : Rec s l i f) (hn : l.length - i + 1 ≤ n) : ∃ r, Ja1 f n p = some r ∧ VGot s l i r := by
 obtain ⟨t, ht, hp⟩ := qbv hA
 unfold Ja1
 rw [qdm hp, qx0]
 refine qbl (fun h2 => ?_) fun h2 => ?_
 ·simp only [Bool.and_eq_true, decide_eq_true_eq] at h2
  obtain ⟨q, hq, qa, ql⟩ := qcc hT hA ht hp (by rw [h2.1]; decide) hs
  rw [hq, qx0]
  exact ⟨_, rfl, i + 1, qa, by omega, fun x hx => (by cases hx), by show nszL [] + _ ≤ _; rw [nszL]; omega⟩
 ·obtain ⟨r, e, z, ez, g⟩ := qqm hT hs hR n [] p i hA (Nat.le_refl _) (by omega) (by simp)
  rw [e, qx0]
  refine ⟨_, rfl, ?_⟩
  have : (r.1, r.2) = (z, r.2) := by rw [ez]; rfl
  rw [this]; exact g
theorem qqn {n : Nat} {f : Pr → Option (No × Pr)} {p : Pr} {i : Nat} (hA : At l p i) (hR : Rec s l (i + 1) f) (hn : l.length - i + 1 ≤ n) : ∃ r, Jbi f n p = some r ∧ Got s l i 0 r := by
 obtain ⟨t, ht, hp⟩ := qbv hA
 have tk := hT.tok ht
 have nx : t.Ab ≠ 5 → ∃ q, Jm p = some (t, q) ∧ At l q (i + 1) ∧ q.line = p.line := fun h => qcc hT hA ht hp h hs
 have leaf : ∀ {k : Int}, t.Ab ≠ 5 → k ≠ 5 → k ≠ 24 → ∃ r, ((Jm p).bind fun x => some ((⟨k, t.Ac, [], t.Ad⟩ : No), x.2)) = some r ∧ Got s l i 0 r := fun {k} h h5 h24 => by
  obtain ⟨q, hq, qa, ql⟩ := nx h
  rw [hq]; exact ⟨_, rfl, Got.leaf qa (Nat.lt_succ_self _) (QT.of tk.1 h5 h24) _⟩
 unfold Jbi
 rw [hp, qx0]
 refine qbl (fun h => leaf (by rw [of_decide_eq_true h]; decide) (by decide) (by decide)) fun _ => ?_
 refine qbl (fun h => leaf (by rw [of_decide_eq_true h]; decide) (by decide) (by decide)) fun _ => ?_
 rw [qdm hp, qdm hp, qx0]
 refine qbl (fun h => ?_) fun _ => ?_
 ·simp only [Bool.and_eq_true, decide_eq_true_eq] at h
  exact leaf (by rw [h.1]; decide) (by decide) (by decide)
 rw [qx0]
 refine qbl (fun h => ?_) fun _ => ?_
 ·simp only [Bool.and_eq_true, decide_eq_true_eq] at h
  exact leaf (by rw [h.1]; decide) (by decide) (by decide)
 obtain ⟨b, hb⟩ := qgx t.Ac
 have e : ((if decide (t.Ab = 1) = true then (Jbc t.Ac).bind fun x43 => some (!x43) else some false) : Option Bool) = some (decide (t.Ab = 1) && !b) := by
  rw [hb]; cases decide (t.Ab = 1) <;> rfl
 rw [e, qx0]
 refine qbl (fun h => ?_) fun _ => ?_
 ·simp only [Bool.and_eq_true, decide_eq_true_eq] at h
  obtain ⟨q, hq, qa, ql⟩ := nx (by rw [h.1]; decide)
  obtain ⟨t2, ht2, hp2⟩ := qbv qa
  rw [hq, qx0, qdm hp2, qx0]
  refine qbl (fun h2 => ?_) fun _ => ⟨_, rfl, Got.leaf qa (Nat.lt_succ_self _) (QT.of tk.1 (by decide) (by decide)) _⟩
  simp only [Bool.and_eq_true, decide_eq_true_eq] at h2
  obtain ⟨q2, hq2, qa2, ql2⟩ := qcc hT qa ht2 hp2 (by rw [h2.1]; decide) hs
  obtain ⟨r, hr, g⟩ := quh hT hs (n := n) qa2 (hR.up (by omega)) (by omega)
  rw [hq2, qx0, hr, qx0]
  exact ⟨_, rfl, Got.over g (by omega) ⟨tk.1, fun e => (by cases e), fun _ => tk.2.2 h.1⟩ _⟩
 rw [qdm hp, qx0]
 refine qbl (fun h => ?_) fun _ => ?_
 ·simp only [Bool.and_eq_true, decide_eq_true_eq] at h
  obtain ⟨q, hq, qa, ql⟩ := nx (by rw [h.1]; decide)
  obtain ⟨r, hr, j, g⟩ := hR q (i + 1) qa (Nat.le_refl _)
  have gl := g.le
  have gn := g.n
  rw [hq, qx0, hr, qx0]
  unfold Jr
  rw [qx0]
  refine qbl (fun h3 => ?_) fun h3 => ⟨_, rfl, j, g.a, by omega, g.t, by show nsz r.1 + _ ≤ _; omega, fun e => absurd e (by simpa using h3)⟩
  obtain ⟨q2, j2, hq2, qa2, ql2, qo2⟩ := qev hT hs g.a [41]
  rw [hq2, qx0]
  exact ⟨_, rfl, j2, qa2, by omega, g.t, by show nsz r.1 + _ ≤ _; omega, fun _ => ⟨by omega, by show nsz r.1 + _ ≤ _; omega⟩⟩
 obtain ⟨q, hq, qa, ql⟩ := qcn hT hA
 rw [hq, qx0]
 exact ⟨_, rfl, Got.bad qa (Nat.le_refl _) ql (QT.of tk.1 (by decide) (by decide)) _⟩
theorem qqo {n i0 : Nat} {f : Pr → Option (No × Pr)} (hR : Rec s l (i0 + 1) f) (hn : l.length - i0 + 1 ≤ n) : ∀ (m : Nat) (r : No × Pr) (j : Nat), GotJ s l i0 0 r j → l.length - j < m → ∃ z, Jau f n m r.1 r.2 = some z ∧ Got s l i0 0 z
 | 0, r, j, g, hm => by omega
 | m + 1, r, j, g, hm => by
  obtain ⟨t, ht, hp⟩ := qbv g.a
  have hj := g.a.i
  have gl := g.le
  rw [Jau, qfm, oks hp, qx0]
  refine qbl (fun h => ?_) fun _ => ⟨_, rfl, j, g⟩
  simp only [Bool.and_eq_true, decide_eq_true_eq] at h
  obtain ⟨q, hq, qa, ql⟩ := qcc hT g.a ht hp (by rw [h.2.1]; decide) hs
  obtain ⟨rr, hrr, j2, g2⟩ := qqn hT hs (n := n) qa (hR.up (by omega)) (by omega)
  rw [hq, qx0, hrr, qx0]
  unfold Jak
  rw [qx0]
  have := g2.le
  exact qqo hR hn m (_, rr.2) j2 (g.bin h.1 g2 (QT.nil s (by decide) (by decide)) _) (by omega)
theorem qqp {n : Nat} {f : Pr → Option (No × Pr)} {p : Pr} {i : Nat} (hA : At l p i) (hR : Rec s l (i + 1) f) (hn : l.length - i + 1 ≤ n) : ∃ r, JaD f n p = some r ∧ Got s l i 0 r := by
 obtain ⟨r, hr, j, g⟩ := qqn hT hs (n := n) hA hR hn
 have := g.le
 obtain ⟨z, hz, g2⟩ := qqo hT hs (n := n) hR hn n r j g (by omega)
 unfold JaD
 rw [hr, qx0, hz]; exact ⟨_, rfl, g2⟩
theorem qs4 {n i0 : Nat} {f : Pr → Option (No × Pr)} (hR : Rec s l (i0 + 1) f) (hn : l.length - i0 + 1 ≤ n) : ∀ (m : Nat) (r : No × Pr) (j : Nat), GotJ s l i0 0 r j → l.length - j < m → ∃ z, Jac f n m r.1 r.2 = some z ∧ ∃ w, (z = Fl.ret w ∨ z = Fl.go w) ∧ Got s l i0 0 w
 | 0, r, j, g, hm => by omega
 | m + 1, r, j, g, hm => by
  obtain ⟨t, ht, hp⟩ := qbv g.a
  have hj := g.a.i
  have gl := g.le
  rw [Jac]
  unfold Jr
  rw [qx0]
  refine qbl (fun h0 => ?_) fun _ => ⟨_, rfl, _, .inr rfl, j, g⟩
  have h0 : r.2.line = 0 := of_decide_eq_true h0
  have go : ∀ (k : Int), k ≠ 5 → k ≠ 24 → t.Ab = 4 → ∃ z, ((Jm r.2).bind fun x13 => (JaD f n x13.2).bind fun x16 => (Jak k ([] : Str) r.1 x16.1).bind fun x17 => Jac f n m x17 x16.2) = some z ∧ ∃ w, (z = Fl.ret w ∨ z = Fl.go w) ∧ Got s l i0 0 w := fun k k5 k24 h => by
   obtain ⟨q, hq, qa, ql⟩ := qcc hT g.a ht hp (by rw [h]; decide) hs
   obtain ⟨rr, hrr, j2, g2⟩ := qqp hT hs (n := n) qa (hR.up (by omega)) (by omega)
   rw [hq, qx0, hrr, qx0]
   unfold Jak
   rw [qx0]
   have := g2.le
   exact qs4 hR hn m (_, rr.2) j2 (g.bin h0 g2 (QT.nil s k5 k24) _) (by omega)
  rw [qdm hp, qdm hp, qx0]
  refine qbl (fun h => ?_) fun _ => ?_
  ·simp only [Bool.and_eq_true, decide_eq_true_eq] at h
   exact go 17 (by decide) (by decide) h.1
  rw [qx0]
  refine qbl (fun h => ?_) fun _ => ⟨_, rfl, _, .inl rfl, j, g⟩
  simp only [Bool.and_eq_true, decide_eq_true_eq] at h
  exact go 18 (by decide) (by decide) h.1
theorem qs5 {n : Nat} {f : Pr → Option (No × Pr)} {p : Pr} {i : Nat} (hA : At l p i) (hR : Rec s l (i + 1) f) (hn : l.length - i + 1 ≤ n) : ∃ r, Jbo f n p = some r ∧ Got s l i 0 r := by
 obtain ⟨r, hr, j, g⟩ := qqp hT hs (n := n) hA hR hn
 have := g.le
 obtain ⟨z, hz, w, hw, g2⟩ := qs4 hT hs (n := n) hR hn n r j g (by omega)
 unfold Jbo
 rw [hr, qx0, hz, qx0]
 rcases hw with rfl | rfl
 ·exact ⟨_, rfl, g2⟩
 ·exact ⟨_, rfl, g2⟩
theorem qui {n : Nat} {f : Pr → Option (No × Pr)} {p : Pr} {i : Nat} (hA : At l p i) (hR : Rec s l (i + 1) f) (hn : l.length - i + 1 ≤ n) : ∃ r, JbC f n p = some r ∧ Got s l i 0 r := by
 obtain ⟨r, hr, j, g⟩ := qs5 hT hs (n := n) hA hR hn
 obtain ⟨t, ht, hp⟩ := qbv g.a
 have gl := g.le
 unfold JbC Jr
 rw [hr, qx0, hp, qx0, qx0]
 obtain ⟨b, hb, h4⟩ : ∃ b, J9 t.Ab t.Ac = some b ∧ (b = true → t.Ab ≠ 5) := by
  unfold J9
  repeat (refine qbl (fun _ => ⟨_, rfl, fun e => by rw [of_decide_eq_true e]; decide⟩) fun _ => ?_)
  exact ⟨_, rfl, fun e => by cases e⟩
 have e : ((if decide (r.2.line = 0) = true then (J9 t.Ab t.Ac).bind fun x16 => some x16 else some false) : Option Bool) = some (decide (r.2.line = 0) && b) := by
  rw [hb]; cases decide (r.2.line = 0) <;> rfl
 rw [e, qx0]
 refine qbl (fun h => ?_) fun _ => ⟨_, rfl, j, g⟩
 simp only [Bool.and_eq_true, decide_eq_true_eq] at h
 obtain ⟨q, hq, qa, ql⟩ := qcc hT g.a ht hp (h4 h.2) hs
 obtain ⟨rr, hrr, j2, g2⟩ := qs5 hT hs (n := n) qa (hR.up (by omega)) (by omega)
 rw [hq, qx0, hrr, qx0]
 unfold Jak
 exact ⟨_, rfl, j2, g.bin h.1 g2 (QT.of (hT.tok ht).1 (by decide) (by decide)) _⟩
theorem qqq {f : Pr → Option (No × Pr)} : ∀ (n : Nat) (p : Pr) (i : Nat), At l p i → Rec s l (i + 1) f → l.length - i + 2 ≤ n → ∃ r, JaL f n p = some r ∧ Got s l i 0 r
 | 0, p, i, hA, hR, hn => by omega
 | n + 1, p, i, hA, hR, hn => by
  obtain ⟨t, ht, hp⟩ := qbv hA
  have hi := hA.i
  rw [JaL, qdm hp, qx0]
  refine qbl (fun h => ?_) fun h => ?_
  ·simp only [Bool.and_eq_true, decide_eq_true_eq] at h
   obtain ⟨q, hq, qa, ql⟩ := qcc hT hA ht hp (by rw [h.1]; decide) hs
   obtain ⟨r, hr, j, g⟩ := qqq n q (i + 1) qa (hR.up (by omega)) (by omega)
   have gl := g.le
   have gn := g.n
   rw [hq, qx0, hr, qx0]
   refine ⟨_, rfl, Got.over (r := ([r.1], r.2)) (b := i + 1) ⟨j, g.a, gl, fun x hx => ?_, by show nszL [r.1] + _ ≤ _; rw [nszL, nszL]; omega⟩ (by omega) (QT.nil s (by decide) (by decide)) _⟩
   rw [List.mem_singleton] at hx; subst hx; exact g.t
  ·obtain ⟨r, hr, g⟩ := qui hT hs (n := n) hA hR (by omega)
   rw [hr]; exact ⟨_, rfl, g⟩
theorem qqr {n i0 : Nat} {f : Pr → Option (No × Pr)} (hR : Rec s l (i0 + 1) f) (hn : l.length - i0 + 2 ≤ n) : ∀ (m : Nat) (r : No × Pr) (j : Nat), GotJ s l i0 0 r j → l.length - j < m → ∃ z, Jav f n m r.1 r.2 = some z ∧ Got s l i0 0 z
 | 0, r, j, g, hm => by omega
 | m + 1, r, j, g, hm => by
  obtain ⟨t, ht, hp⟩ := qbv g.a
  have hj := g.a.i
  have gl := g.le
  rw [Jav, qfm, oks hp, qx0]
  refine qbl (fun h => ?_) fun _ => ⟨_, rfl, j, g⟩
  simp only [Bool.and_eq_true, decide_eq_true_eq] at h
  obtain ⟨q, hq, qa, ql⟩ := qcc hT g.a ht hp (by rw [h.2.1]; decide) hs
  obtain ⟨rr, hrr, j2, g2⟩ := qqq hT hs n q (j + 1) qa (hR.up (by omega)) (by omega)
  rw [hq, qx0, hrr, qx0]
  unfold Jak
  rw [qx0]
  have := g2.le
  exact qqr hR hn m (_, rr.2) j2 (g.bin h.1 g2 (QT.nil s (by decide) (by decide)) _) (by omega)
theorem qqs {n : Nat} {f : Pr → Option (No × Pr)} {p : Pr} {i : Nat} (hA : At l p i) (hR : Rec s l (i + 1) f) (hn : l.length - i + 2 ≤ n) : ∃ r, Jbj f n p = some r ∧ Got s l i 0 r := by
 obtain ⟨r, hr, j, g⟩ := qqq hT hs n p i hA hR hn
 have := g.le
 obtain ⟨z, hz, g2⟩ := qqr hT hs (n := n) hR hn n r j g (by omega)
 unfold Jbj
 rw [hr, qx0, hz]; exact ⟨_, rfl, g2⟩
theorem qqt {n i0 : Nat} {f : Pr → Option (No × Pr)} (hR : Rec s l (i0 + 1) f) (hn : l.length - i0 + 2 ≤ n) : ∀ (m : Nat) (r : No × Pr) (j : Nat), GotJ s l i0 0 r j → l.length - j < m → ∃ z, Jaw f n m r.1 r.2 = some z ∧ Got s l i0 0 z
 | 0, r, j, g, hm => by omega
 | m + 1, r, j, g, hm => by
  obtain ⟨t, ht, hp⟩ := qbv g.a
  have hj := g.a.i
  have gl := g.le
  rw [Jaw, qfm, oks hp, qx0]
  refine qbl (fun h => ?_) fun _ => ⟨_, rfl, j, g⟩
  simp only [Bool.and_eq_true, decide_eq_true_eq] at h
  obtain ⟨q, hq, qa, ql⟩ := qcc hT g.a ht hp (by rw [h.2.1]; decide) hs
  obtain ⟨rr, hrr, j2, g2⟩ := qqs hT hs (n := n) qa (hR.up (by omega)) (by omega)
  rw [hq, qx0, hrr, qx0]
  unfold Jak
  rw [qx0]
  have := g2.le
  exact qqt hR hn m (_, rr.2) j2 (g.bin h.1 g2 (QT.nil s (by decide) (by decide)) _) (by omega)
theorem qm4 : ∀ (n : Nat) (p : Pr) (i : Nat), At l p i → l.length - i + 3 ≤ n → ∃ r, JT n p = some r ∧ Got s l i 0 r
 | 0, p, i, hA, hn => by omega
 | n + 1, p, i, hA, hn => by
  have hR : Rec s l (i + 1) (JT n) := fun p' i' a h => qm4 n p' i' a (by have := a.i; omega)
  obtain ⟨r, hr, j, g⟩ := qqs hT hs (n := n) hA hR (by omega)
  have := g.le
  obtain ⟨z, hz, g2⟩ := qqt hT hs (n := n) hR (by omega) n r j g (by omega)
  rw [JT, hr, qx0, hz]; exact ⟨_, rfl, g2⟩
end
theorem Got.kids {s : Str} {l : List Tk} {i j : Nat} {q : Pr} {xs : List No} (ha : At l q j) (hj : i < j ∨ (i ≤ j ∧ q.line ≠ 0)) (hx : ∀ x ∈ xs, nal (QT s) x) (hn : nszL xs + 3 * i ≤ 3 * j + 1) (ho : q.line = 0 → nszL xs + 3 * i ≤ 3 * j) (ln : Int) : Got s l i 1 (⟨2, [], xs, ln⟩, q) := by
 have e : nsz ⟨2, [], xs, ln⟩ = nszL xs + 1 := nsz_eq _ _ _ _
 exact ⟨j, ha, by omega, (qix _ _ _ _ _).2 ⟨QT.nil s (by decide) (by decide), hx⟩, by show nsz _ + _ ≤ _; rw [e]; omega, fun h => ⟨by rcases hj with h1 | h1; exact h1; exact absurd h h1.2, by have := ho h; show nsz _ + _ ≤ _; rw [e]; omega⟩⟩
theorem Got.more {s : Str} {l : List Tk} {i j b c : Nat} {r : No × Pr} {ks : List No} (hk : ∀ x ∈ ks, nal (QT s) x) (hn : nszL ks + 3 * i ≤ 3 * j) (hi : i ≤ j) (h : Got s l b c r) (hb : j + 1 + c ≤ b) (ln : Int) : Got s l i 1 (⟨2, [], ks ++ [r.1], ln⟩, r.2) := by
 obtain ⟨j3, g⟩ := h
 have gn := g.n
 have gl := g.le
 have e : nszL (ks ++ [r.1]) = nszL ks + nsz r.1 := by rw [qko, nszL, nszL]; rfl
 refine Got.kids g.a (.inl (by omega)) (fun x hx => ?_) (by rw [e]; omega) (fun _ => by rw [e]; omega) ln
 rcases List.mem_append.1 hx with hx | hx
 ·exact hk x hx
 ·rw [List.mem_singleton] at hx; subst hx; exact g.t
section
variable {s : Str} {l : List Tk} (hT : TL s l) (hs : s.length ≤ 4096)
include hT hs
theorem qlv {n : Nat} {p : Pr} {i : Nat} (hA : At l p i) (hn : l.length - i + 3 ≤ n) : ∃ r, ((Jr p).bind fun x12 => if (!x12) = true then some (([] : List No), p) else (JT n p).bind fun x15 => (Jr x15.2).bind fun x17 => if x17 = true then (JF x15.2 ([59] : Str)).bind fun x19 => some ([x15.1], x19) else some ([x15.1], x15.2)) = some r ∧ VGot s l i r := by
 obtain ⟨r, hr, j, g⟩ := qm4 hT hs n p i hA hn
 have one : nszL [r.1] = nsz r.1 := by rw [nszL, nszL]; rfl
 have m1 : ∀ x ∈ [r.1], nal (QT s) x := fun x hx => by rw [List.mem_singleton] at hx; subst hx; exact g.t
 have gn := g.n
 have gl := g.le
 unfold Jr
 rw [qx0]
 refine qbl (fun h => ⟨_, rfl, i, hA, Nat.le_refl _, fun x hx => (by cases hx), by show nszL [] + _ ≤ _; rw [nszL]; omega⟩) fun _ => ?_
 rw [hr, qx0, qx0]
 refine qbl (fun h => ?_) fun _ => ⟨_, rfl, j, g.a, gl, m1, by show nszL _ + _ ≤ _; rw [one]; omega⟩
 obtain ⟨q, j2, hq, qa, ql, qo⟩ := qev hT hs g.a [59]
 rw [hq, qx0]
 exact ⟨_, rfl, j2, qa, by omega, m1, by show nszL _ + _ ≤ _; rw [one]; omega⟩
theorem qkp {n : Nat} {p : Pr} {i : Nat} (hA : At l p i) (hn : l.length - i + 3 ≤ n) (w : Str) : ∃ r, Jw n p w = some r ∧ VGot s l i r := by
 unfold Jw
 refine qbl (fun h => ?_) fun _ => qlv hT hs hA hn
 obtain ⟨q, j, hq, qa, ql, qo⟩ := qev hT hs hA w
 have qi := qa.i
 rw [hq, qx0]
 obtain ⟨r, hr, j2, a, b, c, d⟩ := qlv hT hs (n := n) qa (by omega)
 exact ⟨r, hr, j2, a, by omega, c, by omega⟩
theorem quj {p : Pr} {i : Nat} (hA : At l p i) : ∃ r, Jbk p = some r ∧ ∃ j, At l r.2 j ∧ i ≤ j ∧ r.1.length ≤ s.length := by
 obtain ⟨t, ht, hp⟩ := qbv hA
 unfold Jbk
 rw [hp, qx0]
 refine qbl (fun h => ?_) fun h => ?_
 ·obtain ⟨q, hq, qa, ql⟩ := qcn hT hA
  rw [hq]; exact ⟨_, rfl, i, qa, Nat.le_refl _, by simp⟩
 ·have h : t.Ab = 3 := by simpa using h
  obtain ⟨q, hq, qa, ql⟩ := qcc hT hA ht hp (by rw [h]; decide) hs
  rw [hq]; exact ⟨_, rfl, i + 1, qa, Nat.le_succ _, (hT.tok ht).1⟩
theorem qgc {n : Nat} {f : Pr → Option (List No × Pr)} {p : Pr} {i : Nat} (hA : At l p i) (hR : RecL s l (i + 1) f) : ∃ r, JaM f n p = some r ∧ Got s l i 0 r := by
 obtain ⟨t, ht, hp⟩ := qbv hA
 obtain ⟨q, j, hq, qa, ql, qo⟩ := qev hT hs hA [123]
 unfold JaM Jr
 rw [hp, qx0, hq, qx0, qx0]
 refine qbl (fun h => ?_) fun h => ⟨_, rfl, Got.bad qa ql (by simpa using h) (QT.nil s (by decide) (by decide)) _⟩
 have hj := qo (of_decide_eq_true h)
 obtain ⟨r, hr, j2, a, b, c, d⟩ := hR q j qa (by omega)
 obtain ⟨q2, j3, hq2, qa2, ql2, qo2⟩ := qev hT hs a [125]
 rw [hr, qx0, hq2, qx0]
 exact ⟨_, rfl, Got.over (r := (r.1, q2)) (b := j) ⟨j3, qa2, by omega, c, by show nszL r.1 + _ ≤ _; omega⟩ (by omega) (QT.nil s (by decide) (by decide)) _⟩
theorem qlw {f : Pr → Option (List No × Pr)} : ∀ (n : Nat) (p : Pr) (i : Nat) (ln : Int), At l p i → RecL s l (i + 1) f → l.length - i + 4 ≤ n → ∃ r, Jam f n p ln = some r ∧ Got s l i 1 r
 | 0, p, i, ln, hA, hR, hn => by omega
 | n + 1, p, i, ln, hA, hR, hn => by
  have hi := hA.i
  obtain ⟨a, ha, j, g⟩ := qm4 hT hs n p i hA (by omega)
  have gl := g.le
  have gn := g.n
  rw [Jam, ha, qx0, qad (by simp only [lim, List.length_singleton]; omega)]
  unfold Jr
  rw [qx0]
  refine qbl (fun h => ?_) fun h => ?_
  ·have go := g.ok (of_decide_eq_true h)
   obtain ⟨b, hb, j2, g2⟩ := qgc hT hs (n := n) g.a (hR.up (by omega))
   have gl2 := g2.le
   have gn2 := g2.n
   have m2 : ∀ x ∈ [a.1] ++ [b.1], nal (QT s) x := fun x hx => by
    rcases List.mem_append.1 hx with hx | hx
    ·rw [List.mem_singleton] at hx; subst hx; exact g.t
    ·rw [List.mem_singleton] at hx; subst hx; exact g2.t
   have n2 : nszL ([a.1] ++ [b.1]) = nsz a.1 + nsz b.1 := by rw [qko, nszL, nszL, nszL, nszL]; omega
   obtain ⟨t, ht, hp⟩ := qbv g2.a
   rw [hb, qx0, qad (by simp only [lim, List.length_singleton]; omega), qx0]
   have e : ((if (!decide (b.2.line = 0)) = true then some true else (Jy b.2 1 ([101, 108, 115, 101] : Str)).bind fun x30 => some (!x30)) : Option Bool) = some (!(decide (b.2.line = 0) && (decide (t.Ab = 1) && decide (t.Ac = ([101, 108, 115, 101] : Str))))) := by
    rw [qdm hp]; cases decide (b.2.line = 0) <;> rfl
   rw [e, qx0]
   refine qbl (fun h => ⟨_, rfl, Got.kids g2.a (by omega) m2 (by rw [n2]; omega) (fun h => by have := g2.ok h; rw [n2]; omega) _⟩) fun h => ?_
   simp only [Bool.not_eq_false', Bool.and_eq_true, decide_eq_true_eq] at h
   have go2 := g2.ok h.1
   obtain ⟨q, hq, qa, ql⟩ := qcc hT g2.a ht hp (by rw [h.2.1]; decide) hs
   obtain ⟨t2, ht2, hp2⟩ := qbv qa
   rw [hq, qx0, qdm hp2, qx0]
   refine qbl (fun h3 => ?_) fun h3 => ?_
   ·simp only [Bool.and_eq_true, decide_eq_true_eq] at h3
    obtain ⟨q3, hq3, qa3, ql3⟩ := qcc hT qa ht2 hp2 (by rw [h3.1]; decide) hs
    obtain ⟨c, hc, g3⟩ := qlw n q3 (j2 + 1 + 1) t2.Ad qa3 (hR.up (by omega)) (by omega)
    rw [hq3, qx0, hc, qx0, qad (by simp only [lim, List.length_append, List.length_singleton]; omega)]
    exact ⟨_, rfl, Got.more m2 (by rw [n2]; omega) (by omega) g3 (Nat.le_refl _) ln⟩
   ·obtain ⟨c, hc, g3⟩ := qgc hT hs (n := n) qa (hR.up (by omega))
    rw [hc, qx0, qad (by simp only [lim, List.length_append, List.length_singleton]; omega)]
    exact ⟨_, rfl, Got.more m2 (by rw [n2]; omega) (by omega) g3 (Nat.le_refl _) ln⟩
  ·have hz : a.2.line ≠ 0 := by simpa using h
   have e : ((if (!decide (a.2.line = 0)) = true then some true else (Jy a.2 1 ([101, 108, 115, 101] : Str)).bind fun x30 => some (!x30)) : Option Bool) = some true := by
    rw [decide_eq_false hz]; rfl
   rw [qx0, e, qx0, qx2 rfl]
   have one : nszL [a.1] = nsz a.1 := by rw [nszL, nszL]; rfl
   exact ⟨_, rfl, Got.kids g.a (.inr ⟨g.le, hz⟩) (fun x hx => by rw [List.mem_singleton] at hx; subst hx; exact g.t) (by rw [one]; omega) (fun e => absurd e hz) _⟩
theorem qlx {n : Nat} {f : Pr → Option (List No × Pr)} {p : Pr} {i : Nat} (hA : At l p i) (hR : RecL s l (i + 1) f) (hn : l.length - i + 3 ≤ n) : ∃ r, Ja2 f n p = some r ∧ Got s l i 0 r := by
 obtain ⟨t, ht, hp⟩ := qbv hA
 have tk := hT.tok ht
 have hi := hA.i
 unfold Ja2
 rw [hp, qx0]
 refine qbl (fun h => ?_) fun h => ?_
 ·obtain ⟨q, hq, qa, ql⟩ := qcn hT hA
  rw [hq]; exact ⟨_, rfl, Got.bad qa (Nat.le_refl _) ql (QT.nil s (by decide) (by decide)) _⟩
 have k1 : t.Ab = 1 := by simpa using h
 obtain ⟨q, hq, qa, ql⟩ := qcc hT hA ht hp (by rw [k1]; decide) hs
 have qi := qa.i
 have V : ∀ {k : Int} {w u : Str}, QT s k u → ∃ r, ((Jw n q w).bind fun x => some ((⟨k, u, x.1, t.Ad⟩ : No), x.2)) = some r ∧ Got s l i 0 r := fun {k w u} h => by
  obtain ⟨r, hr, g⟩ := qkp hT hs (n := n) qa (by omega) w
  rw [hr]; exact ⟨_, rfl, Got.over g (by omega) h _⟩
 have S : ∀ {k : Int}, k ≠ 5 → k ≠ 24 → ∃ r, ((JF q ([59] : Str)).bind fun x => some ((⟨k, ([] : Str), [], t.Ad⟩ : No), x)) = some r ∧ Got s l i 0 r := fun {k} h5 h24 => by
  obtain ⟨q2, j2, hq2, qa2, ql2, _⟩ := qev hT hs qa [59]
  rw [hq2]; exact ⟨_, rfl, Got.leaf qa2 (by omega) (QT.nil s h5 h24) _⟩
 have Vn : ∀ {k : Int} {w : Str}, k ≠ 5 → k ≠ 24 → ∃ r, ((Jw n q w).bind fun x => some ((⟨k, ([] : Str), x.1, t.Ad⟩ : No), x.2)) = some r ∧ Got s l i 0 r := fun h5 h24 => V (QT.nil s h5 h24)
 refine qbl (fun h => ?_) fun _ => ?_
 ·obtain ⟨r, hr, j, g⟩ := qlw hT hs n q (i + 1) t.Ad qa (hR.up (by omega)) (by omega)
  rw [hq, qx0, hr]
  have gl := g.le
  have gn := g.n
  exact ⟨_, rfl, j, g.a, by omega, g.t, by show nsz r.1 + _ ≤ _; omega, fun e => ⟨by omega, by have := g.ok e; show nsz r.1 + _ ≤ _; omega⟩⟩
 refine qbl (fun h => ?_) fun _ => ?_
 ·obtain ⟨t2, ht2, hp2⟩ := qbv qa
  obtain ⟨b, hb⟩ := qgx t2.Ac
  rw [hq, qx0, hp2, qx0]
  have e : ((if decide (t2.Ab ≠ 1) = true then some true else (Jbc t2.Ac).bind fun x42 => some x42) : Option Bool) = some (decide (t2.Ab ≠ 1) || b) := by
   rw [hb]; cases decide (t2.Ab ≠ 1) <;> rfl
  rw [e, qx0]
  refine qbl (fun h => ?_) fun h => ?_
  ·obtain ⟨q2, hq2, qa2, ql2⟩ := qcn hT qa
   rw [hq2]; exact ⟨_, rfl, Got.bad qa2 (Nat.le_succ _) ql2 (QT.nil s (by decide) (by decide)) _⟩
  ·simp only [Bool.or_eq_false_iff, decide_eq_false_iff_not, Classical.not_not] at h
   obtain ⟨q2, hq2, qa2, ql2⟩ := qcc hT qa ht2 hp2 (by rw [h.1]; decide) hs
   have q2i := qa2.i
   obtain ⟨r, hr, g⟩ := qkp hT hs (n := n) qa2 (by omega) [61]
   rw [hq2, qx0, hr]
   exact ⟨_, rfl, Got.over g (by omega) (QT.of (hT.tok ht2).1 (by decide) (by decide)) _⟩
 rw [hq, qx0]
 refine qbl (fun h => V (QT.of tk.1 (by decide) (by decide))) fun _ => ?_
 refine qbl (fun h => V (QT.of tk.1 (by decide) (by decide))) fun _ => ?_
 obtain ⟨w, hw, j, wa, wl, wn⟩ := quj hT hs qa
 have wi := wa.i
 unfold Jr
 refine qbl (fun h => ?_) fun _ => ?_
 ·rw [qx0, hw, qx0, qx0]
  have hh : hdrS <:+: s := by
   have := tk.2.2 k1
   rw [of_decide_eq_true h] at this
   exact this
  have hQ : QT s 5 w.1 := ⟨wn, fun _ => hh, fun e => (by cases e)⟩
  refine qbl (fun h => ?_) fun h => ⟨_, rfl, Got.leaf wa (Nat.lt_of_lt_of_le (Nat.lt_succ_self _) wl) hQ _⟩
  obtain ⟨r, hr, g⟩ := qkp hT hs (n := n) wa (by omega) [61]
  rw [hr]; exact ⟨_, rfl, Got.over g (by omega) hQ _⟩
 refine qbl (fun h => ?_) fun _ => ?_
 ·have hQ : QT s 6 w.1 := QT.of wn (by decide) (by decide)
  rw [qx0, hw, qx0, qx0]
  refine qbl (fun h => ?_) fun h => ⟨_, rfl, Got.leaf wa (Nat.lt_of_lt_of_le (Nat.lt_succ_self _) wl) hQ _⟩
  obtain ⟨q2, j2, hq2, qa2, ql2, _⟩ := qev hT hs wa [59]
  rw [hq2]; exact ⟨_, rfl, Got.leaf qa2 (by omega) hQ _⟩
 have four : ∀ (c d : Bool) (w : Str), ∃ r, (if c = true then if d = true then (Jw n q w).bind fun x => some ((⟨9, ([] : Str), x.1, t.Ad⟩ : No), x.2) else (Jw n q w).bind fun x => some ((⟨8, ([] : Str), x.1, t.Ad⟩ : No), x.2) else if d = true then (Jw n q w).bind fun x => some ((⟨9, ([] : Str), x.1, t.Ad⟩ : No), x.2) else (Jw n q w).bind fun x => some ((⟨7, ([] : Str), x.1, t.Ad⟩ : No), x.2)) = some r ∧ Got s l i 0 r := fun c d w =>
  qbl (fun _ => qbl (fun _ => Vn (by decide) (by decide)) fun _ => Vn (by decide) (by decide)) fun _ => qbl (fun _ => Vn (by decide) (by decide)) fun _ => Vn (by decide) (by decide)
 have two : ∀ c : Bool, ∃ r, (if c = true then (JF q ([59] : Str)).bind fun x => some ((⟨11, ([] : Str), [], t.Ad⟩ : No), x) else (JF q ([59] : Str)).bind fun x => some ((⟨10, ([] : Str), [], t.Ad⟩ : No), x)) = some r ∧ Got s l i 0 r := fun c =>
  qbl (fun _ => S (by decide) (by decide)) fun _ => S (by decide) (by decide)
 refine qbl (fun h => four _ _ _) fun _ => ?_
 refine qbl (fun h => four _ _ _) fun _ => ?_
 refine qbl (fun h => four _ _ _) fun _ => ?_
 refine qbl (fun h => two _) fun _ => ?_
 refine qbl (fun h => two _) fun _ => ?_
 obtain ⟨q, hq, qa, ql⟩ := qcn hT hA
 rw [hq]; exact ⟨_, rfl, Got.bad qa (Nat.le_refl _) ql (QT.nil s (by decide) (by decide)) _⟩
theorem qgk {n i0 : Nat} {f : Pr → Option (List No × Pr)} (hR : RecL s l (i0 + 1) f) (hn : l.length - i0 + 3 ≤ n) : ∀ (m : Nat) (y : List No) (p : Pr) (i : Nat), At l p i → i0 ≤ i → l.length - i < m → y.length ≤ i →
  ∃ r, JU f n m y p = some r ∧ ∃ z, r.1 = y ++ z ∧ VGot s l i (z, r.2)
 | 0, y, p, i, hA, hb, hm, hy => by omega
 | m + 1, y, p, i, hA, hb, hm, hy => by
  have hl := hT.len hs
  have hi := hA.i
  obtain ⟨t, ht, hp⟩ := qbv hA
  have stop : VGot s l i ([], p) := ⟨i, hA, Nat.le_refl _, fun x hx => (by cases hx), by show nszL [] + _ ≤ _; rw [nszL]; omega⟩
  rw [JU]
  unfold Jr
  have e : ∀ b : Bool, ((if b = true then (JE p).bind fun x8 => some (decide (x8.Ab ≠ 5)) else some false) : Option Bool) = some (b && decide (t.Ab ≠ 5)) := fun b => by
   rw [hp]; cases b <;> rfl
  have e2 : ∀ b : Bool, ((if b = true then (Jy p 4 ([125] : Str)).bind fun x14 => some (!x14) else some false) : Option Bool) = some (b && !(decide (t.Ab = 4) && decide (t.Ac = ([125] : Str)))) := fun b => by
   rw [qdm hp]; cases b <;> rfl
  rw [qx0, e, qx0, e2, qx0]
  refine qbl (fun h => ?_) fun _ => ⟨_, rfl, [], by simp, stop⟩
  simp only [Bool.and_eq_true, decide_eq_true_eq] at h
  obtain ⟨r, hr, j, g⟩ := qlx hT hs (n := n) hA (hR.up (by omega)) (by omega)
  have gl := g.le
  have gn := g.n
  rw [hr, qx0, qad (by simp only [lim, List.length_singleton]; omega)]
  by_cases hz : r.2.line = 0
  ·have go := g.ok hz
   obtain ⟨rr, e, z, ez, j2, a2, l2, m2, n2⟩ := qgk hR hn m (y ++ [r.1]) r.2 j g.a (by omega) (by omega) (by simp only [List.length_append, List.length_singleton]; omega)
   refine ⟨rr, e, r.1 :: z, by rw [ez]; simp, j2, a2, by omega, fun x hx => ?_, by show nszL (r.1 :: z) + _ ≤ _; rw [nszL]; simp only at n2; omega⟩
   rcases List.mem_cons.1 hx with rfl | hx
   ·exact g.t
   ·exact m2 x hx
  ·obtain ⟨m', rfl⟩ : ∃ m', m = m' + 1 := ⟨m - 1, by omega⟩
   rw [JU]
   unfold Jr
   rw [qx0, decide_eq_false hz, qx1 (by simp), qx0, qx1 (by simp), qx0, qx1 (by simp)]
   refine ⟨_, rfl, [r.1], rfl, j, g.a, gl, fun x hx => ?_, by show nszL [r.1] + _ ≤ _; rw [nszL, nszL]; omega⟩
   rw [List.mem_singleton] at hx; subst hx; exact g.t
theorem qgl : ∀ (n : Nat) (p : Pr) (i : Nat), At l p i → l.length - i + 4 ≤ n → ∃ r, JW n p = some r ∧ VGot s l i r
 | 0, p, i, hA, hn => by omega
 | n + 1, p, i, hA, hn => by
  have hR : RecL s l (i + 1) (JW n) := fun p' i' a h => qgl n p' i' a (by have := a.i; omega)
  have hi := hA.i
  obtain ⟨r, hr, z, ez, g⟩ := qgk hT hs (n := n) hR (by omega) n [] p i hA (Nat.le_refl _) (by omega) (by simp)
  rw [JW, hr, qx0]
  refine ⟨_, rfl, ?_⟩
  have : (r.1, r.2) = (z, r.2) := by rw [ez]; rfl
  rw [this]; exact g
end
structure Tree (s : Str) (y : No) : Prop where
 len : s.length ≤ 4096
 k : y.Ab = 1
 x : y.Ac = []
 t : nal (QT s) y
 z : nsz y ≤ 512
 d : ndp y ≤ 32
theorem qot {n : Nat} {s : Str} (hn : 30000 ≤ n) : ∃ r, JbU n s = some r ∧ (r.2.2 = none → Tree s r.1) ∧ r.2.2 ≠ some 0 := by
 obtain ⟨l, e, hl, h, hz0⟩ := qqk (n := n) (s := s) (by omega)
 unfold JbU
 rw [hl, qx0]
 cases e with
 | some e => rw [qx2 (show (l, some e).2.isSome = true from rfl)]; exact ⟨_, rfl, (fun e => by cases e), hz0⟩
 | none =>
  obtain ⟨hs, hT⟩ := h rfl
  have l1 := hT.len hs
  have l0 : 0 < l.length := by obtain ⟨_, _, a, e, rfl, _⟩ := hT; simp
  obtain ⟨r, hr, j, a, b, c, d⟩ := qgl hT hs n (⟨l, 0, 0⟩ : Pr) 0 ⟨rfl, rfl, l0⟩ (by omega)
  have ai := a.i
  have hz : nsz ⟨1, [], r.1, 1⟩ = nszL r.1 + 1 := nsz_eq _ _ _ _
  have hN : nal (QT s) ⟨1, [], r.1, 1⟩ := (qix _ _ _ _ _).2 ⟨QT.nil s (by decide) (by decide), c⟩
  obtain ⟨hD, hD2⟩ := qn7 n ⟨1, [], r.1, 1⟩ (by rw [hz]; omega) (by rw [hz]; omega)
  have hS := qql n ⟨1, [], r.1, 1⟩ (by rw [hz]; omega) (by rw [hz]; omega)
  have fin : ∃ z, ((Jbd n (⟨1, ([] : Str), r.1, 1⟩ : No)).bind fun x44 => (if decide (x44 > 512) = true then some true else (Ja3 n (⟨1, ([] : Str), r.1, 1⟩ : No)).bind fun x48 => some (decide (x48 > 32))).bind fun x50 => if x50 = true then some ((⟨0, ([] : Str), [], 0⟩ : No), (0 : Int), (some 5 : Err)) else some ((⟨1, ([] : Str), r.1, 1⟩ : No), 0, none)) = some z ∧ (z.2.2 = none → Tree s z.1) ∧ z.2.2 ≠ some 0 := by
   rw [hS, qx0]
   by_cases q : (nsz ⟨1, [], r.1, 1⟩ : Int) > 512
   ·rw [qx2 (by simpa using q), qx0, qx2 rfl]; exact ⟨_, rfl, (fun e => by cases e), by simp⟩
   ·rw [qx1 (by simpa using q), hD, qx0, qx0]
    refine qbl (fun h => ⟨_, rfl, (fun e => by cases e), by simp⟩) fun h => ⟨_, rfl, (fun _ => ⟨hs, rfl, rfl, hN, by show nsz ⟨1, [], r.1, 1⟩ ≤ _; omega, ?_⟩), by simp⟩
    have := of_decide_eq_false h
    show ndp ⟨1, [], r.1, 1⟩ ≤ _
    omega
  obtain ⟨t, ht, hp⟩ := qbv a
  rw [qx1 (by simp), hr, qx0]
  unfold Jr
  have e : ∀ b : Bool, ((if b = true then (JE r.2).bind fun x8 => some (decide (x8.Ab ≠ 5)) else some false) : Option Bool) = some (b && decide (t.Ab ≠ 5)) := fun b => by
   rw [hp]; cases b <;> rfl
  rw [qx0, e, qx0]
  refine qbl (fun h => ?_) fun h => ?_
  ·obtain ⟨q, hq, qa, ql⟩ := qcn hT a
   rw [hq, qx0, qx0]
   exact qbl (fun _ => ⟨_, rfl, (fun e => by cases e), by simp⟩) fun _ => fin
  ·rw [qx0]
   exact qbl (fun _ => ⟨_, rfl, (fun e => by cases e), by simp⟩) fun _ => fin
abbrev Fd := Jc
structure FOK (k : Nat) (f : List Fd) : Prop where
 n : f.length ≤ k
 b : ∀ x ∈ f, x.Name.length ≤ 10000 ∧ x.Value.length ≤ 10000
theorem FOK.filter {k : Nat} {f : List Fd} (h : FOK k f) (p : Fd → Bool) : FOK k (f.filter p) := ⟨Nat.le_trans (List.length_filter_le _ _) h.n, fun x hx => h.b x (List.mem_filter.1 hx).1⟩
theorem qs6 : ∀ (f : List Fd) (i : Nat) (y : Int), ∃ t, JbF f i y = some t
 | [], i, y => ⟨_, rfl⟩
 | x :: f, i, y => qs6 f (i + 1) _
theorem qs7 : ∀ (f : List Jt) (i : Nat) (y : Int), ∃ t, JbG f i y = some t
 | [], i, y => ⟨_, rfl⟩
 | x :: f, i, y => qs7 f (i + 1) _
def fsm : List Fd → Nat
 | [] => 0
 | x :: f => x.Name.length + x.Value.length + fsm f
theorem qs8 : ∀ (f : List Fd) (i : Nat) (y : Int), (∀ x ∈ f, x.Name.length ≤ qa1 ∧ x.Value.length ≤ qa1) → 0 ≤ y → y + 281474976702464 * f.length ≤ 4611686018427387904 → ∃ t, JbF f i y = some t ∧ t = y + (fsm f : Int) ∧ t ≤ y + 281474976702464 * f.length ∧ ∀ x ∈ f, (x.Name.length : Int) + x.Value.length ≤ t - y
 | [], i, y, _, _, _ => ⟨_, rfl, by simp [fsm], by simp, fun x hx => by cases hx⟩
 | x :: f, i, y, h, h0, h1 => by
  have hx := h x (by simp)
  simp only [qa1, List.length_cons] at hx h1 ⊢
  have e : IntKind.i64.wrap (y + IntKind.i64.wrap ((x.Name.length : Int) + (x.Value.length : Int))) = y + ((x.Name.length : Int) + (x.Value.length : Int)) := by
   rw [qdq (show InK .i64 ((x.Name.length : Int) + (x.Value.length : Int)) by simp only [InK]; omega), qdq (by simp only [InK]; omega)]
  obtain ⟨t, t1, t2, t3, t4⟩ := qs8 f (i + 1) (y + ((x.Name.length : Int) + (x.Value.length : Int))) (fun z hz => h z (by simp [hz])) (by omega) (by omega)
  refine ⟨t, by rw [JbF, e, t1], by rw [fsm]; omega, by omega, fun z hz => ?_⟩
  rcases List.mem_cons.1 hz with rfl | hz
  ·omega
  ·have := t4 z hz; omega
theorem qs9 : ∀ (f : List Jt) (i : Nat) (y : Int), (∀ x ∈ f, x.An.length ≤ qa1 ∧ x.Program.length ≤ qa1) → 0 ≤ y → y + 281474976702464 * f.length ≤ 4611686018427387904 → ∃ t, JbG f i y = some t ∧ y ≤ t ∧ ∀ x ∈ f, (x.An.length : Int) + x.Program.length ≤ t - y
 | [], i, y, _, _, _ => ⟨_, rfl, Int.le_refl _, fun x hx => by cases hx⟩
 | x :: f, i, y, h, h0, h1 => by
  have hx := h x (by simp)
  simp only [qa1, List.length_cons] at hx h1
  have e : IntKind.i64.wrap (y + IntKind.i64.wrap ((x.An.length : Int) + (x.Program.length : Int))) = y + ((x.An.length : Int) + (x.Program.length : Int)) := by
   rw [qdq (show InK .i64 ((x.An.length : Int) + (x.Program.length : Int)) by simp only [InK]; omega), qdq (by simp only [InK]; omega)]
  obtain ⟨t, t1, t2, t4⟩ := qs9 f (i + 1) (y + ((x.An.length : Int) + (x.Program.length : Int))) (fun z hz => h z (by simp [hz])) (by omega) (by omega)
  refine ⟨t, by rw [JbG, e, t1], by omega, fun z hz => ?_⟩
  rcases List.mem_cons.1 hz with rfl | hz
  ·omega
  ·have := t4 z hz; omega
structure Small (l : List Jt) (r : Jal) : Prop where
 t : r.Target.length ≤ 8000
 f : FOK 40 r.Ao
 n : l.length ≤ 8
 s : ∀ x ∈ l, x.An.length ≤ 8000 ∧ x.Program.length ≤ 8000
 w : fsm r.Ao ≤ 8000
theorem qv1 {l : List Jt} {r : Jal} (hl : l.length ≤ qa1) (hl2 : ∀ x ∈ l, x.An.length ≤ qa1 ∧ x.Program.length ≤ qa1) (hr : r.Target.length ≤ qa1 ∧ r.Ao.length ≤ qa1 ∧ ∀ x ∈ r.Ao, x.Name.length ≤ qa1 ∧ x.Value.length ≤ qa1) : ∃ b, Jda l r = some b ∧ (b = false → Small l r) := by
 obtain ⟨ht, hf, hf2⟩ := hr
 unfold Jda
 obtain ⟨t0, h0⟩ := qs6 r.Ao 0 (r.Target.length : Int)
 obtain ⟨t2, h2⟩ := qs7 l 0 t0
 rw [qad hf, h0, qx0, qad hl, h2, qx0]
 refine ⟨_, rfl, fun hb => ?_⟩
 simp only [Bool.or_eq_false_iff, decide_eq_false_iff_not] at hb
 obtain ⟨⟨b1, b2⟩, b3⟩ := hb
 have ht' := ht
 simp only [qa1] at ht'
 obtain ⟨u0, v0, v1, v2, v3⟩ := qs8 r.Ao 0 (r.Target.length : Int) hf2 (by omega) (by omega)
 have e0 : u0 = t0 := by rw [h0] at v0; exact (Option.some.inj v0).symm
 subst e0
 obtain ⟨u2, w0, w1, w2⟩ := qs9 l 0 u0 hl2 (by omega) (by omega)
 have e2 : u2 = t2 := by rw [h2] at w0; exact (Option.some.inj w0).symm
 subst e2
 exact ⟨by omega, ⟨by omega, fun x hx => by have := v3 x hx; omega⟩, by omega, fun x hx => by have := w2 x hx; omega, by omega⟩
end Tn
open Go Go.SL Go.Proofs Pl Vary Rt Rt.Rv
namespace Tn
theorem qqu {s : Str} (hs : s.length ≤ 4096) : ∀ (d : Nat) (x : No), ndp x ≤ d → nal (QT s) x → nsz x ≤ 600 → Rt.Ok d x ∧ Rt.cnt d x = nsz x
 | 0, x, hd, _, _ => by have := qug x; omega
 | d + 1, ⟨k, t, kids, ln⟩, hd, ht, hn => by
  rw [ndp_eq] at hd
  rw [nsz_eq] at hn ⊢
  obtain ⟨h1, h2⟩ := (qix _ _ _ _ _).1 ht
  have hl := qhs kids
  have key : ∀ y ∈ kids, Rt.Ok d y ∧ Rt.cnt d y = nsz y := fun y hy => qqu hs d y (by have := qn6 hy; omega) (h2 y hy) (by have := qn5 hy; omega)
  have e : ∀ l : List No, (∀ y ∈ l, Rt.cnt d y = nsz y) → (l.map (Rt.cnt d)).sum = nszL l := by
   intro l
   induction l with
   | nil => intro _; rfl
   | cons a l ih => intro h; rw [List.map_cons, List.sum_cons, nszL, h a (by simp), ih fun y hy => h y (by simp [hy])]
  refine ⟨⟨by have := h1.1; show t.length ≤ 4200; omega, by show kids.length ≤ 700; omega, fun y hy => (key y hy).1⟩, ?_⟩
  show 1 + (kids.map (Rt.cnt d)).sum = _
  rw [e kids fun y hy => (key y hy).2]; omega
theorem Tree.ok {s : Str} {y : No} (h : Tree s y) : Rt.Ok 40 y ∧ Rt.cntL 39 y.Aa ≤ 600 := by
 obtain ⟨a, b⟩ := qqu h.len 40 y (by have := h.d; omega) h.t (by have := h.z; omega)
 have hz := h.z
 rw [Rt.cnt_eq] at b
 exact ⟨a, by omega⟩
theorem kidsE_e {f : No → Except qc9 Int} (hf : ∀ k e, f k = .error e → e.2 ≠ 0) : ∀ (l : List No) e, kidsE f l = .error e → e.2 ≠ 0
 | [], e, h => by cases h
 | k :: l, e, h => by
  rw [kidsE] at h
  cases q : f k with
  | error e2 => rw [q] at h; cases h; exact hf k _ q
  | ok t =>
   rw [q] at h
   simp only at h
   cases q2 : kidsE f l with
   | error e => rw [q2] at h; cases h; exact kidsE_e hf l _ q2
   | ok us => rw [q2] at h; cases h
theorem qw4 {ρ : Env} {x : No} {ts : List Int} {e : qc9} (h : tyN ρ x ts = .error e) : e.2 ≠ 0 := by
 unfold tyN at h
 repeat' split at h
 all_goals first | (cases h; simp; done) | cases h
theorem tyE_e : ∀ (d : Nat) (ρ : Env) (x : No) e, tyE d ρ x = .error e → e.2 ≠ 0
 | 0, ρ, x, e, h => by cases h; decide
 | d + 1, ρ, x, e, h => by
  rw [tyE] at h
  cases q : kidsE (tyE d ρ) x.Aa with
  | error e2 => rw [q] at h; cases h; exact kidsE_e (fun k e => tyE_e d ρ k e) _ _ q
  | ok ts => rw [q] at h; exact qw4 h
theorem qkq {g : Env → No → Except qc9 Env} (hg : ∀ ρ k e, g ρ k = .error e → e.2 ≠ 0) : ∀ (l : List No) (ρ : Env) e, foldS g ρ l = .error e → e.2 ≠ 0
 | [], ρ, e, h => by cases h
 | k :: l, ρ, e, h => by
  rw [foldS] at h
  cases q : g ρ k with
  | error e2 => rw [q] at h; cases h; exact hg ρ k _ q
  | ok r => rw [q] at h; exact qkq hg l r e h
theorem brs_e {g : No → Except qc9 Env} (hg : ∀ k e, g k = .error e → e.2 ≠ 0) : ∀ (l : List No) e, brs g l = some e → e.2 ≠ 0
 | [], e, h => by cases h
 | k :: l, e, h => by
  rw [brs] at h
  cases q : g k with
  | error e2 => rw [q] at h; cases h; exact hg k _ q
  | ok r => rw [q] at h; exact brs_e hg l e h
theorem quk : ∀ (d : Nat) (ρ : Env) (x : No) e, stm d ρ x = .error e → e.2 ≠ 0
 | 0, ρ, x, e, h => by cases h; decide
 | d + 1, ρ, x, e, h => by
  rw [stm] at h
  split at h
  ·cases h
  ·rename_i k0 ks _
   cases q : tyE d ρ k0 with
   | error e2 => rw [q] at h; cases h; exact tyE_e d ρ k0 _ q
   | ok t =>
    rw [q] at h
    simp only at h
    split at h
    ·cases h; simp
    ·split at h
     ·split at h
      ·cases h
      ·cases h; simp
     ·split at h
      ·cases q2 : brs (fun k => foldS (stm d) ρ (brn k)) ks with
       | some e2 => rw [q2] at h; cases h; exact brs_e (fun k e he => qkq (fun r k e => quk d r k e) _ _ e he) _ _ q2
       | none => rw [q2] at h; cases h
      ·cases h
theorem qv2 (d : Nat) (ys : List No) : (chkR d ys).2 ≠ some 0 := by
 unfold chkR
 cases q : foldS (stm d) base ys with
 | ok r => simp
 | error e => simpa using qkq (quk d) ys base e q
noncomputable def tnum (n : Nat) (s : Str) : Option Int :=
 (JbU n s).bind fun x67 =>
 if x67.2.2.isSome then
 (Jct x67.2.2).bind fun x74 =>
 some x74
 else
 (Jbp n x67.1).bind fun x77 =>
 if x77.2.isSome then
 (Jct x77.2).bind fun x83 =>
 some x83
 else
 (JaT n x67.1).bind fun x86 =>
 if x86.2.isSome then
 (Jct x86.2).bind fun x92 =>
 some x92
 else
 (Jba n x67.1).bind fun x95 =>
 if x95.2.isSome then
 (Jct x95.2).bind fun x101 =>
 some x101
 else
 if decide (x95.1 > 10000) then
 some 5
 else
 some 0
theorem qht (e : Int) : Jct (some e) = some e := by
 unfold Jct; rfl
theorem tnum_eq {n : Nat} {s : Str} (hn : 2000100 ≤ n) : (∃ e, qb0 n s = some ([], some e) ∧ tnum n s = some e ∧ e ≠ 0) ∨ ∃ c, qb0 n s = some (c, none) ∧ tnum n s = some 0 := by
 obtain ⟨⟨y, k, e⟩, hp, ht, h0⟩ := qot (n := n) (s := s) (by omega)
 unfold tnum qb0
 rw [hp, qx0, qx0]
 cases e with
 | some e => left; rw [qx2 (by rfl), qx2 (by rfl), qht]; exact ⟨e, rfl, rfl, fun h => h0 (by rw [h])⟩
 | none =>
  have hT : Tree s y := ht rfl
  obtain ⟨hok, hc⟩ := hT.ok
  obtain ⟨b, b2⟩ := qki (n := n) hok (by omega)
  have hC := qe2 (d := 39) (n := n) hok (by omega) (by omega) b2
  obtain ⟨⟨w, ew⟩, hw⟩ := qos (n := n) hok hn (by omega)
  have hr0 : (if b = true then chkR 39 y.Aa else (0, some 2)).2 ≠ some 0 := by
   split
   ·exact qv2 _ _
   ·simp
  generalize hr : (if b = true then chkR 39 y.Aa else (0, some 2)) = r at hC hr0
  obtain ⟨r1, e1⟩ := r
  rw [qx1 (by simp), qx1 (by simp), hC, qx0, qx0]
  cases e1 with
  | some e1 => left; rw [qx2 (by rfl), qx2 (by rfl), qht]; exact ⟨e1, rfl, rfl, fun h => hr0 (by rw [h])⟩
  | none =>
   rw [qx1 (by simp), qx1 (by simp)]
   have hC2 : ∃ c e2, JaT n y = some (c, e2) ∧ e2 ≠ some 0 ∧ (e2 ≠ none → c = []) := by
    rcases compile_cases hok hn (by omega) with ⟨e2, h2⟩ | ⟨ρ, hP, hv, h2⟩
    ·refine ⟨_, _, h2, ?_, fun _ => rfl⟩
     have hK := Rc.Compile_pure (n := n) (d := 39) hok (by omega) (by omega) (by omega) b2
     rw [h2] at hK
     intro h
     have he2 : e2 = 0 := by simpa using h
     subst he2
     cases b with
     | false => rw [qx1 (by simp)] at hK; simp at hK
     | true =>
      rw [qx2 rfl] at hK
      cases q : foldS (stm 39) base y.Aa with
      | error e =>
       rw [q] at hK
       simp only [Option.some.injEq, Prod.mk.injEq, true_and] at hK
       exact qkq (quk 39) _ _ _ q hK.symm
      | ok ρ =>
       rw [q] at hK
       dsimp only at hK
       by_cases q2 : (Rc.prog 39 y.Aa).length ≤ 2048
       ·rw [qx2 q2] at hK; simp at hK
       ·rw [qx1 q2] at hK; simp at hK
    ·exact ⟨_, _, h2, by simp, fun h => absurd rfl h⟩
   obtain ⟨c, e2, h2, h20, h2c⟩ := hC2
   rw [h2, qx0, qx0]
   cases e2 with
   | some e2 => left; rw [qx2 (by rfl), qx2 (by rfl), qht]; exact ⟨e2, rfl, rfl, fun h => h20 (by rw [h])⟩
   | none =>
    rw [qx1 (by simp), qx1 (by simp)]
    have hW : Jba n y = some (w, none) := by
     rcases compile_cases hok hn (by omega) with ⟨e3, h3⟩ | ⟨ρ, hP, hv, h3⟩
     ·rw [h3] at h2; cases h2
     ·have := qr7 hP hok hn hv
      rw [hw] at this ⊢; cases this; rfl
    have hz : ¬ ((w, (none : Err)).2.isSome = true) := by simp
    rw [hW, qx0, qx0, qx1 hz, qx1 hz]
    by_cases q : w > 10000
    ·rw [qx2 (by simpa using q), qx2 (by simpa using q)]; exact .inl ⟨5, rfl, rfl, by decide⟩
    ·rw [qx1 (by simpa using q), qx1 (by simpa using q)]; exact .inr ⟨c, rfl, rfl⟩
end Tn
