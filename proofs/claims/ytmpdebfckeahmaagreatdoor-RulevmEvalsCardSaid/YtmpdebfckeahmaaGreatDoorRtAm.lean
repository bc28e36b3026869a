import Derived.Test.YtmpdebfckeahmaaGreatDoorRtAll
set_option linter.unusedVariables false
set_option linter.unusedSimpArgs false
open Go Go.SL Go.Proofs Pl
namespace Rt.Rc
abbrev AS := Option (Int × (Int → Bool))
abbrev AB := Nat → AS
def qps (a : AS) (d : Int) (σ : Int → Bool) : Option AS := match a with
 | none => some (some (d, σ))
 | some (d0, σ0) => if d0 = d then some (some (d0, fun n => σ0 n && σ n)) else none
def qwv (B : AB) (i : Nat) (a : AS) : AB := fun j => if j = i then a else B j
def nxt (x : I) (σ : Int → Bool) : Int → Bool := if x.Op = 4 then (fun n => decide (n = x.N) || σ n) else σ
def far (len i : Nat) (x : I) (B : AB) (d : Int) (σ : Int → Bool) : Option AB :=
 if isJ x = true then (if x.N ≤ i ∨ x.N ≥ len then none else (qps (B x.N.toNat) d σ).map fun a => qwv B x.N.toNat a) else some B
def qy2 (i : Nat) (x : I) (B : AB) (d : Int) (σ : Int → Bool) : Option AB :=
 if x.Op = 9 then some B else (qps (B (i + 1)) d σ).map fun a => qwv B (i + 1) a
def stA (len i : Nat) (x : I) (B : AB) (g : Int) : Option (AB × Int) :=
 match eff x, B i with
 | some (t, l), some (d, σ) =>
  if d < t ∨ ¬ ((x.Op = 12) ↔ (i + 1 = len)) ∨ (x.Op = 3 ∧ σ x.N = false) then none
  else if x.Op = 12 then (if d = 0 then some (B, max (max g d) (d + (l - t))) else none)
  else (far len i x B (d + (l - t)) (nxt x σ)).bind fun B1 => (qy2 i x B1 (d + (l - t)) (nxt x σ)).map fun B2 => (B2, max (max g d) (d + (l - t)))
 | _, _ => none
def wk (len : Nat) : Nat → List I → AB → Int → Option Int
 | _, [], _, g => some g
 | i, x :: l, B, g => (stA len i x B g).bind fun r => wk len (i + 1) l r.1 r.2
def Asc (l : List Int) : Prop := l.Pairwise (· < ·)
def wth (n : Int) : List Int → List Int
 | [] => [n]
 | e :: l => if n < e then n :: e :: l else if n = e then e :: l else e :: wth n l
theorem wth_mem {n m : Int} : ∀ {l : List Int}, m ∈ wth n l ↔ m = n ∨ m ∈ l
 | [] => by simp [wth]
 | e :: l => by
  rw [wth]
  split
  ·simp
  ·split
   ·rename_i h; subst h; simp
   ·rw [List.mem_cons, wth_mem, List.mem_cons]
    constructor
    ·rintro (h | h | h)
     ·exact .inr (.inl h)
     ·exact .inl h
     ·exact .inr (.inr h)
    ·rintro (h | h | h)
     ·exact .inr (.inl h)
     ·exact .inl h
     ·exact .inr (.inr h)
theorem qpt {n : Int} : ∀ {l : List Int}, Asc l → Asc (wth n l)
 | [], _ => by simp [wth, Asc]
 | e :: l, h => by
  obtain ⟨h1, h2⟩ := List.pairwise_cons.1 h
  rw [wth]
  split
  ·rename_i hn
   refine List.pairwise_cons.2 ⟨fun m hm => ?_, h⟩
   rcases List.mem_cons.1 hm with rfl | hm
   ·exact hn
   ·have := h1 m hm; omega
  ·split
   ·exact h
   ·refine List.pairwise_cons.2 ⟨fun m hm => ?_, qpt h2⟩
    rcases wth_mem.1 hm with rfl | hm
    ·omega
    ·exact h1 m hm
structure SL (l : List Int) (σ : Int → Bool) : Prop where
 asc : Asc l
 rng : ∀ n ∈ l, 0 ≤ n ∧ n ≤ 511
 mem : ∀ n : Int, 0 ≤ n → n ≤ 511 → (n ∈ l ↔ σ n = true)
theorem SL.with {x : I} {l : List Int} {σ : Int → Bool} (h : SL l σ) (q : x.Op = 4) (hx : 0 ≤ x.N ∧ x.N ≤ 511) : SL (wth x.N l) (nxt x σ) :=
 ⟨qpt h.asc, fun n hn => by rcases wth_mem.1 hn with rfl | hn; exact hx; exact h.rng n hn, fun n h0 h1 => by
  unfold nxt
  rw [qzv q, wth_mem, h.mem n h0 h1]; simp⟩
abbrev St := Int → Bool
def cap (a b : St) : St := fun n => a n && b n
def Sg1 (len b : Nat) (L : List I) (d δ : Int) (σ : St) (Q : St → Prop) : Prop :=
 ∀ (B : AB) (g : Int), B b = some (d, σ) → (∀ j, b < j → j < b + L.length → B j = none) → (∀ e, B (b + L.length) = some e → e.1 = d + δ) →
  ∃ σ' B' g', Q σ' ∧ (∀ R, wk len b (L ++ R) B g = wk len (b + L.length) R B' g') ∧ qps (B (b + L.length)) (d + δ) σ' = some (B' (b + L.length)) ∧ ∀ j, b + L.length < j → B' j = B j
def Seg (len b : Nat) (L : List I) (d δ : Int) (σ : St) (Q : St → Prop) : Prop := (L = [] ∧ δ = 0 ∧ Q σ) ∨ (L ≠ [] ∧ Sg1 len b L d δ σ Q)
theorem Seg.mono {len b : Nat} {L : List I} {d δ : Int} {σ : St} {Q R : St → Prop} (h : Seg len b L d δ σ Q) (hq : ∀ τ, Q τ → R τ) : Seg len b L d δ σ R := by
 rcases h with ⟨h1, h2, h3⟩ | ⟨h1, h2⟩
 ·exact .inl ⟨h1, h2, hq _ h3⟩
 ·exact .inr ⟨h1, fun B g a b c => by obtain ⟨σ', B', g', k, r⟩ := h2 B g a b c; exact ⟨σ', B', g', hq _ k, r⟩⟩
theorem Seg.run {len b : Nat} {L : List I} {d δ : Int} {σ : St} {Q : St → Prop} (h : Seg len b L d δ σ Q) {B : AB} {g : Int} (hB : B b = some (d, σ)) (hn : ∀ j, b < j → j ≤ b + L.length → B j = none) :
  ∃ σ' B' g', Q σ' ∧ (∀ R, wk len b (L ++ R) B g = wk len (b + L.length) R B' g') ∧ B' (b + L.length) = some (d + δ, σ') ∧ ∀ j, b + L.length < j → B' j = B j := by
 rcases h with ⟨rfl, rfl, h3⟩ | ⟨h1, h2⟩
 ·exact ⟨σ, B, g, h3, fun R => rfl, by simpa using hB, fun j _ => rfl⟩
 ·have hl : 0 < L.length := List.length_pos_iff.2 h1
  have he : B (b + L.length) = none := hn _ (by omega) (Nat.le_refl _)
  obtain ⟨σ', B', g', k1, k2, k3, k4⟩ := h2 B g hB (fun j a b => hn j a (by omega)) fun e h => by rw [he] at h; cases h
  rw [he] at k3
  exact ⟨σ', B', g', k1, k2, (Option.some.inj k3).symm, k4⟩
def Rel (ρ : Env) (s : Sg) (σ : St) : Prop := (∀ q k, s q = some k → 0 ≤ k ∧ k ≤ 511 ∧ σ k = true) ∧ ∀ q, s q = none → ρ q ≠ 0 → q ∈ Jaa
theorem Rel.mono {ρ : Env} {s : Sg} {σ τ : St} (h : Rel ρ s σ) (hs : ∀ n, σ n = true → τ n = true) : Rel ρ s τ :=
 ⟨fun q k e => by obtain ⟨a, b, c⟩ := h.1 q k e; exact ⟨a, b, hs _ c⟩, h.2⟩
theorem qu7 {s : Str} (h : base s ≠ 0) : s ∈ Jaa := by
 unfold base pre at h
 split at h
 ·rename_i q
  unfold Jaa
  simp only [Bool.or_eq_true, decide_eq_true_eq] at q
  rcases q with ((q | q) | q) | q <;> subst q <;> simp
 ·exact absurd rfl h
theorem Rel.nil : Rel Rt.base (fun _ => none) (fun _ => false) := ⟨fun q k e => (by cases e), fun q _ h => qu7 h⟩
theorem qth (p s : Str) : hp (p ++ s) p = true := by simp [hp]
theorem acs_eff {x : M} (h : SF x) (h2 : x.Ab ≠ 2) (h3 : x.Ab ≠ 3) : ∃ w, acs x = [⟨11, 0, w⟩] ∧ eff ⟨11, 0, w⟩ = some ((x.Aa.length : Int), 0) := by
 have go : ∀ w k, acw x = some w → actK w = some k → k = (x.Aa.length : Int) → ∃ w, acs x = [⟨11, 0, w⟩] ∧ eff ⟨11, 0, w⟩ = some ((x.Aa.length : Int), 0) := fun w k h1 h2 h3 => by
  subst h3
  refine ⟨w, by unfold acs; rw [h1], ?_⟩
  simp [eff, h2]
 rcases h with q | ⟨q, _⟩ | ⟨q, l, t⟩ | ⟨q, l, t⟩ | ⟨q, l, t⟩ | ⟨q, l⟩ | ⟨q, l⟩
 ·exact absurd q h2
 ·exact absurd q h3
 ·rcases t with t | t
  ·exact go _ 1 (by unfold acw; rw [qzv q, t]) (by decide) (by rw [l]; rfl)
  ·exact go _ 1 (by unfold acw; rw [qzv q, t]) (by decide) (by rw [l]; rfl)
 ·refine go (sHeader ++ x.Ac) 1 (by unfold acw; rw [qzu (by omega), qzv q]; rfl) ?_ (by rw [l]; rfl)
  have h0 := qth sHeader x.Ac
  unfold actK
  rw [qzu (fun m => ?_), qzu (qjz h0), qzv h0, qh6, t, qzv (by decide)]
  ·revert m
   unfold acts1 sHeader
   simp
 ·refine go (sVary ++ x.Ac) 0 (by unfold acw; rw [qzu (by omega), qzu (by omega), qzv q]; rfl) ?_ (by rw [l]; rfl)
  have h0 := qth sVary x.Ac
  have h1 := qwt _ h0
  unfold actK
  rw [qzu (qwu h0), qzu (fun m => ?_), qzu (by rw [h1]; simp), h0, qh6, t, qzv (by decide)]
  ·revert m
   unfold acts0 sVary
   simp
 ·rcases q with q | q | q
  ·exact go [116, 97, 103] 1 (by unfold acw; rw [qzu (by omega), qzu (by omega), qzu (by omega), qzv q]) (by decide) (by rw [l]; rfl)
  ·exact go [116, 116, 108] 1 (by unfold acw; rw [qzu (by omega), qzu (by omega), qzu (by omega), qzu (by omega), qzv q]) (by decide) (by rw [l]; rfl)
  ·exact go [100, 101, 110, 121] 1 (by unfold acw; rw [qzu (by omega), qzu (by omega), qzu (by omega), qzu (by omega), qzu (by omega), qzv q]) (by decide) (by rw [l]; rfl)
 ·rcases q with q | q
  ·exact go [112, 97, 115, 115] 0 (by unfold acw; rw [qzu (by omega), qzu (by omega), qzu (by omega), qzu (by omega), qzu (by omega), qzu (by omega), qzv q]) (by decide) (by rw [l]; rfl)
  ·exact go [116, 111, 107, 101, 110] 0 (by unfold acw; rw [qzu (by omega), qzu (by omega), qzu (by omega), qzu (by omega), qzu (by omega), qzu (by omega), qzu (by omega), qzv q]) (by decide) (by rw [l]; rfl)
theorem acs_S {x : M} (h : x.Ac.length ≤ 3000) : ∀ i ∈ acs x, i.S.length ≤ 100000 := by
 intro i hi
 unfold acs acw at hi
 split at hi
 ·rename_i w hw
  simp only [List.mem_singleton] at hi
  subst hi
  show w.length ≤ 100000
  have go : ∀ v : Str, some v = some w → v.length ≤ 100000 → w.length ≤ 100000 := fun v e h => by cases e; exact h
  repeat' split at hw
  all_goals first | exact go _ hw (by simp only [List.length_append, List.length_cons, List.length_nil]; omega) | exact go _ hw (by omega) | cases hw
 ·cases hi
end Rt.Rc
namespace Vary
abbrev RF := Jc
abbrev FF := Je
def lowB (c : UInt8) : UInt8 := if (decide ((c.toNat : Int) ≥ 65) && decide ((c.toNat : Int) ≤ 90)) then c + 32 else c
def low (s : Str) : Str := s.map lowB
theorem qti {α : Type} (p r : List α) (c : α) : ix (p ++ c :: r) (p.length : Int) = some c := by
 unfold ix
 rw [qzv (by omega)]
 simp
theorem qpu {α : Type} (p r : List α) (c v : α) : (p ++ c :: r).set (((p.length : Nat) : Int).toNat) v = (p ++ [v]) ++ r := by
 simp [List.set_append]
theorem qj0 : ∀ (r p : Str), Ja8 r.length p.length (p ++ r) = some (p ++ low r)
 | [], p => by simp [Ja8, low]
 | c :: r, p => by
  rw [List.length_cons, Ja8, qti, qzt]
  have ih := qj0 r (p ++ [lowB c])
  simp only [List.length_append, List.length_cons, List.length_nil, Nat.zero_add] at ih
  have e : p ++ low (c :: r) = p ++ [lowB c] ++ low r := by simp [low]
  split
  ·rename_i h
   rw [qzt, qpu, e]
   rw [show c + 32 = lowB c from by unfold lowB; rw [qzv h]]
   exact ih
  ·rename_i h
   rw [e, show p ++ c :: r = p ++ [lowB c] ++ r from by unfold lowB; rw [qzu h]; simp]
   exact ih
theorem qj1 {s : Str} (h : s.length ≤ 1073741824) : Jcd s = some (low s) := by
 unfold Jcd
 rw [qab (by simp only [lim]; omega), qab (by constructor <;> omega)]
 have := qj0 s []
 simp only [List.nil_append, List.length_nil] at this
 rw [show ((s.length : Int)).toNat = s.length from by omega, this]; rfl
theorem qj2 : ∀ (s : Str) (i : Nat) (y : Str), y.length + s.length ≤ 1073741824 → Jbb s i y = some (y ++ low s)
 | [], i, y, h => by simp [Jbb, low]
 | c :: r, i, y, h => by
  simp only [List.length_cons] at h
  have ih := qj2 r (i + 1) (y ++ [lowB c]) (by simp <;> omega)
  have e : y ++ low (c :: r) = y ++ [lowB c] ++ low r := by simp [low]
  rw [Jbb, e, ← ih]
  split
  ·rename_i k
   rw [qab (by simp only [lim, List.length_cons, List.length_nil]; omega)]
   rw [show c + 32 = lowB c from by unfold lowB; rw [qzv k]]
  ·rename_i k
   rw [qab (by simp only [lim, List.length_cons, List.length_nil]; omega)]
   rw [show lowB c = c from by unfold lowB; rw [qzu k]]
theorem qg7 {s : Str} (h : s.length ≤ 536870912) : Jci s = some (low s) := by
 unfold Jci
 rw [qab (by simp only [qax]; omega), qj2 s 0 [] (by simp <;> omega)]; rfl
def ffs (f : List RF) : List FF := f.map fun x => ⟨x.Name, x.Value⟩
def vals (f : List RF) (n : Str) : List Str := (f.filter fun x => decide (low x.Name = low n)).map (·.Value)
def tot (f : List RF) : Nat := (f.map fun x => x.Name.length + x.Value.length + 2).sum
theorem qe3 (x : RF) (f : List RF) : tot (x :: f) = x.Name.length + x.Value.length + 2 + tot f := by simp [tot]
theorem qg8 : ∀ (f : List RF), f.length ≤ tot f
 | [] => Nat.zero_le _
 | x :: f => by have := qg8 f; rw [qe3, List.length_cons]; omega
theorem qg9 (x : RF) (f : List RF) (n : Str) : vals (x :: f) n = (if decide (low x.Name = low n) then [x.Value] else []) ++ vals f n := by
 unfold vals
 by_cases h : low x.Name = low n
 ·simp [h]
 ·simp [h]
theorem qpv {n : Str} : ∀ (f : List RF) (i : Nat) (y : List Str), tot f ≤ 1000000 → y.length + f.length ≤ 1073741824 → Jbs (low n) (ffs f) i y = some (y ++ vals f n)
 | [], i, y, _, _ => by simp [ffs, Jbs, vals]
 | x :: f, i, y, h, hy => by
  rw [qe3] at h
  simp only [List.length_cons] at hy
  have ih := qpv (n := n) f (i + 1) (y ++ (if decide (low x.Name = low n) then [x.Value] else [])) (by omega) (by split <;> simp <;> omega)
  rw [List.append_assoc, ← qg9] at ih
  rw [← ih]
  show Jbs (low n) (⟨x.Name, x.Value⟩ :: ffs f) i y = _
  rw [Jbs, qj1 (by show x.Name.length ≤ _; omega), qzt]
  by_cases k : low x.Name = low n
  ·rw [qzv (by simpa using k), qzv (by simpa using k), qab (by simp only [lim, List.length_cons, List.length_nil]; omega)]
  ·rw [qzu (by simpa using k), qzu (by simpa using k), List.append_nil]
theorem qzl {f : List RF} {n : Str} (h : tot f ≤ 1000000) (hn : n.length ≤ 1000000) : Jeq (ffs f) n = some (vals f n) := by
 have := qg8 f
 unfold Jeq
 rw [qj1 (by omega), qzt, qab (by simp only [ffs, List.length_map, qax]; omega), qpv f 0 [] h (by simp <;> omega)]; rfl
theorem qpw {n : Str} (hn : n.length ≤ 1000000) : ∀ (f : List RF) (i : Nat) (y : List Str), tot f ≤ 1000000 → y.length + f.length ≤ 1073741824 → JbS n f i y = some (y ++ vals f n)
 | [], i, y, _, _ => by simp [JbS, vals]
 | x :: f, i, y, h, hy => by
  rw [qe3] at h
  simp only [List.length_cons] at hy
  have ih := qpw hn f (i + 1) (y ++ (if decide (low x.Name = low n) then [x.Value] else [])) (by omega) (by split <;> simp <;> omega)
  rw [List.append_assoc, ← qg9] at ih
  rw [← ih, JbS]
  unfold JdQ
  rw [qg7 (by omega), qzt, qg7 (by omega), qzt, qzt]
  by_cases k : low x.Name = low n
  ·rw [qzv (by simpa using k), qzv (by simpa using k), qab (by simp only [lim, List.length_cons, List.length_nil]; omega)]
  ·rw [qzu (by simpa using k), qzu (by simpa using k), List.append_nil]
theorem qzm {f : List RF} {n : Str} (h : tot f ≤ 1000000) (hn : n.length ≤ 1000000) : Jez f n = some (vals f n) := by
 have := qg8 f
 unfold Jez
 rw [qab (by simp only [qax]; omega), qpw hn f 0 [] h (by simp <;> omega)]; rfl
def isB (c : UInt8) : Bool := decide ((c.toNat : Int) = 32) || decide ((c.toNat : Int) = 9)
def cl (c : UInt8) : UInt8 := if (decide ((c.toNat : Int) < 32) || decide ((c.toNat : Int) = 127)) then 63 else c
def rel (y : Str) (b : Bool) : Str := if (b && decide ((y.length : Int) > 0)) then y ++ [32] else y
def nst (p : Str × Bool) (c : UInt8) : Str × Bool := if isB c then (p.1, true) else (rel p.1 p.2 ++ [cl c], false)
def qzn (s : Str) : Str := (s.foldl nst ([], false)).1
structure Inv (y : Str) : Prop where
 hd : ∀ a r, y = a :: r → isB a = false
 lt : ∀ r z, y = r ++ [z] → isB z = false
theorem Inv.nil : Inv [] := ⟨fun a r e => absurd e (by simp), fun r z e => absurd e (by simp)⟩
abbrev jn := Go.Lib.join
abbrev jt := Go.Lib.joinTail
theorem qpx (sep x : Str) (r : List Str) : jt sep (x :: r) = sep ++ x ++ jt sep r := by simp [jt, Go.Lib.joinTail]
theorem qtj (sep : Str) : jt sep [] = [] := rfl
theorem qk9 (sep x : Str) (r : List Str) : jn (x :: r) sep = x ++ jt sep r := Go.Lib.join_cons x r sep
theorem qwx (sep : Str) : jn [] sep = [] := Go.Lib.join_nil sep
def qn2 (l : List Str) : Nat := (l.map fun x => x.length + 1).sum
theorem qe4 (x : Str) (l : List Str) : qn2 (x :: l) = x.length + 1 + qn2 l := by simp [qn2]
theorem qmu : qn2 [] = 0 := rfl
theorem qf7 : ∀ (l : List Str), l.length ≤ qn2 l
 | [] => Nat.zero_le _
 | x :: l => by have := qf7 l; rw [qe4, List.length_cons]; omega
theorem qla (l k : List Str) : qn2 (l ++ k) = qn2 l + qn2 k := by simp [qn2]
theorem qe5 (n : Str) : ∀ (f : List RF), qn2 (vals f n) ≤ tot f
 | [] => Nat.zero_le _
 | x :: f => by
  have := qe5 n f
  rw [qg9, qla, qe3]
  split
  ·rw [qe4, qmu]; omega
  ·rw [qmu]; omega
def esc (c : UInt8) : Str := if (decide ((c.toNat : Int) = 34) || decide ((c.toNat : Int) = 92)) then [92, c] else [c]
def quo (s : Str) : Str := [34] ++ s.flatMap esc ++ [34]
theorem el_go {ρ σ γ : Type} {y : σ} {f : ρ → Option γ} {g : σ → Option γ} : (Fl.go y : Fl ρ σ).el f g = g y := rfl
def qzo (f : List RF) (m : Str) : Str := if vals f m = [] then m else m ++ [61] ++ quo (jn ((vals f m).map qzn) [44])
def key (names : List Str) (f : List RF) : Str := jn (names.map (qzo f)) [38]
theorem qu8 {l : List Str} {sep : Str} (h1 : l.length ≤ 1000000) (h2 : (jn l sep).length ≤ 1000000000) : qks l sep = some (jn l sep) := by
 unfold qks; rw [qzv ⟨by simp only [lim]; omega, by show (jn l sep).length ≤ _; simp only [lim]; omega⟩]
theorem qj3 : ∀ (l : List RF) (i : Nat) (y : List FF), y.length + l.length ≤ 1073741824 → Jbe l i y = some (y ++ ffs l)
 | [], i, y, _ => by simp [Jbe, ffs]
 | x :: l, i, y, h => by
  simp only [List.length_cons] at h
  have ih := qj3 l (i + 1) (y ++ [⟨x.Name, x.Value⟩]) (by simp only [List.length_append, List.length_cons, List.length_nil]; omega)
  rw [Jbe, qab (by simp only [lim, List.length_cons, List.length_nil]; omega), ih]
  simp [ffs]
theorem qpy {l : List RF} (h : l.length ≤ 536870912) : Jdr l = some (ffs l) := by
 unfold Jdr
 rw [qab (by simp only [qax]; omega), qj3 l 0 [] (by simp <;> omega)]; rfl
def bl9 (c : UInt8) : Bool := ([32, 9] : Str).contains c
theorem qtk (c : UInt8) : bl9 c = (decide ((c.toNat : Int) = 32) || decide ((c.toNat : Int) = 9)) := by
 have e1 : ∀ k : UInt8, (c == k) = decide ((c.toNat : Int) = (k.toNat : Int)) := fun k => by
  by_cases h : c = k
  ·subst h; simp
  ·have : ¬ (c.toNat : Int) = (k.toNat : Int) := fun e => h (UInt8.toNat_inj.1 (by omega))
   simp [h, this]
 unfold bl9
 rw [List.contains_cons, List.contains_cons, List.contains_nil, Bool.or_false, e1, e1]; rfl
def rd : Str → Str
 | [] => []
 | x :: t => match rd t with
  | [] => if bl9 x = true then [] else [x]
  | y :: ys => x :: y :: ys
theorem qpz (r : Str) (z : UInt8) : rd (r ++ [z]) = if bl9 z = true then rd r else r ++ [z] := by
 induction r with
 | nil => simp [rd]
 | cons x r ih =>
  rw [List.cons_append, rd, ih]
  by_cases q : bl9 z = true
  ·rw [qzv q, qzv q, rd]
  ·rw [qzu q, qzu q]
   cases h : r ++ [z] with
   | nil => simp at h
   | cons a b => rfl
theorem qwy (s : Str) : (s.reverse.dropWhile bl9).reverse = rd s := by
 have : ∀ r : Str, rd r.reverse = (r.dropWhile bl9).reverse := fun r => by
  induction r with
  | nil => rfl
  | cons x r ih =>
   rw [List.reverse_cons, qpz, List.dropWhile_cons]
   by_cases q : bl9 x = true
   ·rw [qzv q, qzv q, ih]
   ·rw [qzu q, qzu q, List.reverse_cons]
 rw [← this, List.reverse_reverse]
theorem qwz : ∀ s : Str, (rd s).dropWhile bl9 = rd (s.dropWhile bl9)
 | [] => rfl
 | x :: t => by
  rw [rd, List.dropWhile_cons]
  by_cases q : bl9 x = true
  ·rw [qzv q, qzv q, ← qwz t]
   cases rd t with
   | nil => rfl
   | cons a b => simp only; rw [List.dropWhile_cons, qzv q]
  ·rw [qzu q, qzu q, rd, qzu q]
   cases rd t with
   | nil => simp only; rw [List.dropWhile_cons, qzu q]
   | cons a b => simp only; rw [List.dropWhile_cons, qzu q]
def trm (s : Str) : Str := rd (s.dropWhile bl9)
theorem qtl (p : UInt8 → Bool) : ∀ s : Str, (s.dropWhile p).length ≤ s.length
 | [] => Nat.le_refl _
 | x :: t => by
  rw [List.dropWhile_cons]
  have := qtl p t
  split <;> simp only [List.length_cons] <;> omega
theorem qr8 {s : Str} (h : s.length ≤ 100000000) : qkt s ([32, 9] : Str) = some (trm s) := by
 unfold qkt
 rw [qzv ⟨by omega, by simp, by decide⟩]
 show some ((Go.Lib.trimRightS s [32, 9]).dropWhile (([32, 9] : Str).contains ·)) = _
 have e : Go.Lib.trimRightS s [32, 9] = rd s := qwy s
 rw [e]
 exact congrArg some (qwz s)
theorem tl {c : UInt8} {t : Str} : subL (c :: t) (1 : Int) (((c :: t).length : Nat) : Int) = t := by
 unfold subL
 rw [show ((1 : Int)).toNat = 1 from rfl, List.drop_succ_cons, List.drop_zero, List.take_of_length_le (by simp only [List.length_cons]; omega)]
theorem qmv : ∀ (n : Nat) (s : Str), s.length < n → s.length ≤ 100000000 → JbU n s = some (s.dropWhile bl9)
 | 0, s, h, _ => by omega
 | n + 1, [], h, _ => by rw [JbU, qzu (by simp)]; rfl
 | n + 1, c :: t, h, hl => by
  simp only [List.length_cons] at h hl
  have e : (if decide ((c.toNat : Int) = 32) = true then some true else (some c).bind fun x12 => some (decide ((x12.toNat : Int) = 9))) = some (bl9 c) := by
   rw [qtk]
   cases decide ((c.toNat : Int) = 32) <;> simp
  rw [JbU, qzv (by simp), show ix (c :: t) 0 = some c from rfl, qzt, e, qzt, List.dropWhile_cons]
  by_cases q : bl9 c = true
  ·rw [qzv q, qzv q, qab (by simp only [List.length_cons]; omega), tl]
   exact qmv n t (by omega) (by omega)
  ·rw [qzu q, qzu q]
theorem qmw : ∀ (n : Nat) (s : Str), s.length < n → s.length ≤ 100000000 → JbV n s = some (rd s)
 | 0, s, h, _ => by omega
 | n + 1, s, h, hl => by
  rcases List.eq_nil_or_concat s with rfl | ⟨r, z, rfl⟩
  ·rw [JbV, qzu (by simp)]; rfl
  ·rw [List.concat_eq_append] at h hl ⊢
   have hlen : ((r ++ [z]).length : Int) - 1 = (r.length : Int) := by simp
   have hz : ix (r ++ [z]) (r.length : Int) = some z := by
    unfold ix; rw [qzv (by omega)]; simp
   have e : (if decide ((z.toNat : Int) = 32) = true then some true else (some z).bind fun x12 => some (decide ((x12.toNat : Int) = 9))) = some (bl9 z) := by
    rw [qtk]
    cases decide ((z.toNat : Int) = 32) <;> simp
   have hs : subL (r ++ [z]) (0 : Int) (r.length : Int) = r := by
    unfold subL
    simp
   simp only [List.length_append, List.length_cons, List.length_nil] at h hl
   rw [JbV, qzv (by simp), hlen, qab (by constructor <;> omega), hz, qzt]
   have e2 : (if decide ((z.toNat : Int) = 32) = true then some true else (chk (InI (r.length : Int))).bind fun _ => (some z).bind fun x33 => some (decide ((x33.toNat : Int) = 9))) = some (bl9 z) := by
    rw [qab (by constructor <;> omega)]; exact e
   rw [e2, qzt, qpz]
   by_cases q : bl9 z = true
   ·rw [qzv q, qzv q, qab (by constructor <;> omega), qab (by simp only [List.length_append, List.length_cons, List.length_nil]; omega), hs]
    exact qmw n r (by omega) (by omega)
   ·rw [qzu q, qzu q]
theorem qyi {n : Nat} {s : Str} (h : s.length < n) (hl : s.length ≤ 100000000) : Jd9 n s = some (trm s) := by
 have := qtl bl9 s
 unfold Jd9
 rw [qmv n s h hl, qzt, qmw n _ (by omega) (by omega)]; rfl
theorem qu9 : ∀ n : Fin 256, ∃ b, qb2 (UInt8.ofNat n.val) = some b ∧ Jdj (UInt8.ofNat n.val) = some b := by
 have h : ∀ n : Fin 256, qb2 (UInt8.ofNat n.val) = Jdj (UInt8.ofNat n.val) ∧ (qb2 (UInt8.ofNat n.val)).isSome = true := by decide +kernel
 intro n
 obtain ⟨h1, h2⟩ := h n
 obtain ⟨b, hb⟩ := Option.isSome_iff_exists.1 h2
 exact ⟨b, hb, by rw [← h1, hb]⟩
theorem tch (c : UInt8) : ∃ b, qb2 c = some b ∧ Jdj c = some b := by
 have := qu9 ⟨c.toNat, c.toNat_lt⟩
 simpa using this
theorem qtm : ∀ (s : Str) (i j : Nat), ∃ b : Bool, syntax_Token_L0 s i = some (if b = true then Fl.go () else Fl.ret false) ∧ Jb4 s j = some (if b = true then Fl.go () else Fl.ret false)
 | [], i, j => ⟨true, rfl, rfl⟩
 | c :: s, i, j => by
  obtain ⟨b, h1, h2⟩ := tch c
  rw [syntax_Token_L0, Jb4, h1, h2, qzt, qzt]
  cases b with
  | false => exact ⟨false, rfl, rfl⟩
  | true => exact qtm s (i + 1) (j + 1)
theorem tok {s : Str} (h : s.length ≤ 100000000) : ∃ b, qcd s = some b ∧ JcX s = some b := by
 obtain ⟨b, h1, h2⟩ := qtm s 0 0
 unfold qcd JcX
 rw [qab (by simp only [qax]; omega), qab (by simp only [qax]; omega), h1, h2, qzt, qzt]
 cases b with
 | false => exact ⟨false, rfl, rfl⟩
 | true =>
  refine ⟨decide (s ≠ []), rfl, ?_⟩
  simp only [if_true, el_go]
  congr 1
  apply decide_eq_decide.2
  cases s <;> simp
theorem qcy {α : Type} {s : List α} {i : Int} (h0 : 0 ≤ i) (h1 : i < (s.length : Int)) : ∃ x, ix s i = some x := by
 unfold ix
 rw [qzv h0]
 exact ⟨s[i.toNat]'(by omega), List.getElem?_eq_getElem (by omega)⟩
def ctl (s : Str) : Bool := s.any fun c => (decide ((c.toNat : Int) < 32) && decide ((c.toNat : Int) ≠ 9)) || decide ((c.toNat : Int) = 127)
theorem qh7 : ∀ (s : Str) (i : Nat), Jbm s i = some (if ctl s = true then Fl.ret true else Fl.go ())
 | [], i => rfl
 | c :: s, i => by
  have e : ctl (c :: s) = (((decide ((c.toNat : Int) < 32) && decide ((c.toNat : Int) ≠ 9)) || decide ((c.toNat : Int) = 127)) || ctl s) := rfl
  have e2 : ((if decide ((c.toNat : Int) < 32) = true then some (decide ((c.toNat : Int) ≠ 9)) else some false).bind fun x18 => (if x18 = true then some true else some (decide ((c.toNat : Int) = 127)))) = some ((decide ((c.toNat : Int) < 32) && decide ((c.toNat : Int) ≠ 9)) || decide ((c.toNat : Int) = 127)) := by
   cases decide ((c.toNat : Int) < 32) <;> cases q : decide ((c.toNat : Int) ≠ 9) <;> simp [q]
  rw [Jbm, e, ← Option.bind_assoc, e2, qzt]
  cases q : ((decide ((c.toNat : Int) < 32) && decide ((c.toNat : Int) ≠ 9)) || decide ((c.toNat : Int) = 127)) with
  | true => rfl
  | false => rw [qzu (by simp), Bool.false_or]; exact qh7 s (i + 1)
theorem qnw {s : Str} (h : s.length ≤ 100000000) : Jdd s = some (ctl s) := by
 unfold Jdd
 rw [qab (by simp only [qax]; omega), qh7, qzt]
 cases ctl s <;> rfl
end Vary
open Go Go.SL Go.Proofs Pl Vary
namespace Rt.Rv
def hd (p : Str) : List Str → List Str
 | [] => [p]
 | x :: r => (p ++ x) :: r
def spl (c : UInt8) : Str → List Str
 | [] => [[]]
 | b :: s => if b = c then [] :: spl c s else hd [b] (spl c s)
theorem qmx (c : UInt8) (s : Str) : spl c s ≠ [] := by
 cases s with
 | nil => simp [spl]
 | cons b s =>
  rw [spl]
  split
  ·simp
  ·cases spl c s <;> simp [hd]
theorem qtn {l : List Str} (h : l ≠ []) : hd [] l = l := by
 cases l with
 | nil => exact absurd rfl h
 | cons a b => rfl
theorem qyj (p q : Str) (l : List Str) : hd p (hd q l) = hd (p ++ q) l := by cases l <;> simp [hd]
theorem qva (c b : UInt8) (l : Str) : ([c] : Str).isPrefixOf (b :: l) = (c == b) := by simp [List.isPrefixOf]
theorem qto (c : UInt8) (l : Str) : Go.Lib.index (c :: l) [c] = 0 := by rw [Go.Lib.index, qzv (by simp [List.isPrefixOf])]
theorem qp0 {c b : UInt8} (h : b ≠ c) (l : Str) : Go.Lib.index (b :: l) [c] = if Go.Lib.index l [c] = -1 then -1 else Go.Lib.index l [c] + 1 := by
 have : (c == b) = false := by simp; exact fun e => h e.symm
 rw [Go.Lib.index, qva, this]
 simp
theorem qr9 {b c : UInt8} (h : b ≠ c) (k : Nat) (l : Str) : Go.Lib.splitK [c] 0 k (b :: l) = hd [b] (Go.Lib.splitK [c] 0 k l) := by
 cases k with
 | zero => rfl
 | succ k =>
  have hg := Go.Lib.index_ge l [c]
  rw [Go.Lib.splitK, Go.Lib.splitK, qp0 h]
  by_cases q : Go.Lib.index l [c] = -1
  ·rw [q]; simp [hd]
  ·rw [qzu q]
   have e : (Go.Lib.index l [c] + 1).toNat = (Go.Lib.index l [c]).toNat + 1 := by omega
   rw [qzu (by simp; omega), qzu (by simpa using q), e]
   simp [hd, Nat.add_right_comm]
theorem qmy (c : UInt8) : ∀ s : Str, Go.Lib.split s [c] = spl c s
 | [] => by unfold Go.Lib.split; rw [Go.Lib.count_one]; rfl
 | b :: l => by
  have ih := qmy c l
  unfold Go.Lib.split at ih ⊢
  rw [spl]
  by_cases q : b = c
  ·subst q
   rw [qzv rfl, Go.Lib.count_cons_eq, Nat.add_comm, Go.Lib.splitK, qto, qzu (by decide), ← ih]
   simp
  ·rw [qzu q, Go.Lib.count_cons_ne b c l q, qr9 q, ih]
theorem index_spl (c : UInt8) : ∀ s : Str, (Go.Lib.index s [c] = -1 ∧ spl c s = [s] ∧ c ∉ s) ∨ (∃ i : Nat, Go.Lib.index s [c] = i ∧ i < s.length ∧ spl c s = s.take i :: spl c (s.drop (i + 1)))
 | [] => .inl ⟨rfl, rfl, by simp⟩
 | b :: l => by
  by_cases q : b = c
  ·subst q
   exact .inr ⟨0, qto _ _, by simp, by rw [spl, qzv rfl]; simp⟩
  ·rcases index_spl c l with ⟨h1, h2, h3⟩ | ⟨i, h1, h2, h3⟩
   ·exact .inl ⟨by rw [qp0 q, qzv h1], by rw [spl, qzu q, h2]; rfl, by simp [h3]; exact fun e => q e.symm⟩
   ·refine .inr ⟨i + 1, by rw [qp0 q, h1, qzu (by omega)]; omega, by simp; omega, ?_⟩
    rw [spl, qzu q, h3]
    simp [hd]
theorem qe6 : qin = 4294967281 := rfl
theorem qj4 {s : Str} (c : UInt8) (h : s.length ≤ 1000000) : qgu s [c] = some (spl c s) := by
 unfold qgu
 rw [qzv ⟨by rw [qe6]; omega, by simp⟩, qmy]
def qnx (s : Str) : List Str := (spl 47 s).tail
theorem cut_spl (c : UInt8) (s : Str) : (Go.Lib.cut s [c] = (s, [], false) ∧ spl c s = [s]) ∨ (∃ i : Nat, i < s.length ∧ Go.Lib.cut s [c] = (s.take i, s.drop (i + 1), true) ∧ spl c s = s.take i :: spl c (s.drop (i + 1))) := by
 unfold Go.Lib.cut
 rcases index_spl c s with ⟨h1, h2, _⟩ | ⟨i, h1, h2, h3⟩
 ·left; rw [h1]; exact ⟨by simp, h2⟩
 ·right; rw [h1]; exact ⟨i, h2, by simp, h3⟩
theorem qp1 {s : Str} (h : s.length ≤ 1000000) : Jcl s = some (qnx s) := by
 unfold Jcl cutM qnx
 rw [qzv (by rw [qe6]; omega), qzt]
 rcases cut_spl 47 s with ⟨h1, h2⟩ | ⟨i, h2, h1, h3⟩
 ·rw [h1, h2]; rfl
 ·rw [h1, h3, qzu (by simp)]
  simp only
  rw [qj4 47 (by rw [List.length_drop]; omega)]; rfl
theorem qp2 {a b : UInt8} : decide ((a.toNat : Int) = (b.toNat : Int)) = decide (a = b) := by
 rw [decide_eq_decide]
 exact ⟨fun e => UInt8.toNat_inj.1 (by omega), fun e => by rw [e]⟩
theorem qp3 (q p r : Str) : subL (q ++ p ++ r) (q.length : Int) ((q ++ p).length : Int) = p := by
 unfold subL
 rw [List.append_assoc, Int.toNat_natCast, List.drop_left, List.length_append]
 have : (((q.length + p.length : Nat) : Int) - (q.length : Int)).toNat = p.length := by omega
 rw [this, List.take_left]
theorem qp4 {c : UInt8} {s : Str} (hs : s.length ≤ 1000000) : ∀ (r q p : Str) (y : List Str), s = q ++ p ++ r → y.length ≤ q.length →
  ∃ z a, JbR c s r (q ++ p).length y (q.length : Int) = some (z, a) ∧ 0 ≤ a ∧ a ≤ (s.length : Int) ∧ z.length ≤ s.length ∧ z ++ [subL s a (s.length : Int)] = y ++ hd p (spl c r)
 | [], q, p, y, e, hy => by
  have hl : s.length = (q ++ p).length := by rw [e]; simp
  have hq : q.length ≤ s.length := by rw [hl]; simp
  refine ⟨y, q.length, rfl, by omega, by omega, by omega, ?_⟩
  rw [hl, e, qp3]; simp [spl, hd]
 | b :: r, q, p, y, e, hy => by
  have hl : s.length = q.length + p.length + (r.length + 1) := by rw [e]; simp; omega
  rw [JbR, qp2]
  by_cases h : b = c
  ·subst h
   have hsub : subL s (q.length : Int) ((q ++ p).length : Int) = p := by rw [e, qp3]
   rw [qzv (by simp), qab (by simp only [List.length_append]; omega), hsub, qab (by simp only [lim, List.length_cons, List.length_nil]; omega)]
   have ih := qp4 (c := b) hs r (q ++ p ++ [b]) [] (y ++ [p]) (by rw [e]; simp) (by simp; omega)
   have e1 : ((q ++ p ++ [b]) ++ ([] : Str)).length = (q ++ p).length + 1 := by simp; omega
   have e2 : (((q ++ p ++ [b]).length : Nat) : Int) = ((q ++ p).length : Int) + 1 := by simp; omega
   rw [e1, e2] at ih
   obtain ⟨z, a, h1, h2, h3, h4, h5⟩ := ih
   refine ⟨z, a, h1, h2, h3, h4, ?_⟩
   rw [h5, spl, qzv rfl, qtn (qmx _ _)]; simp [hd]
  ·rw [qzu (by simpa using h)]
   have ih := qp4 (c := c) hs r q (p ++ [b]) y (by rw [e]; simp) hy
   have e1 : (q ++ (p ++ [b])).length = (q ++ p).length + 1 := by simp; omega
   rw [e1] at ih
   obtain ⟨z, a, h1, h2, h3, h4, h5⟩ := ih
   refine ⟨z, a, h1, h2, h3, h4, ?_⟩
   rw [h5, spl, qzu h, qyj]
theorem qp5 {s : Str} (c : UInt8) (hs : s.length ≤ 1000000) : Jd5 s c = some (spl c s) := by
 unfold Jd5
 obtain ⟨z, a, h1, h2, h3, h4, h5⟩ := qp4 (c := c) hs s [] [] [] rfl (Nat.le_refl _)
 have h1' : JbR c s s 0 [] 0 = some (z, a) := h1
 rw [qab (by simp only [qax]; omega), h1', qzt, qab (by omega), qab (by simp only [lim, List.length_cons, List.length_nil]; omega)]
 simp only
 rw [h5, qtn (qmx _ _)]; rfl
theorem qw0 (p : Str) {l : List Str} (h : l ≠ []) : (hd p l).length = l.length := by
 cases l with
 | nil => exact absurd rfl h
 | cons a b => rfl
theorem qha (c : UInt8) : ∀ s : Str, 1 ≤ (spl c s).length ∧ (spl c s).length ≤ s.length + 1
 | [] => by simp [spl]
 | b :: l => by
  have := qha c l
  rw [spl]
  split
  ·simp; omega
  ·rw [qw0 _ (qmx _ _)]; simp; omega
theorem qlb (c : UInt8) : ∀ (s x : Str), x ∈ spl c s → x.length ≤ s.length
 | [], x, h => by simp [spl] at h; subst h; simp
 | b :: l, x, h => by
  have ih := qlb c l
  rw [spl] at h
  split at h
  ·rcases List.mem_cons.1 h with rfl | h
   ·simp
   ·have := ih x h; simp; omega
  ·cases e : spl c l with
   | nil => exact absurd e (qmx _ _)
   | cons a r =>
    rw [e] at h ih
    rcases List.mem_cons.1 h with rfl | h
    ·have := ih a (by simp); simp; omega
    ·have := ih x (by simp [h]); simp; omega
theorem qsa {s : Str} (hs : s.length ≤ 1000000) : JcO s = some (qnx s) := by
 unfold JcO qnx
 have h := qha 47 s
 rw [qp5 47 hs, qzt, qab (by omega)]
 congr 1
 unfold subL
 rw [show ((1 : Int)).toNat = 1 from rfl, List.drop_one, List.take_of_length_le (by rw [List.length_tail]; omega)]
theorem qsb {s x : Str} (h : x ∈ qnx s) : x.length ≤ s.length := qlb _ _ _ (List.mem_of_mem_tail h)
theorem qmz (s : Str) : (qnx s).length ≤ s.length := by have := qha 47 s; unfold qnx; rw [List.length_tail]; omega
def argL (nm : Str) : List Str → Str
 | [] => []
 | x :: r => if Rc.hp x (nm ++ [61]) = true then x.drop (nm.length + 1) else argL nm r
def argB (nm : Str) : List Str → Bool
 | [] => false
 | x :: r => if Rc.hp x (nm ++ [61]) = true then true else argB nm r
theorem qm0 (x : Str) (n : Nat) : subL x ((n : Int) + 1) (x.length : Int) = x.drop (n + 1) := by
 unfold subL
 rw [show ((n : Int) + 1).toNat = n + 1 by omega, List.take_of_length_le (by rw [List.length_drop]; omega)]
theorem qtp {nm : Str} (hn : nm.length ≤ 1000000) : ∀ (l : List Str) (i : Nat), JbX nm l i = some (if argB nm l = true then Fl.ret (argL nm l, true) else Fl.go ())
 | [], i => rfl
 | x :: l, i => by
  have hpx : J2 x (nm ++ ([61] : Str)) = some (Rc.hp x (nm ++ [61])) := by rw [qgw, Rc.hp_eq]
  rw [JbX, qab (by simp only [lim, List.length_cons, List.length_nil]; omega), hpx, qzt, argL, argB]
  by_cases q : Rc.hp x (nm ++ [61]) = true
  ·have hl : nm.length + 1 ≤ x.length := by
    have := q; unfold Rc.hp at this; simp at this; omega
   rw [qzv q, qzv q, qzv q, qab (by constructor <;> omega), qab (by omega), qm0]; rfl
  ·rw [qzu q, qzu q, qzu q, qtp hn l (i + 1)]
theorem qw1 (x nm : Str) : Rc.hp x (nm ++ [61]) = ((decide ((x.length : Int) > (nm.length : Int)) && decide (x.take nm.length = nm)) && decide (x[nm.length]? = some 61)) := by
 unfold Rc.hp
 by_cases h : nm.length < x.length
 ·have e : x.take (nm ++ [61]).length = x.take nm.length ++ [x[nm.length]] := by
   rw [List.length_append, List.length_cons, List.length_nil, List.take_add_one, List.getElem?_eq_getElem h]; rfl
  rw [e, List.getElem?_eq_getElem h]
  have hl : decide (x.length ≥ (nm ++ [61]).length) = true := by simp; omega
  have hl2 : decide ((x.length : Int) > (nm.length : Int)) = true := by simp; omega
  rw [hl, hl2, Bool.true_and, Bool.true_and]
  have : (x.take nm.length ++ [x[nm.length]] = nm ++ [61]) ↔ (x.take nm.length = nm ∧ x[nm.length] = 61) := by
   constructor
   ·intro h2
    have h3 := List.append_inj h2 (by simp; omega)
    exact ⟨h3.1, by simpa using h3.2⟩
   ·rintro ⟨h1, h2⟩; rw [h1, h2]
  rw [decide_eq_decide.2 this, Bool.decide_and]
  simp
 ·have h1 : decide (x.length ≥ (nm ++ [61]).length) = false := by simp; omega
  have h2 : decide ((x.length : Int) > (nm.length : Int)) = false := by simp; omega
  rw [h1, h2]; rfl
theorem qp6 {nm : Str} (hn : nm.length ≤ 1000000) : ∀ (l : List Str) (i : Nat), JcB nm l i = some (if argB nm l = true then Fl.ret (argL nm l, true) else Fl.go ())
 | [], i => rfl
 | x :: l, i => by
  have hc : ((((if decide ((x.length : Int) > (nm.length : Int)) then (chk (0 ≤ (0 : Int) ∧ (0 : Int) ≤ (nm.length : Int) ∧ (nm.length : Int) ≤ (x.length : Int))).bind fun _ =>
    some (decide ((subL x (0 : Int) (nm.length : Int)) = nm)) else some false).bind fun x37 =>
    (if x37 then (ix x (nm.length : Int)).bind fun x45 => some (decide ((x45.toNat : Int) = 61)) else some false).bind fun x47 => some x47) : Option (Bool))) = some (Rc.hp x (nm ++ [61])) := by
   rw [qw1]
   by_cases h : nm.length < x.length
   ·rw [qzv (by simpa using h), qab (by omega), qzt, Rc.sub0, decide_eq_true (show (x.length : Int) > (nm.length : Int) by omega), Bool.true_and]
    by_cases h2 : x.take nm.length = nm
    ·rw [decide_eq_true h2, qzv rfl]
     unfold ix
     rw [qzv (by omega), Int.toNat_natCast, List.getElem?_eq_getElem h, qzt, qzt, Bool.true_and]
     have := @qp2 (x[nm.length]) 61
     simpa using this
    ·rw [decide_eq_false h2, qzu (by simp), qzt, Bool.false_and]
   ·rw [qzu (by simpa using h), qzt, qzu (by simp), decide_eq_false (by omega)]; rfl
  rw [JcB, hc, qzt, argL, argB]
  by_cases q : Rc.hp x (nm ++ [61]) = true
  ·have hl : nm.length + 1 ≤ x.length := by
    have := q; unfold Rc.hp at this; simp at this; omega
   rw [qzv q, qzv q, qzv q, qab (by constructor <;> omega), qab (by omega), qm0]; rfl
  ·rw [qzu q, qzu q, qzu q, qp6 hn l (i + 1)]
def qvb (q nm : Str) : Str := argL nm (spl 38 q)
theorem qp7 {nm : Str} : ∀ {l : List Str}, argB nm l = false → argL nm l = []
 | [], _ => rfl
 | x :: l, h => by
  rw [argB] at h
  split at h
  ·cases h
  ·rename_i q; rw [argL, qzu q]; exact qp7 h
theorem qm1 {nm : Str} {m : Nat} : ∀ {l : List Str}, (∀ x ∈ l, x.length ≤ m) → (argL nm l).length ≤ m
 | [], _ => Nat.zero_le _
 | x :: l, h => by
  rw [argL]
  split
  ·have := h x (by simp); rw [List.length_drop]; omega
  ·exact qm1 fun y hy => h y (by simp [hy])
theorem qsc (q nm : Str) : (qvb q nm).length ≤ q.length := qm1 (qlb _ _)
theorem qtq {q nm : Str} (hq : q.length ≤ 1000000) (hn : nm.length ≤ 1000000) : ∃ b, JdC ⟨[], [], q, true⟩ nm = some (qvb q nm, b) := by
 have h := qha 38 q
 unfold JdC qvb
 rw [qzu (by simp), qj4 38 hq, qzt, qab (by simp only [qax]; omega), qtp hn, qzt]
 cases e : argB nm (spl 38 q) with
 | true => rw [qzv rfl]; exact ⟨_, rfl⟩
 | false => rw [qzu (by simp), qp7 e]; exact ⟨_, rfl⟩
theorem qvc {q nm : Str} (hq : q.length ≤ 1000000) (hn : nm.length ≤ 1000000) : ∃ b, JeA ⟨[], [], q, true⟩ nm = some (qvb q nm, b) := by
 have h := qha 38 q
 unfold JeA qvb
 rw [qzu (by simp), qp5 38 hq, qzt, qab (by simp only [qax]; omega), qp6 hn, qzt]
 cases e : argB nm (spl 38 q) with
 | true => rw [qzv rfl]; exact ⟨_, rfl⟩
 | false => rw [qzu (by simp), qp7 e]; exact ⟨_, rfl⟩
theorem qsd (s : Str) {i n : Nat} : subL s (i : Int) ((i : Int) + (n : Int)) = (s.drop i).take n := by
 unfold subL
 rw [Int.toNat_natCast, show ((i : Int) + (n : Int) - (i : Int)).toNat = n by omega]
theorem qg6 {t s : Str} (hs : s.length ≤ 1000000) (ht : t.length ≤ 1000000) : ∀ (m i : Nat), s.length + 1 - i < m → i ≤ s.length + 1 → (∀ j, j < i → Go.Lib.occAt s t j = false) →
  ∃ r, Ja4 t s m (i : Int) = some r ∧ (Go.Lib.contains s t = true → r = .ret true) ∧ (Go.Lib.contains s t = false → ∃ z, r = .go z)
 | 0, i, h, _, _ => by omega
 | m + 1, i, h, hi, hn => by
  rw [Ja4, qab (by constructor <;> omega)]
  by_cases q : i + t.length ≤ s.length
  ·rw [qzv (by simp; omega), qab (by constructor <;> omega), qab (by omega), qsd]
   by_cases q2 : (s.drop i).take t.length = t
   ·rw [qzv (by simpa using q2)]
    have ho : Go.Lib.occAt s t i = true := by rw [Go.Lib.occAt_iff_take s t i q]; simpa using q2
    have hc : Go.Lib.contains s t = true := by
     unfold Go.Lib.contains
     rw [Go.Lib.index_first (by omega) ho hn]; simp
    exact ⟨_, rfl, fun _ => rfl, fun e => by rw [hc] at e; cases e⟩
   ·rw [qzu (by simpa using q2), qab (by constructor <;> omega)]
    have ho : Go.Lib.occAt s t i = false := by rw [Go.Lib.occAt_iff_take s t i q]; simpa using q2
    exact qg6 hs ht m (i + 1) (by omega) (by omega) fun j hj => by
     by_cases e : j = i
     ·rw [e]; exact ho
     ·exact hn j (by omega)
  ·rw [qzu (by simp; omega)]
   have hc : Go.Lib.contains s t = false := by
    unfold Go.Lib.contains
    rw [Go.Lib.index_none fun j hj => ?_]; · rfl
    by_cases e : j < i
    ·exact hn j e
    ·cases ho : Go.Lib.occAt s t j with
     | false => rfl
     | true =>
      rcases Go.Lib.occAt_room ho with h1 | h1
      ·omega
      ·subst h1; simp at q; omega
   exact ⟨_, rfl, (fun e => by rw [hc] at e; cases e), fun _ => ⟨_, rfl⟩⟩
theorem qse {n : Nat} {s t : Str} (hn : 1000002 ≤ n) (hs : s.length ≤ 1000000) (ht : t.length ≤ 1000000) : JcQ n s t = some (Go.Lib.contains s t) := by
 unfold JcQ
 obtain ⟨r, h1, h2, h3⟩ := qg6 hs ht n 0 (by omega) (by omega) (fun j hj => by omega)
 rw [show (0 : Int) = ((0 : Nat) : Int) from rfl, h1, qzt]
 cases e : Go.Lib.contains s t with
 | true => rw [h2 e]; rfl
 | false => obtain ⟨z, rfl⟩ := h3 e; rfl
theorem qfy {s t : Str} (hs : s.length ≤ 1000000) : qdo s t = some (Go.Lib.contains s t) := by
 unfold qdo; rw [qzv (by rw [qe6]; omega)]
theorem qhb : ∀ (m u : Nat), u < 10 ^ (m + 1) → (Go.Lib.decDigits u).length ≤ m + 1
 | 0, u, h => by rw [Go.Lib.decDigits, dif_pos (by omega)]; simp
 | m + 1, u, h => by
  rw [Go.Lib.decDigits]
  split
  ·simp
  ·have := qhb m (u / 10) (by rw [Nat.pow_succ] at h; omega)
   simp; omega
theorem qp8 (u : Nat) : qoj (48 + Int.tmod (u : Int) 10) = UInt8.ofNat (48 + u % 10) := by
 have e : Int.tmod (u : Int) 10 = ((u % 10 : Nat) : Int) := by rw [Int.tmod_eq_emod_of_nonneg (by omega)]; omega
 unfold qoj
 rw [e]
 congr 1
 omega
theorem qvd : ∀ (m u : Nat) (k : Nat), u < 10 ^ (m + 1) → m ≤ 17 → m < k → JaU k (u : Int) = some (Go.Lib.decDigits u)
 | m, u, 0, h, hm, hk => by omega
 | 0, u, k + 1, h, hm, hk => by
  have hu : u < 10 := by omega
  have e : Int.tmod (u : Int) 10 = ((u % 10 : Nat) : Int) := by rw [Int.tmod_eq_emod_of_nonneg (by omega)]; omega
  rw [JaU, qzu (by simp), qab (by rw [e]; constructor <;> omega), qzv (by simp; omega), qp8, Go.Lib.decDigits, dif_pos hu, Nat.mod_eq_of_lt hu]
 | m + 1, u, k + 1, h, hm, hk => by
  have e : Int.tmod (u : Int) 10 = ((u % 10 : Nat) : Int) := by rw [Int.tmod_eq_emod_of_nonneg (by omega)]; omega
  have e2 : Int.tdiv (u : Int) 10 = ((u / 10 : Nat) : Int) := by rw [Int.tdiv_eq_ediv_of_nonneg (by omega)]; omega
  have hp : (10 : Nat) ^ (m + 1 + 1) ≤ 10 ^ 19 := Nat.pow_le_pow_right (by decide) (by omega)
  rw [JaU, qzu (by simp), qab (by rw [e]; constructor <;> omega), Go.Lib.decDigits]
  by_cases hu : u < 10
  ·rw [qzv (by simp; omega), qp8, dif_pos hu, Nat.mod_eq_of_lt hu]
  ·have hu2 : u / 10 < 10 ^ (m + 1) := by rw [Nat.pow_succ] at h; omega
   have hp2 : (10 : Nat) ^ (m + 1) ≤ 10 ^ 18 := Nat.pow_le_pow_right (by decide) (by omega)
   have hl := qhb m (u / 10) hu2
   rw [qzu (by simp; omega), e2, qab ⟨by decide, by constructor <;> omega⟩, qvd m (u / 10) k hu2 (by omega) (by omega), qzt, qab (by simp only [lim, List.length_cons, List.length_nil]; omega), qp8, dif_neg hu]
theorem qw2 {n : Nat} {x : Int} (hn : 30 ≤ n) (h0 : -1099511627776 ≤ x) (h1 : x ≤ 1099511627776) : JaU n x = some (Go.Lib.itoa x) := by
 unfold Go.Lib.itoa
 by_cases q : x < 0
 ·obtain ⟨k, rfl⟩ : ∃ k, n = k + 1 := ⟨n - 1, by omega⟩
  obtain ⟨u, hu⟩ : ∃ u : Nat, -x = (u : Int) := ⟨(-x).toNat, by omega⟩
  have h10 : (10 : Nat) ^ (17 + 1) = 1000000000000000000 := by decide
  have hu2 : u < 10 ^ (17 + 1) := by omega
  have hl := qhb 17 u hu2
  rw [JaU, qzv (by simpa using q), qab (by constructor <;> omega), hu, qvd 17 u k hu2 (by omega) (by omega), qzt, qab (by simp only [lim, List.length_cons, List.length_nil]; omega), qzv q, show x.natAbs = u by omega]
  rfl
 ·obtain ⟨u, hu⟩ : ∃ u : Nat, x = (u : Int) := ⟨x.toNat, by omega⟩
  have h10 : (10 : Nat) ^ (17 + 1) = 1000000000000000000 := by decide
  have hu2 : u < 10 ^ (17 + 1) := by omega
  rw [qzu q, hu, Int.toNat_natCast, qvd 17 u n hu2 (by omega) (by omega)]
theorem qsf {x : Int} (h0 : -1099511627776 ≤ x) (h1 : x ≤ 1099511627776) : (Go.Lib.itoa x).length ≤ 20 := by
 unfold Go.Lib.itoa
 have hp : (10 : Nat) ^ (17 + 1) = 1000000000000000000 := by decide
 split
 ·have := qhb 17 x.natAbs (by omega); simp; omega
 ·have := qhb 17 x.toNat (by omega); omega
theorem qm2 {x : Int} (h0 : -1099511627776 ≤ x) (h1 : x ≤ 1099511627776) : qno x = some (Go.Lib.itoa x) := by
 unfold qno; rw [qzv (by constructor <;> omega)]
def dig (c : UInt8) : Bool := !(decide ((c.toNat : Int) < 48) || decide ((c.toNat : Int) > 57))
def nst (n : Int) (c : UInt8) : Int := 10 * n + ((c - (48 : UInt8)).toNat : Int)
def qve (s : Str) : Int := if s.length ≤ 15 ∧ s.all dig = true then s.foldl nst 0 else 0
theorem qtr (c : UInt8) : (if decide ((c.toNat : Int) < 48) then some true else some (decide ((c.toNat : Int) > 57))) = some (!dig c) := by
 unfold dig; cases decide ((c.toNat : Int) < 48) <;> simp
theorem qlc {c : UInt8} (h : dig c = true) : 0 ≤ ((c - (48 : UInt8)).toNat : Int) ∧ ((c - (48 : UInt8)).toNat : Int) ≤ 9 := by
 unfold dig at h
 simp at h
 have h48 : (48 : UInt8) ≤ c := by rw [UInt8.le_iff_toNat_le]; simp; omega
 rw [UInt8.toNat_sub_of_le _ _ h48]
 simp; omega
theorem qts {i : Nat} {y : Int} {c : UInt8} (hc : dig c = true) (h0 : 0 ≤ y) (h1 : y < 10 ^ i) : 0 ≤ nst y c ∧ nst y c < 10 ^ (i + 1) := by
 have := qlc hc
 unfold nst
 rw [Int.pow_succ]
 omega
theorem p15 {i : Nat} (h : i ≤ 15) : (10 : Int) ^ i ≤ 1000000000000000 := by
 have h1 : (10 : Nat) ^ i ≤ 10 ^ 15 := Nat.pow_le_pow_right (by decide) h
 have h2 : ((10 ^ i : Nat) : Int) = (10 : Int) ^ i := by rw [Int.natCast_pow]; rfl
 rw [← h2]
 have h3 : (10 : Nat) ^ 15 = 1000000000000000 := by decide
 omega
theorem qtt : ∀ (r : Str) (i : Nat) (j : Nat) (y : Int), 0 ≤ y → y < 10 ^ i → i + r.length ≤ 15 → Jbh r j y = some (if r.all dig = true then .go (r.foldl nst y) else .ret 0)
 | [], i, j, y, _, _, _ => rfl
 | c :: r, i, j, y, h0, h1, h => by
  simp only [List.length_cons] at h
  rw [Jbh, qtr, qzt, List.all_cons]
  cases q : dig c with
  | false => rw [qzv (by simp)]; simp
  | true =>
   have hb := qts q h0 h1
   have hp := p15 (show i ≤ 15 by omega)
   have hp1 := p15 (show i + 1 ≤ 15 by omega)
   have hd := qlc q
   have e : (10 * y) + ((c - (48 : UInt8)).toNat : Int) = nst y c := rfl
   rw [qzu (by simp), qab (by constructor <;> omega), e, qab (by constructor <;> omega), qtt r (i + 1) (j + 1) _ hb.1 hb.2 (by omega), Bool.true_and, List.foldl_cons]
theorem qvf (s : Str) : JcE s = some (qve s) := by
 unfold JcE qve
 by_cases q : s.length < 1 ∨ s.length > 15
 ·rw [qzv (by simp; omega)]
  rcases q with q | q
  ·have : s = [] := List.length_eq_zero_iff.1 (by omega)
   subst this; rfl
  ·rw [qzu (by omega)]
 ·rw [qzu (by simp; omega), qab (by simp only [qax]; omega), qtt s 0 0 0 (by omega) (by decide) (by omega), qzt]
  by_cases q2 : s.all dig = true
  ·rw [qzv q2, qzv ⟨by omega, q2⟩]; rfl
  ·rw [qzu q2, qzu (by simp [q2])]; rfl
theorem qp9 {s : Str} (hs : s.length ≤ 1000000) : ∀ (m j : Nat) (y : Int), 0 ≤ y → y < 10 ^ j → j ≤ 15 → j ≤ s.length → s.length - j < m →
  JbD s m y (j : Int) = some (if s.length ≤ 15 ∧ (s.drop j).all dig = true then .go ((s.drop j).foldl nst y, (s.length : Int)) else .ret 0)
 | 0, j, y, _, _, _, _, h => by omega
 | m + 1, j, y, h0, h1, hj, hl, h => by
  rw [JbD]
  by_cases q : j < s.length
  ·have hix : ix s (j : Int) = some s[j] := by unfold ix; rw [qzv (by omega), Int.toNat_natCast, List.getElem?_eq_getElem q]
   have hc : (((ix s (j : Int)).bind fun x13 =>
     (if decide ((x13.toNat : Int) < 48) then some true else (ix s (j : Int)).bind fun x18 => some (decide ((x18.toNat : Int) > 57))).bind fun x20 =>
     some (x20 || decide ((j : Int) = 15))) : Option (Bool)) = some (!dig s[j] || decide ((j : Int) = 15)) := by
    rw [hix, qzt, qzt, qtr, qzt]
   rw [qzv (by simpa using q), hc, qzt, hix, List.drop_eq_getElem_cons q, List.all_cons, List.foldl_cons]
   cases qd : dig s[j] with
   | false => rw [qzv (by simp), qzu (by simp)]
   | true =>
    by_cases q15 : j = 15
    ·rw [qzv (by simp; omega), qzu (by omega)]
    ·have hb := qts qd h0 h1
     have hp := p15 (show j ≤ 15 by omega)
     have hp1 := p15 (show j + 1 ≤ 15 by omega)
     have hd := qlc qd
     have e : (10 * y) + ((s[j] - (48 : UInt8)).toNat : Int) = nst y s[j] := rfl
     rw [qzu (by simp; omega), qab (by constructor <;> omega), qzt, e, qab (by constructor <;> omega), qab (by constructor <;> omega)]
     have ih := qp9 hs m (j + 1) (nst y s[j]) hb.1 hb.2 (by omega) (by omega) (by omega)
     rw [show ((j : Int) + 1) = ((j + 1 : Nat) : Int) by omega, ih, Bool.true_and]
  ·have e : j = s.length := by omega
   subst e
   rw [qzu (by simp), List.drop_length, qzv ⟨hj, rfl⟩]; rfl
theorem qw3 {n : Nat} {s : Str} (hn : 1000002 ≤ n) (hs : s.length ≤ 1000000) : Jc1 n s = some (qve s) := by
 unfold Jc1 qve
 have h := qp9 hs n 0 0 (by omega) (by decide) (by omega) (by omega) (by omega)
 rw [show ((0 : Nat) : Int) = 0 from rfl] at h
 rw [h, qzt, List.drop_zero]
 by_cases q : s.length ≤ 15 ∧ s.all dig = true
 ·rw [qzv q, qzv q]; rfl
 ·rw [qzu q, qzu q]; rfl
theorem qhc : ∀ (r p : Str), JaO r.length p.length (p ++ r) = some (p ++ low r)
 | [], p => by simp [JaO, low]
 | c :: r, p => by
  rw [List.length_cons, JaO, qti, qzt]
  have hl : (p ++ [lowB c]).length = p.length + 1 := by simp
  by_cases q : (decide ((c.toNat : Int) ≥ 65) && decide ((c.toNat : Int) ≤ 90)) = true
  ·have e : lowB c = c + 32 := by unfold lowB; rw [qzv q]
   rw [qzv q, qzt, qpu, ← e, ← hl, qhc r (p ++ [lowB c])]; simp [low]
  ·have e : lowB c = c := by unfold lowB; rw [qzu q]
   have e2 : p ++ c :: r = (p ++ [lowB c]) ++ r := by rw [e]; simp
   rw [qzu q, e2, ← hl, qhc r (p ++ [lowB c])]; simp [low]
theorem qtu {s : Str} (h : s.length ≤ 1073741824) : Jdq s = some (low s) := by
 unfold Jdq
 have := qhc s []
 simp only [List.length_nil, List.nil_append] at this
 rw [qab (by simp only [lim]; omega), qab (by constructor <;> omega), Int.toNat_natCast, this]; rfl
theorem low_len (s : Str) : (low s).length = s.length := by simp [low]
theorem qqa (sep : Str) : ∀ l : List Str, (jt sep l).length ≤ sep.length * l.length + qn2 l
 | [] => by simp [qtj]
 | x :: l => by
  have := qqa sep l
  rw [qpx, qe4, List.length_append, List.length_append, List.length_cons, Nat.mul_succ]
  omega
theorem qvg (sep : Str) (l : List Str) : (jn l sep).length ≤ sep.length * l.length + qn2 l := by
 cases l with
 | nil => rw [qwx]; simp
 | cons x l =>
  have := qqa sep l
  rw [qk9, qe4, List.length_append, List.length_cons, Nat.mul_succ]; omega
def qqy (f : List RF) (nm : Str) : Str := jn (vals f nm) [44, 32]
theorem qiu (f : List RF) (nm : Str) : (qqy f nm).length ≤ 3 * tot f := by
 have h1 := qvg [44, 32] (vals f nm)
 have h2 := qe5 nm f
 have h3 := qf7 (vals f nm)
 unfold qqy
 simp only [List.length_cons, List.length_nil] at h1
 omega
theorem qm3 {f : List RF} {nm : Str} (h : tot f ≤ 1000000) (hn : nm.length ≤ 1000000) : JdX (ffs f) nm = some (qqy f nm, decide (((vals f nm).length : Int) > 0)) := by
 have h1 := qiu f nm
 have h2 := qe5 nm f
 have h3 := qf7 (vals f nm)
 unfold qqy at h1
 unfold JdX qqy
 rw [qzl h hn, qzt, qu8 (by omega) (by omega), qzt]
theorem qtv : ∀ (l : List Str) (i : Nat) (y : Str), 0 < i → y.length + (jt [44, 32] l).length ≤ 100000000 → Jbx l i y = some (y ++ jt [44, 32] l)
 | [], i, y, _, _ => by simp [Jbx, qtj]
 | x :: l, i, y, hi, h => by
  rw [qpx] at h ⊢
  simp only [List.length_append, List.length_cons, List.length_nil] at h
  rw [Jbx, qzv (by simpa using hi), qab (by simp only [lim, List.length_cons, List.length_nil]; omega), qab (by simp only [lim, List.length_append, List.length_cons, List.length_nil]; omega), qtv l (i + 1) _ (by omega) (by simp only [List.length_append, List.length_cons, List.length_nil]; omega)]
  simp
theorem qqb {f : List RF} {nm : Str} (h : tot f ≤ 1000000) (hn : nm.length ≤ 1000000) : Jd6 f nm = some (qqy f nm, decide (((vals f nm).length : Int) > 0)) := by
 have h1 := qiu f nm
 have h2 := qe5 nm f
 have h3 := qf7 (vals f nm)
 unfold qqy at h1
 unfold Jd6 qqy
 rw [qzm h hn, qzt, qab (by simp only [qax]; omega)]
 cases e : vals f nm with
 | nil => rfl
 | cons x l =>
  rw [e, qk9] at h1
  simp only [List.length_append] at h1
  rw [Jbx, qzu (by simp), qab (by simp only [lim, List.length_nil]; omega), qtv l _ _ (by omega) (by simp; omega), qk9]; rfl
abbrev V1 := Jd
abbrev V2 := Jl
abbrev In1 := JG
abbrev In2 := Ju
def clip (n : Int) : Int := max (-1099511627776) (min n 1099511627776)
theorem qqc (n : Int) : -1099511627776 ≤ clip n ∧ clip n ≤ 1099511627776 := by unfold clip; omega
def nm' (n : Int) : V1 := ⟨2, clip n, [], false⟩
def tx' (s : Str) : V1 := ⟨1, 0, s, false⟩
def tr' (b : Bool) : V1 := ⟨3, 0, [], b⟩
def cv2 (x : V1) : V2 := ⟨x.kind, x.n, x.s, x.At⟩
def inp (i : In2) : In1 := ⟨i.Am, i.An, i.Ae, i.Af, ffs i.Ao⟩
structure IOK (i : In2) : Prop where
 m : i.Am.length ≤ 10000
 h : i.An.length ≤ 10000
 p : i.Ae.length ≤ 10000
 q : i.Af.length ≤ 10000
 f : tot i.Ao ≤ 10000
def VOK (m : Nat) (x : V1) : Prop := x.s.length ≤ m ∧ -1099511627776 ≤ x.n ∧ x.n ≤ 1099511627776
theorem qsg (n : Int) : JbH n = some (nm' n) := rfl
theorem qw4 (s : Str) : JaA s = some (tx' s) := rfl
theorem qj5 (b : Bool) : JaC b = some (tr' b) := rfl
theorem qvy (n : Int) : Jcm n = some (cv2 (nm' n)) := rfl
theorem qw5 (s : Str) : JaW s = some (cv2 (tx' s)) := rfl
theorem qny (m : Nat) (n : Int) : VOK m (nm' n) := ⟨Nat.zero_le _, (qqc n).1, (qqc n).2⟩
theorem qhf (m : Nat) (b : Bool) : VOK m (tr' b) := ⟨Nat.zero_le _, by simp [tr'], by simp [tr']⟩
theorem qf2 {m : Nat} {s : Str} (h : s.length ≤ m) : VOK m (tx' s) := ⟨h, by simp [tx'], by simp [tx']⟩
theorem qqd (a b : Int) : 0 ≤ max a (-a) * max b (-b) ∧ ((decide (a < 0) == decide (b < 0)) = true → a * b = max a (-a) * max b (-b)) ∧ ((decide (a < 0) == decide (b < 0)) = false → a * b = -(max a (-a) * max b (-b))) := by
 have ha : 0 ≤ max a (-a) := by omega
 have hb : 0 ≤ max b (-b) := by omega
 refine ⟨Int.mul_nonneg ha hb, ?_, ?_⟩
 ·intro h
  by_cases qa : a < 0 <;> by_cases qb : b < 0
  ·rw [show max a (-a) = -a by omega, show max b (-b) = -b by omega, Int.neg_mul_neg]
  ·simp [qa, qb] at h
  ·simp [qa, qb] at h
  ·rw [show max a (-a) = a by omega, show max b (-b) = b by omega]
 ·intro h
  by_cases qa : a < 0 <;> by_cases qb : b < 0
  ·simp [qa, qb] at h
  ·rw [show max a (-a) = -a by omega, show max b (-b) = b by omega, Int.neg_mul, Int.neg_neg]
  ·rw [show max a (-a) = a by omega, show max b (-b) = -b by omega, Int.mul_neg, Int.neg_neg]
  ·simp [qa, qb] at h
theorem qqe {a b : Int} (a0 : -1099511627776 ≤ a) (a1 : a ≤ 1099511627776) (b0 : -1099511627776 ≤ b) (b1 : b ≤ 1099511627776) : JcM a b = some (nm' (a * b)) := by
 unfold JcM
 by_cases q0 : a = 0 ∨ b = 0
 ·rw [qzv (by simpa using q0), qsg, qzt]
  rcases q0 with rfl | rfl <;> simp
 ·rw [qzu (by simpa using q0), qab (by constructor <;> omega), qab (by constructor <;> omega)]
  obtain ⟨p0, p1, p2⟩ := qqd a b
  have hx : 0 < max a (-a) := by omega
  have hy : 0 < max b (-b) := by omega
  have hx1 : max a (-a) ≤ 1099511627776 := by omega
  have hy1 : max b (-b) ≤ 1099511627776 := by omega
  have hng : (!(decide (a < 0) == decide (b < 0))) = true ↔ (decide (a < 0) == decide (b < 0)) = false := by simp
  generalize max a (-a) = x at *
  generalize max b (-b) = y at *
  have ed : Int.tdiv 1099511627776 y = 1099511627776 / y := Int.tdiv_eq_ediv_of_nonneg (by omega)
  have hq0 : 0 ≤ 1099511627776 / y := Int.ediv_nonneg (by omega) (by omega)
  have hq1 : 1099511627776 / y ≤ 1099511627776 := Int.ediv_le_self _ (by omega)
  rw [ed, qab ⟨by omega, by omega, by omega⟩]
  by_cases q : x > 1099511627776 / y
  ·have hxy : 1099511627776 < x * y := (Int.ediv_lt_iff_lt_mul hy).1 q
   rw [qzv (by simpa using q), qzt]
   by_cases qs : (decide (a < 0) == decide (b < 0)) = true
   ·rw [qzu (by simp [qs]), qab (by decide), qsg, qzt, p1 qs]
    congr 1
    unfold nm' clip; congr 1; omega
   ·have qs : (decide (a < 0) == decide (b < 0)) = false := by simpa using qs
    rw [qzv (hng.2 qs), qab (by decide), qab (by decide), qsg, qzt, p2 qs]
    congr 1
    unfold nm' clip; congr 1; omega
  ·have hxy : x * y ≤ 1099511627776 := by
    by_cases w : 1099511627776 < x * y
    ·exact absurd ((Int.ediv_lt_iff_lt_mul hy).2 w) q
    ·omega
   rw [qzu (by simpa using q), qzt]
   by_cases qs : (decide (a < 0) == decide (b < 0)) = true
   ·rw [qzu (by simp [qs]), qab (by simp only; constructor <;> omega), qsg, qzt, p1 qs]
   ·have qs : (decide (a < 0) == decide (b < 0)) = false := by simpa using qs
    rw [qzv (hng.2 qs), qab (by simp only; constructor <;> omega), qab (by simp only; rw [Int.neg_mul]; constructor <;> omega), qsg, qzt, p2 qs]
    simp only [Int.neg_mul]
theorem qsh {a b : Int} (a0 : -1099511627776 ≤ a) (a1 : a ≤ 1099511627776) (b0 : -1099511627776 ≤ b) (b1 : b ≤ 1099511627776) : Jdc a b = some (cv2 (nm' (a * b))) := by
 unfold Jdc
 by_cases q0 : a = 0
 ·subst q0
  rw [qzu (by simp), qzt, qzu (by simp), Int.zero_mul, qab (by decide), qvy]; rfl
 ·obtain ⟨p0, p1, p2⟩ := qqd a b
  have hx : 0 < max a (-a) := by omega
  have hx1 : max a (-a) ≤ 1099511627776 := by omega
  have hy0 : 0 ≤ max b (-b) := by omega
  have ed : Int.tdiv 2199023255552 (max a (-a)) = 2199023255552 / max a (-a) := Int.tdiv_eq_ediv_of_nonneg (by omega)
  have hq0 : 0 ≤ 2199023255552 / max a (-a) := Int.ediv_nonneg (by omega) (by omega)
  have hq1 : 2199023255552 / max a (-a) ≤ 2199023255552 := Int.ediv_le_self _ (by omega)
  have hc : ((if decide (a ≠ 0) then
   (chk (InI (-a))).bind fun _ =>
   (chk ((max a (-a)) ≠ 0 ∧ InI (Int.tdiv 2199023255552 (max a (-a))))).bind fun _ =>
   (if decide (b > (Int.tdiv 2199023255552 (max a (-a)))) then some true else (chk (InI (-a))).bind fun _ =>
   (chk ((max a (-a)) ≠ 0 ∧ InI (Int.tdiv 2199023255552 (max a (-a))))).bind fun _ =>
   (chk (InI (-(Int.tdiv 2199023255552 (max a (-a)))))).bind fun _ =>
   some (decide (b < (-(Int.tdiv 2199023255552 (max a (-a))))))).bind fun x24 =>
   some x24
   else
   some false) : Option (Bool)) = some (decide (max b (-b) > 2199023255552 / max a (-a))) := by
   rw [ed, qzv (by simpa using q0), qab (by constructor <;> omega), qab ⟨by omega, by omega, by omega⟩]
   by_cases q : b > 2199023255552 / max a (-a)
   ·rw [qzv (by simpa using q), qzt, decide_eq_true (by omega)]
   ·rw [qzu (by simpa using q), qab (by constructor <;> omega), qab ⟨by omega, by omega, by omega⟩, qab (by constructor <;> omega), qzt]
    congr 1
    rw [decide_eq_decide]; omega
  rw [hc, qzt]
  by_cases q : max b (-b) > 2199023255552 / max a (-a)
  ·have hxy : 2199023255552 < max a (-a) * max b (-b) := by rw [Int.mul_comm]; exact (Int.ediv_lt_iff_lt_mul hx).1 q
   have hb0 : b ≠ 0 := fun e => by subst e; omega
   rw [qzv (by simpa using q)]
   have es : (decide (a > 0) == decide (b > 0)) = (decide (a < 0) == decide (b < 0)) := by
    by_cases qa : a < 0 <;> by_cases qb : b < 0
    ·rw [decide_eq_false (show ¬ a > 0 by omega), decide_eq_false (show ¬ b > 0 by omega), decide_eq_true qa, decide_eq_true qb]; rfl
    ·rw [decide_eq_false (show ¬ a > 0 by omega), decide_eq_true (show b > 0 by omega), decide_eq_true qa, decide_eq_false qb]; rfl
    ·rw [decide_eq_true (show a > 0 by omega), decide_eq_false (show ¬ b > 0 by omega), decide_eq_false qa, decide_eq_true qb]; rfl
    ·rw [decide_eq_true (show a > 0 by omega), decide_eq_true (show b > 0 by omega), decide_eq_false qa, decide_eq_false qb]; rfl
   rw [es]
   by_cases qs : (decide (a < 0) == decide (b < 0)) = true
   ·rw [qzv qs, qvy, qzt, p1 qs]
    congr 2
    unfold nm' clip; congr 1; omega
   ·have qs : (decide (a < 0) == decide (b < 0)) = false := by simpa using qs
    rw [qzu (by simp [qs]), qvy, qzt, p2 qs]
    congr 2
    unfold nm' clip; congr 1; omega
  ·have hxy : max a (-a) * max b (-b) ≤ 2199023255552 := by
    by_cases w : 2199023255552 < max a (-a) * max b (-b)
    ·exact absurd ((Int.ediv_lt_iff_lt_mul hx).2 (by rw [Int.mul_comm]; exact w)) q
    ·omega
   have hin : InI (a * b) := by
    by_cases qs : (decide (a < 0) == decide (b < 0)) = true
    ·rw [p1 qs]; constructor <;> omega
    ·rw [p2 (by simpa using qs)]; constructor <;> omega
   rw [qzu (by simpa using q), qab hin, qvy]; rfl
theorem qm4 {n m : Nat} {nm : Str} {x : V1} {i : In2} (hn : 1000002 ≤ n) (hm : m ≤ 20000) (hi : IOK i) (hx : VOK m x) :
  ∃ v ok, JL nm x (inp i) = some (v, ok) ∧ (∃ w, JaX n nm (cv2 x) i = some (w, ok) ∧ (ok = true → w = cv2 v)) ∧ (ok = true → VOK 40000 v) := by
 obtain ⟨hx0, hx1, hx2⟩ := hx
 have hsg := qmz i.Ae
 have hip := hi.p
 have hsl : x.s.length ≤ 1000000 := by omega
 have hft : tot i.Ao ≤ 1000000 := by have := hi.f; omega
 have hgl := qiu i.Ao x.s
 have hif := hi.f
 have hs2 : (cv2 x).N = x.n := rfl
 have main2 : ∀ {b : V1}, VOK 40000 b → ∀ {o1 : Option (V1 × Bool)} {o2 : Option (V2 × Bool)}, o1 = (if decide (x.kind ≠ 2) = true then some (⟨0, 0, [], false⟩, false) else some (b, true)) → (∃ w, o2 = some (w, decide ((cv2 x).As = 2)) ∧ (x.kind = 2 → w = cv2 b)) →
   ∃ v ok, o1 = some (v, ok) ∧ (∃ w, o2 = some (w, ok) ∧ (ok = true → w = cv2 v)) ∧ (ok = true → VOK 40000 v) := by
  rintro b hb o1 o2 h1 ⟨w, h2, h3⟩
  by_cases k : x.kind = 2
  ·rw [qzu (by simpa using k)] at h1
   rw [decide_eq_true (show (cv2 x).As = 2 from k)] at h2
   exact ⟨_, _, h1, ⟨_, h2, fun _ => h3 k⟩, fun _ => hb⟩
  ·rw [qzv (by simpa using k)] at h1
   rw [decide_eq_false (show ¬ (cv2 x).As = 2 from k)] at h2
   exact ⟨_, _, h1, ⟨_, h2, fun h => by cases h⟩, fun h => by cases h⟩
 by_cases q1 : nm = [112, 97, 114, 116]
 ·subst q1
  have e1 : JL [112, 97, 114, 116] x (inp i) = if decide (x.kind ≠ 2) = true then some (⟨0, 0, [], false⟩, false) else if (decide (x.n < 0) || decide (x.n ≥ ((qnx i.Ae).length : Int))) = true then some (tx' [], true) else (ix (qnx i.Ae) x.n).bind fun z => some (tx' z, true) := by
   unfold JL
   rw [qzv (by decide), qzu (show ¬ decide (([112, 97, 114, 116] : Str) = [116, 101, 120, 116]) = true by decide), show (inp i).Ae = i.Ae from rfl, qp1 (by omega)]
   rfl
  have e2 : JaX n [112, 97, 114, 116] (cv2 x) i = if ((decide ((cv2 x).As = 2) && decide (x.n ≥ 0)) && decide (x.n < ((qnx i.Ae).length : Int))) = true then (ix (qnx i.Ae) x.n).bind fun z => some (cv2 (tx' z), true) else some (cv2 (tx' []), decide ((cv2 x).As = 2)) := by
   unfold JaX
   rw [qzv (by decide), qsa (by omega)]
   rfl
  by_cases r : 0 ≤ x.n ∧ x.n < (qnx i.Ae).length
  ·obtain ⟨z, hz⟩ := qcy r.1 r.2
   have hzl : z.length ≤ i.Ae.length := by
    unfold ix at hz
    rw [qzv r.1] at hz
    exact qsb (List.mem_of_getElem? hz)
   rw [hz, qzt] at e1 e2
   refine main2 (b := tx' z) (qf2 (by omega)) ?_ ?_
   ·rw [e1]; congr 1; rw [qzu (by simp; omega)]
   ·rw [e2]
    by_cases k : x.kind = 2
    ·rw [qzv (by simp [cv2, k]; omega)]
     exact ⟨_, by rw [decide_eq_true (show (cv2 x).As = 2 from k)], fun _ => rfl⟩
    ·rw [qzu (by simp [cv2, k])]
     exact ⟨_, rfl, fun h => absurd h k⟩
  ·refine main2 (b := tx' []) (qf2 (by simp)) ?_ ?_
   ·rw [e1]; congr 1; rw [qzv (by simp; omega)]
   ·rw [e2, qzu (by simp; omega)]
    exact ⟨_, rfl, fun _ => rfl⟩
 by_cases q2 : nm = [116, 101, 120, 116]
 ·subst q2
  have hil := qsf hx1 hx2
  refine main2 (b := tx' (Go.Lib.itoa x.n)) (qf2 (by omega)) ?_ ?_
  ·unfold JL
   rw [qzv (by decide), qzv (show decide (([116, 101, 120, 116] : Str) = [116, 101, 120, 116]) = true by decide), qm2 hx1 hx2]; rfl
  ·unfold JaX
   rw [qzu (by decide), qzv (by decide), hs2, qw2 (by omega) hx1 hx2]
   exact ⟨_, rfl, fun _ => rfl⟩
 have hs : (cv2 x).S = x.s := rfl
 have main : ∀ {b : V1}, VOK 40000 b → ∀ {o1 : Option (V1 × Bool)} {o2 : Option (V2 × Bool)}, o1 = (if decide (x.kind ≠ 1) = true then some (⟨0, 0, [], false⟩, false) else some (b, true)) → o2 = some (cv2 b, decide ((cv2 x).As = 1)) →
   ∃ v ok, o1 = some (v, ok) ∧ (∃ w, o2 = some (w, ok) ∧ (ok = true → w = cv2 v)) ∧ (ok = true → VOK 40000 v) := by
  intro b hb o1 o2 h1 h2
  by_cases k : x.kind = 1
  ·rw [qzu (by simpa using k)] at h1
   rw [decide_eq_true (show (cv2 x).As = 1 from k)] at h2
   exact ⟨_, _, h1, ⟨_, h2, fun _ => rfl⟩, fun _ => hb⟩
  ·rw [qzv (by simpa using k)] at h1
   rw [decide_eq_false (show ¬ (cv2 x).As = 1 from k)] at h2
   exact ⟨_, _, h1, ⟨_, h2, fun h => by cases h⟩, fun h => by cases h⟩
 by_cases q3 : nm = [104, 101, 97, 100, 101, 114]
 ·subst q3
  refine main (b := tx' (qqy i.Ao x.s)) (qf2 (by omega)) ?_ ?_
  ·unfold JL
   rw [qzu (by decide)]
   congr 1
   rw [qzv (by decide), show (inp i).Ao = ffs i.Ao from rfl, qm3 hft hsl]; rfl
  ·unfold JaX
   rw [qzu (by decide), qzu (by decide), qzv (by decide), hs, qqb hft hsl]; rfl
 by_cases q4 : nm = [104, 97, 115]
 ·subst q4
  refine main (b := tr' (decide (((vals i.Ao x.s).length : Int) > 0))) (qhf _ _) ?_ ?_
  ·unfold JL
   rw [qzu (by decide)]
   congr 1
   rw [qzu (by decide), qzv (by decide), show (inp i).Ao = ffs i.Ao from rfl, qm3 hft hsl]; rfl
  ·unfold JaX
   rw [qzu (by decide), qzu (by decide), qzu (by decide), qzv (by decide), hs, qqb hft hsl]; rfl
 by_cases q5 : nm = [97, 114, 103]
 ·subst q5
  have hqq := hi.q
  have hal := qsc i.Af x.s
  obtain ⟨b1, h1⟩ := qtq (q := i.Af) (nm := x.s) (by omega) hsl
  obtain ⟨b2, h2⟩ := qvc (q := i.Af) (nm := x.s) (by omega) hsl
  refine main (b := tx' (qvb i.Af x.s)) (qf2 (by omega)) ?_ ?_
  ·unfold JL
   rw [qzu (by decide)]
   congr 1
   rw [qzu (by decide), qzu (by decide), qzv (by decide), show (inp i).Af = i.Af from rfl, h1]; rfl
  ·unfold JaX
   rw [qzu (by decide), qzu (by decide), qzu (by decide), qzu (by decide), qzv (by decide), hs, h2]; rfl
 by_cases q6 : nm = [108, 101, 110]
 ·subst q6
  refine main (b := nm' (x.s.length : Int)) (qny _ _) ?_ ?_
  ·unfold JL
   rw [qzu (by decide)]
   congr 1
  ·unfold JaX
   rw [qzu (by decide), qzu (by decide), qzu (by decide), qzu (by decide), qzu (by decide), qzv (by decide)]; rfl
 by_cases q7 : nm = [108, 111, 119, 101, 114]
 ·subst q7
  refine main (b := tx' (low x.s)) (qf2 (by rw [low_len]; omega)) ?_ ?_
  ·unfold JL
   rw [qzu (by decide)]
   congr 1
   rw [qzu (by decide), qzu (by decide), qzu (by decide), qzu (by decide), qzv (by decide), qtu (by omega)]; rfl
  ·unfold JaX
   rw [qzu (by decide), qzu (by decide), qzu (by decide), qzu (by decide), qzu (by decide), qzu (by decide), qzv (by decide), hs, qg7 (by omega)]; rfl
 refine main (b := nm' (qve x.s)) (qny _ _) ?_ ?_
 ·unfold JL
  rw [qzu (by simp [q1, q2])]
  congr 1
  rw [qzu (by simpa using q3), qzu (by simpa using q4), qzu (by simpa using q5), qzu (by simpa using q6), qzu (by simpa using q7), qvf]; rfl
 ·unfold JaX
  rw [qzu (by simpa using q1), qzu (by simpa using q2), qzu (by simpa using q3), qzu (by simpa using q4), qzu (by simpa using q5), qzu (by simpa using q6), qzu (by simpa using q7), hs, qw3 hn hsl]; rfl
def qw6 (a b : Str) : Bool := decide ((a.length : Int) ≥ (b.length : Int)) && decide (subL a ((a.length : Int) - (b.length : Int)) (a.length : Int) = b)
theorem sfx {a b : Str} (h : a.length ≤ 1000000) (hb : b.length ≤ 1000000) : Jb8 a b = some (qw6 a b) := by
 unfold Jb8 JaD qw6
 by_cases h : (a.length : Int) ≥ (b.length : Int)
 ·rw [qzv (by simpa using h), qab (by constructor <;> omega), qab (by omega)]; simp [h]
 ·rw [qzu (by simpa using h)]
  have : ¬ b.length ≤ a.length := by omega
  simp [this]
theorem pfx (a b : Str) : J2 a b = some (Rc.hp a b) := by rw [qgw, Rc.hp_eq]
theorem qzp (a b : Str) : (if decide ((a.length : Int) ≥ (b.length : Int)) then (chk (0 ≤ (0 : Int) ∧ (0 : Int) ≤ (min (a.length : Int) (b.length : Int)) ∧ (min (a.length : Int) (b.length : Int)) ≤ (a.length : Int))).bind fun _ =>
 some (decide ((subL a (0 : Int) (min (a.length : Int) (b.length : Int))) = b)) else some false) = some (Rc.hp a b) := by
 rw [← Rc.hp_eq]
 by_cases h : (a.length : Int) ≥ (b.length : Int)
 ·rw [qzv (by simpa using h), qab (by omega), decide_eq_true h, Bool.true_and, show min (a.length : Int) (b.length : Int) = b.length by omega]
 ·rw [qzu (by simpa using h), decide_eq_false h, Bool.false_and]
theorem qzq {a b : Str} (ha : a.length ≤ 1000000) (hb : b.length ≤ 1000000) : (if decide ((a.length : Int) ≥ (b.length : Int)) then (chk (InI ((a.length : Int) - (b.length : Int)))).bind fun _ =>
 (chk (0 ≤ (max 0 ((a.length : Int) - (b.length : Int))) ∧ (max 0 ((a.length : Int) - (b.length : Int))) ≤ (a.length : Int) ∧ (a.length : Int) ≤ (a.length : Int))).bind fun _ =>
 some (decide ((subL a (max 0 ((a.length : Int) - (b.length : Int))) (a.length : Int)) = b)) else some false) = some (qw6 a b) := by
 unfold qw6
 by_cases h : (a.length : Int) ≥ (b.length : Int)
 ·rw [qzv (by simpa using h), qab (by constructor <;> omega), qab (by omega), decide_eq_true h, Bool.true_and, show max 0 ((a.length : Int) - (b.length : Int)) = (a.length : Int) - (b.length : Int) by omega]
 ·rw [qzu (by simpa using h), decide_eq_false h, Bool.false_and]
def eqB (a b : V1) : Bool := decide (a.kind = b.kind) && (decide (a.n = b.n) && (decide (a.s = b.s) && (a.At == b.At)))
theorem qtw {n m : Nat} {op : Str} {a b : V1} (hn : 1000002 ≤ n) (hm : m ≤ 20000) (ha : VOK m a) (hb : VOK m b) :
  ∃ v ok, JS op a b = some (v, ok) ∧ (∃ w, JT n op (cv2 a) (cv2 b) = some (w, ok) ∧ (ok = true → w = cv2 v)) ∧ (ok = true → VOK 40000 v) := by
 obtain ⟨ha0, ha1, ha2⟩ := ha
 obtain ⟨hb0, hb1, hb2⟩ := hb
 have hA : a.s.length ≤ 1000000 := by omega
 have hB : b.s.length ≤ 1000000 := by omega
 have main : ∀ {T : Int} {v : V1}, VOK 40000 v → ∀ {o1 : Option (V1 × Bool)} {o2 : Option (V2 × Bool)}, o1 = (if decide (a.kind ≠ b.kind) = true then some (⟨0, 0, [], false⟩, false) else some (v, decide (a.kind = T))) → o2 = some (cv2 v, decide (a.kind = T) && decide (b.kind = T)) →
   ∃ v ok, o1 = some (v, ok) ∧ (∃ w, o2 = some (w, ok) ∧ (ok = true → w = cv2 v)) ∧ (ok = true → VOK 40000 v) := by
  intro T v hv o1 o2 h1 h2
  by_cases k : a.kind = b.kind
  ·rw [qzu (by simpa using k)] at h1
   rw [← k, Bool.and_self] at h2
   exact ⟨_, _, h1, ⟨_, h2, fun _ => rfl⟩, fun _ => hv⟩
  ·rw [qzv (by simpa using k)] at h1
   have : (decide (a.kind = T) && decide (b.kind = T)) = false := by
    by_cases q : a.kind = T
    ·have : ¬ b.kind = T := fun e => k (by rw [q, e])
     simp [this]
    ·simp [q]
   rw [this] at h2
   exact ⟨_, _, h1, ⟨_, h2, fun h => by cases h⟩, fun h => by cases h⟩
 have mainE : ∀ {v : V1}, VOK 40000 v → ∀ {o1 : Option (V1 × Bool)} {o2 : Option (V2 × Bool)}, o1 = (if decide (a.kind ≠ b.kind) = true then some (⟨0, 0, [], false⟩, false) else some (v, true)) → o2 = some (cv2 v, decide (a.kind = b.kind)) →
   ∃ v ok, o1 = some (v, ok) ∧ (∃ w, o2 = some (w, ok) ∧ (ok = true → w = cv2 v)) ∧ (ok = true → VOK 40000 v) := by
  intro v hv o1 o2 h1 h2
  by_cases k : a.kind = b.kind
  ·rw [qzu (by simpa using k)] at h1
   rw [decide_eq_true k] at h2
   exact ⟨_, _, h1, ⟨_, h2, fun _ => rfl⟩, fun _ => hv⟩
  ·rw [qzv (by simpa using k)] at h1
   rw [decide_eq_false k] at h2
   exact ⟨_, _, h1, ⟨_, h2, fun h => by cases h⟩, fun h => by cases h⟩
 by_cases q1 : op = [43]
 ·subst q1
  have e1 : JS [43] a b = if decide (a.kind ≠ b.kind) = true then some (⟨0, 0, [], false⟩, false) else if decide (a.kind = 1) = true then some (tx' (a.s ++ b.s), true) else some (nm' (a.n + b.n), decide (a.kind = 2)) := by
   unfold JS
   congr 1
   rw [qzv (by decide)]
   congr 1
   ·rw [qab (by simp only [lim]; omega), qw4]; rfl
   ·rw [qab (by constructor <;> omega), qsg]; rfl
  have e2 : JT n [43] (cv2 a) (cv2 b) = if (decide (a.kind = 1) && decide (b.kind = 1)) = true then some (cv2 (tx' (a.s ++ b.s)), true) else some (cv2 (nm' (a.n + b.n)), (decide (a.kind = 2) && decide (b.kind = 2))) := by
   unfold JT
   rw [qzv (by decide)]
   congr 1
   ·rw [qab (by simp only [lim, cv2]; omega), qw5]; rfl
   ·rw [qab (by simp only [cv2]; constructor <;> omega), qvy]; rfl
  by_cases k : a.kind = 1
  ·by_cases k2 : b.kind = 1
   ·rw [qzu (by simp [k, k2]), qzv (by simpa using k)] at e1
    rw [qzv (by simp [k, k2])] at e2
    exact ⟨_, _, e1, ⟨_, e2, fun _ => rfl⟩, fun _ => qf2 (by simp; omega)⟩
   ·rw [qzv (by rw [k]; simp; exact fun e => k2 e.symm)] at e1
    rw [qzu (by simp [k2]), show (decide (a.kind = 2) && decide (b.kind = 2)) = false by simp [k]] at e2
    exact ⟨_, _, e1, ⟨_, e2, fun h => by cases h⟩, fun h => by cases h⟩
  ·exact main (qny 40000 (a.n + b.n)) (by rw [e1]; congr 1; rw [qzu (by simpa using k)]) (by rw [e2, qzu (by simp [k])])
 by_cases q2 : op = [45]
 ·subst q2
  refine main (T := 2) (qny 40000 (a.n - b.n)) ?_ ?_
  ·unfold JS
   congr 1
   rw [qzu (by decide), qzv (by decide), qab (by constructor <;> omega), qsg]; rfl
  ·unfold JT
   rw [qzu (by decide), qzv (by decide), qab (by simp only [cv2]; constructor <;> omega), qvy]; rfl
 by_cases q3 : op = [42]
 ·subst q3
  have e1 : JS [42] a b = if decide (a.kind ≠ b.kind) = true then some (⟨0, 0, [], false⟩, false) else if (!decide (a.kind = 2)) = true then some (⟨0, 0, [], false⟩, false) else some (nm' (a.n * b.n), true) := by
   unfold JS
   congr 1
   rw [qzu (by decide), qzu (by decide), qzv (by decide), qqe ha1 ha2 hb1 hb2]; rfl
  have e2 : JT n [42] (cv2 a) (cv2 b) = some (cv2 (nm' (a.n * b.n)), (decide (a.kind = 2) && decide (b.kind = 2))) := by
   unfold JT
   rw [qzu (by decide), qzu (by decide), qzv (by decide), show (cv2 a).N = a.n from rfl, show (cv2 b).N = b.n from rfl, qsh ha1 ha2 hb1 hb2]; rfl
  by_cases k : a.kind = 2
  ·exact main (T := 2) (qny 40000 (a.n * b.n)) (by rw [e1]; congr 1; rw [qzu (by simp [k]), decide_eq_true k]) e2
  ·rw [qzv (show (!decide (a.kind = 2)) = true by simp [k])] at e1
   rw [show (decide (a.kind = 2) && decide (b.kind = 2)) = false by simp [k]] at e2
   refine ⟨⟨0, 0, [], false⟩, false, ?_, ⟨_, e2, fun h => by cases h⟩, fun h => by cases h⟩
   rw [e1]; split <;> rfl
 by_cases q4 : op = [61, 61]
 ·subst q4
  refine mainE (qhf 40000 (eqB a b)) ?_ ?_
  ·unfold JS
   congr 1
  ·unfold JT
   rw [qzu (by decide), qzu (by decide), qzu (by decide), qzv (by decide)]; rfl
 by_cases q5 : op = [33, 61]
 ·subst q5
  refine mainE (qhf 40000 (!eqB a b)) ?_ ?_
  ·unfold JS
   congr 1
  ·unfold JT
   rw [qzu (by decide), qzu (by decide), qzu (by decide), qzu (by decide), qzv (by decide)]; rfl
 by_cases q6 : op = [60]
 ·subst q6
  refine main (T := 2) (qhf 40000 (decide (a.n < b.n))) ?_ ?_
  ·unfold JS
   congr 1
  ·unfold JT
   rw [qzu (by decide), qzu (by decide), qzu (by decide), qzu (by decide), qzu (by decide), qzv (by decide)]; rfl
 by_cases q7 : op = [60, 61]
 ·subst q7
  refine main (T := 2) (qhf 40000 (decide (a.n ≤ b.n))) ?_ ?_
  ·unfold JS
   congr 1
  ·unfold JT
   rw [qzu (by decide), qzu (by decide), qzu (by decide), qzu (by decide), qzu (by decide), qzu (by decide), qzv (by decide)]; rfl
 by_cases q8 : op = [115, 116, 97, 114, 116, 115]
 ·subst q8
  refine main (T := 1) (qhf 40000 (Rc.hp a.s b.s)) ?_ ?_
  ·unfold JS
   congr 1
   rw [qzu (by decide), qzu (by decide), qzu (by decide), qzu (by decide), qzu (by decide), qzu (by decide), qzu (by decide), qzv (by decide), pfx]; rfl
  ·unfold JT
   rw [qzu (by decide), qzu (by decide), qzu (by decide), qzu (by decide), qzu (by decide), qzu (by decide), qzu (by decide), qzv (by decide), show (cv2 a).S = a.s from rfl, show (cv2 b).S = b.s from rfl, qzp]; rfl
 by_cases q9 : op = [101, 110, 100, 115]
 ·subst q9
  refine main (T := 1) (qhf 40000 (qw6 a.s b.s)) ?_ ?_
  ·unfold JS
   congr 1
   rw [qzu (by decide), qzu (by decide), qzu (by decide), qzu (by decide), qzu (by decide), qzu (by decide), qzu (by decide), qzu (by decide), qzv (by decide), sfx hA hB]; rfl
  ·unfold JT
   rw [qzu (by decide), qzu (by decide), qzu (by decide), qzu (by decide), qzu (by decide), qzu (by decide), qzu (by decide), qzu (by decide), qzv (by decide), show (cv2 a).S = a.s from rfl, show (cv2 b).S = b.s from rfl, qzq hA hB]; rfl
 refine main (T := 1) (qhf 40000 (Go.Lib.contains a.s b.s)) ?_ ?_
 ·unfold JS
  congr 1
  rw [qzu (by simpa using q1), qzu (by simpa using q2), qzu (by simpa using q3), qzu (by simpa using q4), qzu (by simpa using q5), qzu (by simpa using q6), qzu (by simpa using q7), qzu (by simpa using q8), qzu (by simpa using q9), qfy hA]; rfl
 ·unfold JT
  rw [qzu (by simpa using q1), qzu (by simpa using q2), qzu (by simpa using q3), qzu (by simpa using q4), qzu (by simpa using q5), qzu (by simpa using q6), qzu (by simpa using q7), qzu (by simpa using q8), qzu (by simpa using q9), show (cv2 a).S = a.s from rfl, show (cv2 b).S = b.s from rfl, qse hn hA hB]; rfl
theorem qqf {nm : Str} {i : In2} (hi : IOK i) : ∃ v, Jam nm (inp i) = some v ∧ JcW nm i = some (cv2 v) ∧ VOK 10000 v := by
 unfold Jam JcW
 by_cases q1 : nm = [109, 101, 116, 104, 111, 100]
 ·subst q1; exact ⟨_, rfl, rfl, qf2 hi.m⟩
 by_cases q2 : nm = [104, 111, 115, 116]
 ·subst q2; exact ⟨_, rfl, rfl, qf2 hi.h⟩
 by_cases q3 : nm = [112, 97, 116, 104]
 ·subst q3; exact ⟨_, rfl, rfl, qf2 hi.p⟩
 rw [qzu (by simpa using q1), qzu (by simpa using q2), qzu (by simpa using q3), qzu (by simpa using q1), qzu (by simpa using q2), qzu (by simpa using q3)]
 exact ⟨_, rfl, rfl, qf2 hi.q⟩
noncomputable def tokB (s : Str) : Bool := (JcX s).getD false
theorem qqg {s : Str} (h : s.length ≤ 100000000) : qcd s = some (tokB s) ∧ JcX s = some (tokB s) := by
 obtain ⟨b, h1, h2⟩ := tok h
 unfold tokB
 rw [h1, h2]; exact ⟨rfl, rfl⟩
noncomputable def nmO (s : Str) : Option Str := if tokB s = true ∧ s.length ≤ 64 then some (low s) else none
noncomputable def nmC (s : Str) : Int := if tokB s = true then 5 else 8
theorem qld {s m : Str} (h : nmO s = some m) : m.length ≤ 64 := by
 unfold nmO at h
 split at h
 ·rename_i k; cases h; rw [low_len]; exact k.2
 ·cases h
theorem qtx (s : Str) : nmC s ≠ 0 := by unfold nmC; split <;> decide
theorem qw7 {s : Str} (h : s.length ≤ 100000000) : JdZ s = some ((nmO s).getD [], if (nmO s).isSome = true then none else some (nmC s)) := by
 unfold JdZ nmO nmC
 rw [(qqg h).1, qzt]
 cases q : tokB s with
 | false => rfl
 | true =>
  rw [qzu (by simp)]
  by_cases k : s.length ≤ 64
  ·rw [qzu (by simp; omega), qj1 (by omega), qzv ⟨rfl, k⟩]; rfl
  ·rw [qzv (by simp; omega), qzu (by simp [k])]; rfl
theorem qw8 {s : Str} (h : s.length ≤ 100000000) : Jd8 s = some ((nmO s).getD [], if (nmO s).isSome = true then 0 else nmC s) := by
 unfold Jd8 nmO nmC
 rw [(qqg h).2, qzt]
 cases q : tokB s with
 | false => rfl
 | true =>
  rw [qzu (by simp)]
  by_cases k : s.length ≤ 64
  ·rw [qzu (by simp; omega), qg7 (by omega), qzv ⟨rfl, k⟩]; rfl
  ·rw [qzv (by simp; omega), qzu (by simp [k])]; rfl
def vlO (s : Str) : Option Str := if ctl s = false ∧ (trm s).length ≤ 2048 then some (trm s) else none
def vlC (s : Str) : Int := if ctl s = true then 2 else 5
theorem qty (s : Str) : vlC s ≠ 0 := by unfold vlC; split <;> decide
theorem qvh {s m : Str} (h : vlO s = some m) : m.length ≤ 2048 := by
 unfold vlO at h
 split at h
 ·rename_i k; cases h; exact k.2
 ·cases h
theorem qhd : ∀ (s : Str) (i : Nat), Jbi s i = some (if ctl s = true then Fl.ret true else Fl.go ())
 | [], i => rfl
 | c :: s, i => by
  have e : ctl (c :: s) = (((decide ((c.toNat : Int) < 32) && decide ((c.toNat : Int) ≠ 9)) || decide ((c.toNat : Int) = 127)) || ctl s) := rfl
  rw [Jbi, qhd s (i + 1), e]
  cases q1 : decide ((c.toNat : Int) < 32) <;> cases q2 : decide ((c.toNat : Int) ≠ 9) <;> cases q3 : decide ((c.toNat : Int) = 127) <;> simp
theorem qle {s : Str} (h : s.length ≤ 100000000) : Jc7 s = some (ctl s) := by
 unfold Jc7
 rw [qab (by simp only [qax]; omega), qhd, qzt]
 cases ctl s <;> rfl
theorem qw9 {s : Str} (h : s.length ≤ 1000000) : JdD s = some ((vlO s).getD [], if (vlO s).isSome = true then none else some (vlC s)) := by
 unfold JdD vlO vlC
 rw [qle (by omega), qzt]
 cases q : ctl s with
 | true => rfl
 | false =>
  rw [qzu (by simp), qr8 (by omega), qzt]
  by_cases k : (trm s).length ≤ 2048
  ·rw [qzu (by simp; omega), qzv ⟨rfl, k⟩]; rfl
  ·rw [qzv (by simp; omega), qzu (by simp [k])]; rfl
theorem qxa {n : Nat} {s : Str} (hn : 1000002 ≤ n) (h : s.length ≤ 1000000) : JdI n s = some ((vlO s).getD [], if (vlO s).isSome = true then 0 else vlC s) := by
 unfold JdI vlO vlC
 rw [qnw (by omega), qzt]
 cases q : ctl s with
 | true => rfl
 | false =>
  rw [qzu (by simp), qyi (by omega) (by omega), qzt]
  by_cases k : (trm s).length ≤ 2048
  ·rw [qzu (by simp; omega), qzv ⟨rfl, k⟩]; rfl
  ·rw [qzv (by simp; omega), qzu (by simp [k])]; rfl
def uff (l : List FF) : List RF := l.map fun x => ⟨x.Name, x.Value⟩
theorem qd3 (l : List FF) : (uff l).length = l.length := by simp [uff]
def HOK (k : Nat) (l : List FF) : Prop := l.length ≤ k ∧ ∀ x ∈ l, x.Name.length ≤ 64 ∧ x.Value.length ≤ 2048
def kpt (nm : Str) (l : List FF) : List FF := l.filter fun x => !decide (low x.Name = nm)
def stP (nm v : Str) : List FF → Bool → List FF
 | [], _ => []
 | x :: r, d => if low x.Name = nm then (if d = true then stP nm v r d else ⟨nm, v⟩ :: stP nm v r true) else x :: stP nm v r d
def stD (nm : Str) (l : List FF) : Bool := l.any fun x => decide (low x.Name = nm)
def qvi (l : List FF) (nm v : Str) : List FF := if stD nm l = true then stP nm v l false else l ++ [⟨nm, v⟩]
theorem qlf (nm v : Str) : ∀ (l : List FF) (d : Bool), (stP nm v l d).length ≤ l.length
 | [], d => Nat.le_refl _
 | x :: r, d => by
  have h1 := qlf nm v r d
  have h2 := qlf nm v r true
  rw [stP]
  split
  ·split <;> simp <;> omega
  ·simp; omega
theorem stP_mem {nm v : Str} {y : FF} : ∀ {l : List FF} {d : Bool}, y ∈ stP nm v l d → y ∈ l ∨ y = ⟨nm, v⟩
 | [], d, h => by cases h
 | x :: r, d, h => by
  rw [stP] at h
  split at h
  ·split at h
   ·rcases stP_mem h with h | h
    ·exact .inl (by simp [h])
    ·exact .inr h
   ·rcases List.mem_cons.1 h with rfl | h
    ·exact .inr rfl
    ·rcases stP_mem h with h | h
     ·exact .inl (by simp [h])
     ·exact .inr h
  ·rcases List.mem_cons.1 h with rfl | h
   ·exact .inl (by simp)
   ·rcases stP_mem h with h | h
    ·exact .inl (by simp [h])
    ·exact .inr h
theorem qvj {k : Nat} {l : List FF} {nm v : Str} (h : HOK k l) (hn : nm.length ≤ 64) (hv : v.length ≤ 2048) : HOK (k + 1) (qvi l nm v) := by
 unfold qvi
 split
 ·refine ⟨?_, fun y hy => ?_⟩
  ·have := qlf nm v l false; have := h.1; omega
  ·rcases stP_mem hy with hy | rfl
   ·exact h.2 y hy
   ·exact ⟨hn, hv⟩
 ·refine ⟨by have := h.1; simp; omega, fun y hy => ?_⟩
  rcases List.mem_append.1 hy with hy | hy
  ·exact h.2 y hy
  ·rw [List.mem_singleton] at hy; subst hy; exact ⟨hn, hv⟩
theorem qiv (nm v : Str) : ∀ l : List FF, stP nm v l true = kpt nm l
 | [] => rfl
 | x :: r => by
  rw [stP, kpt, List.filter_cons]
  by_cases q : low x.Name = nm
  ·rw [qzv q, qzv rfl, qiv nm v r, qzu (by simp [q])]; rfl
  ·rw [qzu q, qiv nm v r, qzv (by simp [q])]; rfl
theorem qm5 {nm v : Str} : ∀ (l : List FF) (i : Nat) (y : List FF) (d : Bool), (∀ x ∈ l, x.Name.length ≤ 1000) → y.length + l.length ≤ 1000000 → Jbt nm v l i y d = some (y ++ stP nm v l d, d || stD nm l)
 | [], i, y, d, _, _ => by simp [Jbt, stP, stD]
 | x :: l, i, y, d, h, hy => by
  have hx := h x (by simp)
  have hl := fun z hz => h z (List.mem_cons_of_mem _ hz)
  simp only [List.length_cons] at hy
  rw [Jbt, qj1 (by omega), qzt, stP]
  have e : stD nm (x :: l) = (decide (low x.Name = nm) || stD nm l) := rfl
  by_cases q : low x.Name = nm
  ·rw [qzu (by simpa using q), qzv q, e, decide_eq_true q]
   cases d with
   | true => rw [qzu (by simp), qzv rfl, qm5 l (i + 1) y true hl (by omega)]; simp
   | false => rw [qzv (by simp), qzu (by simp), qab (by simp only [lim, List.length_cons, List.length_nil]; omega), qm5 l (i + 1) _ true hl (by simp; omega)]; simp
  ·rw [qzv (by simpa using q), qzu q, qab (by simp only [lim, List.length_cons, List.length_nil]; omega), qm5 l (i + 1) _ d hl (by simp; omega), e, decide_eq_false q]; simp
theorem qm6 {nm v : Str} : ∀ {l : List FF}, stD nm l = false → stP nm v l false = l
 | [], _ => rfl
 | x :: r, h => by
  have e : stD nm (x :: r) = (decide (low x.Name = nm) || stD nm r) := rfl
  rw [e] at h
  simp only [Bool.or_eq_false_iff, decide_eq_false_iff_not] at h
  rw [stP, qzu h.1, qm6 h.2]
theorem qxb {k : Nat} {l : List FF} {nm v : Str} (hk : k ≤ 1000) (h : HOK k l) (hn : nm.length ≤ 64) : Jer l nm v = some (qvi l (low nm) v) := by
 have h1 := h.1
 unfold Jer qvi
 rw [qj1 (by omega), qzt, qab (by simp only [qax]; omega), qm5 l 0 [] false (fun x hx => by have := (h.2 x hx).1; omega) (by simp; omega), qzt]
 simp only [Bool.false_or, List.nil_append]
 cases q : stD (low nm) l with
 | true => rw [qzu (by simp), qzv rfl]
 | false => rw [qzv (by simp), qzu (by simp), qm6 q, qab (by simp only [lim, List.length_cons, List.length_nil]; omega)]
theorem qxc {x : RF} {nm : Str} (hx : x.Name.length ≤ 1000) (hn : nm.length ≤ 1000) : JdQ x nm = some (decide (low x.Name = low nm)) := by
 unfold JdQ
 rw [qg7 (by omega), qzt, qg7 (by omega), qzt]
theorem qqh {nm : Str} (hn : nm.length ≤ 1000) : ∀ (l : List FF) (i : Nat) (y : List RF), (∀ x ∈ l, x.Name.length ≤ 1000) → y.length + l.length ≤ 1000000 → JaV nm (uff l) i y = some (y ++ uff (kpt (low nm) l))
 | [], i, y, _, _ => by simp [JaV, uff, kpt]
 | x :: l, i, y, h, hy => by
  have hx := h x (by simp)
  have hl := fun z hz => h z (List.mem_cons_of_mem _ hz)
  simp only [List.length_cons] at hy
  have e : uff (x :: l) = ⟨x.Name, x.Value⟩ :: uff l := rfl
  rw [e, JaV, qxc hx hn, qzt, kpt, List.filter_cons]
  by_cases q : low x.Name = low nm
  ·rw [qzu (by simp [q]), qqh hn l (i + 1) y hl (by omega), qzu (by simp [q])]; rfl
  ·rw [qzv (by simp [q]), qab (by simp only [lim, List.length_cons, List.length_nil]; omega), qqh hn l (i + 1) _ hl (by simp; omega), qzv (by simp [q])]
   simp [uff, kpt]
theorem qxd {nm : Str} (hn : nm.length ≤ 1000) {l : List FF} (h : ∀ x ∈ l, x.Name.length ≤ 1000) (hl : l.length ≤ 100000) : Jds (uff l) nm = some (uff (kpt (low nm) l)) := by
 unfold Jds
 rw [qab (by rw [qd3]; simp only [qax]; omega), qqh hn l 0 [] h (by simp; omega), qzt]; rfl
theorem qtz {nm v : Str} (hn : nm.length ≤ 1000) {l : List RF} (hl : l.length ≤ 100000) : Jea l nm v = some (l ++ [⟨low nm, v⟩]) := by
 unfold Jea
 rw [qab (by simp only [lim, List.length_nil]; omega), qg7 (by omega), qzt, qab (by simp only [lim, List.length_cons, List.length_nil, List.nil_append]; omega)]; rfl
theorem qqi {nm v : Str} (hn : nm.length ≤ 1000) {L : List FF} (hL : L.length ≤ 1000) (h : ∀ x ∈ L, x.Name.length ≤ 1000) : ∀ (r p : List FF), L = p ++ r → stD (low nm) p = false →
  JcC nm (uff L) v (uff r) p.length = some (if stD (low nm) r = true then .ret (uff (p ++ stP (low nm) v r false)) else .go ())
 | [], p, _, _ => rfl
 | x :: r, p, e, hp => by
  have hx := h x (by rw [e]; simp)
  have e1 : uff (x :: r) = ⟨x.Name, x.Value⟩ :: uff r := rfl
  have e2 : stD (low nm) (x :: r) = (decide (low x.Name = low nm) || stD (low nm) r) := rfl
  have hll : L.length = p.length + (r.length + 1) := by rw [e]; simp
  rw [e1, JcC, qxc hx hn, qzt, stP, e2]
  by_cases q : low x.Name = low nm
  ·have s1 : subL (uff L) (0 : Int) (p.length : Int) = uff p := by rw [e]; unfold subL uff; simp
   have s2 : subL (uff L) ((p.length : Int) + 1) ((uff L).length : Int) = uff r := by
    rw [e]; unfold subL uff
    rw [show ((p.length : Int) + 1).toNat = p.length + 1 by omega, ← List.map_drop]
    have : (p ++ x :: r).drop (p.length + 1) = r := by simp
    rw [this, List.take_of_length_le (by simp; omega)]
   rw [qzv (by simpa using q), qab (by rw [qd3]; omega), s1, qtz hn (by rw [qd3]; omega), qzt, qab (by rw [qd3]; omega), s2, qxd hn (fun z hz => h z (by rw [e]; simp [hz])) (by omega), qzt, qab]
   ·rw [qzv (by simp [q]), qzv q, qzu (by simp), qiv]
    simp [uff]
   ·have := List.length_filter_le (fun x => !decide (low x.Name = low nm)) r
    simp only [lim, List.length_append, qd3, List.length_cons, List.length_nil, kpt]; omega
  ·rw [qzu (by simpa using q)]
   have ih := qqi (v := v) hn hL h r (p ++ [x]) (by rw [e]; simp) (by unfold stD at hp ⊢; rw [List.any_append, hp]; simp [q])
   rw [show (p ++ [x]).length = p.length + 1 by simp] at ih
   rw [ih, qzu q, decide_eq_false q, Bool.false_or]
   simp
theorem qvk {k : Nat} {l : List FF} {nm v : Str} (hk : k ≤ 1000) (h : HOK k l) (hn : nm.length ≤ 64) : JeB (uff l) nm v = some (uff (qvi l (low nm) v)) := by
 have h1 := h.1
 have h2 := qqi (nm := nm) (v := v) (by omega) (L := l) (by omega) (fun x hx => by have := (h.2 x hx).1; omega) l [] rfl rfl
 unfold JeB qvi
 rw [qab (by rw [qd3]; simp only [qax]; omega), show (0 : Nat) = ([] : List FF).length from rfl, h2, qzt]
 cases q : stD (low nm) l with
 | true => rfl
 | false => rw [qzu (by simp), qzu (by simp), Rt.el_go, qtz (by omega) (by rw [qd3]; omega)]; simp [uff]
def qhg (l : List Str) (s : Str) : List Str := if s ∈ l then l else l ++ [s]
theorem qj6 (l : List Str) (s : Str) : (qhg l s).length ≤ l.length + 1 := by unfold qhg; split <;> simp
theorem qqj {l : List Str} {s : Str} (hl : l.length ≤ 1000000) : ∀ (m j : Nat), l.length - j < m → j ≤ l.length → (∀ x ∈ l.take j, x ≠ s) → ∃ r, Jcj l s m (j : Int) = some r ∧ (s ∈ l → r = .ret l) ∧ (s ∉ l → ∃ z, r = .go z)
 | 0, j, h, _, _ => by omega
 | m + 1, j, h, hj, hp => by
  rw [Jcj]
  by_cases q : j < l.length
  ·have hix : ix l (j : Int) = some l[j] := by unfold ix; rw [qzv (by omega), Int.toNat_natCast, List.getElem?_eq_getElem q]
   rw [qzv (by simpa using q), hix, qzt]
   by_cases q2 : l[j] = s
   ·rw [qzv (by simpa using q2)]
    exact ⟨_, rfl, fun _ => rfl, fun h => absurd (by rw [← q2]; exact List.getElem_mem q) h⟩
   ·rw [qzu (by simpa using q2), qab (by constructor <;> omega)]
    exact qqj hl m (j + 1) (by omega) (by omega) (fun x hx => by
     rw [List.take_add_one, List.getElem?_eq_getElem q] at hx
     rcases List.mem_append.1 hx with hx | hx
     ·exact hp x hx
     ·simp at hx; rw [hx]; exact q2)
  ·have hn : s ∉ l := fun hs => hp s (by rw [List.take_of_length_le (by omega)]; exact hs) rfl
   rw [qzu (by simpa using q)]
   exact ⟨_, rfl, fun h => absurd h hn, fun _ => ⟨_, rfl⟩⟩
theorem qqk {n : Nat} {l : List Str} {s : Str} (hn : 1000002 ≤ n) (hl : l.length ≤ 1000) : Jdz n l s = some (qhg l s) := by
 unfold Jdz qhg
 obtain ⟨r, h1, h2, h3⟩ := qqj (l := l) (s := s) (by omega) n 0 (by omega) (by omega) (fun x hx => by simp at hx)
 rw [show (0 : Int) = ((0 : Nat) : Int) from rfl, h1, qzt]
 by_cases q : s ∈ l
 ·rw [h2 q, qzv q]; rfl
 ·obtain ⟨z, rfl⟩ := h3 q
  rw [qzu q, Rt.el_go, qab (by simp only [lim, List.length_nil]; omega), qab (by simp only [lim, List.length_cons, List.length_nil, List.nil_append]; omega)]; rfl
abbrev R1 := Jh
abbrev R2 := Jg
def r2 (r : R1) : R2 := ⟨r.Ae, r.Af, uff r.Ag, r.Vary, r.Ah, r.TTL, r.Ai, r.Aj, r.Ak, r.Al⟩
structure ROK (k : Nat) (r : R1) : Prop where
 h : HOK k r.Ag
 v : r.Vary.length ≤ k
 t : r.Ah.length ≤ k
theorem ROK.up {k k' : Nat} {r : R1} (h : ROK k r) (hk : k ≤ k') : ROK k' r := ⟨⟨Nat.le_trans h.h.1 hk, h.h.2⟩, Nat.le_trans h.v hk, Nat.le_trans h.t hk⟩
def qlg (s : Str) : Int := if s = [112, 97, 115, 115] ∨ s = [116, 111, 107, 101, 110] ∨ Rc.hp s Rc.sVary = true then 0 else if s = [116, 116, 108] ∨ s = [100, 101, 110, 121] then 2 else 1
theorem qxe (s : Str) : (((if (decide (s = ([112, 97, 115, 115] : Str)) || decide (s = ([116, 111, 107, 101, 110] : Str))) then some true else (J2 s ([118, 97, 114, 121, 58] : Str)).bind fun x17 =>
 some x17).bind fun t902 =>
 if t902 then
 some 0
 else
 if (decide (s = ([116, 116, 108] : Str)) || decide (s = ([100, 101, 110, 121] : Str))) then
 some 2
 else
 some 1 : Option (Int))) = some (qlg s) := by
 unfold qlg
 rw [pfx, qzt, show ([118, 97, 114, 121, 58] : Str) = Rc.sVary from rfl]
 by_cases q1 : s = [112, 97, 115, 115] ∨ s = [116, 111, 107, 101, 110]
 ·rw [qzv (by simpa using q1), qzt, qzv rfl, qzv (by rcases q1 with q | q; exact .inl q; exact .inr (.inl q))]
 ·rw [qzu (by simpa using q1), qzt]
  by_cases q2 : Rc.hp s Rc.sVary = true
  ·rw [qzv q2, qzv (.inr (.inr q2))]
  ·rw [qzu q2, qzu (show ¬ (s = [112, 97, 115, 115] ∨ s = [116, 111, 107, 101, 110] ∨ Rc.hp s Rc.sVary = true) from fun h => h.elim (fun h => q1 (.inl h)) fun h => h.elim (fun h => q1 (.inr h)) q2)]
   by_cases q3 : s = [116, 116, 108] ∨ s = [100, 101, 110, 121]
   ·rw [qzv (by simpa using q3), qzv q3]
   ·rw [qzu (by simpa using q3), qzu q3]
theorem qyk (s : Str) : (if decide ((s.length : Int) > 5) then (chk (0 ≤ (0 : Int) ∧ (0 : Int) ≤ (5 : Int) ∧ (5 : Int) ≤ (s.length : Int))).bind fun _ =>
 some (decide ((subL s (0 : Int) (5 : Int)) = ([118, 97, 114, 121, 58] : Str))) else some false).bind (fun x24 =>
 some (x24 || decide (s = ([118, 97, 114, 121, 58] : Str)))) = some (Rc.hp s Rc.sVary) := by
 have e0 : subL s (0 : Int) (5 : Int) = s.take 5 := Rc.sub0 s 5
 have el : Rc.sVary.length = 5 := rfl
 rw [e0]
 unfold Rc.hp
 rw [el, show ([118, 97, 114, 121, 58] : Str) = Rc.sVary from rfl]
 by_cases q : 5 < s.length
 ·rw [qzv (by simp; omega), qab (by omega), qzt, decide_eq_true (show s.length ≥ 5 by omega), Bool.true_and]
  have : ¬ s = Rc.sVary := fun e => by rw [e, el] at q; omega
  rw [decide_eq_false this, Bool.or_false]
 ·rw [qzu (by simp; omega), qzt, Bool.false_or]
  by_cases q2 : s.length = 5
  ·rw [decide_eq_true (show s.length ≥ 5 by omega), Bool.true_and, List.take_of_length_le (by omega)]
  ·have : ¬ s = Rc.sVary := fun e => q2 (by rw [e, el])
   rw [decide_eq_false this, decide_eq_false (show ¬ s.length ≥ 5 by omega), Bool.false_and]
theorem qyl (s : Str) : ((((if (decide (s = ([112, 97, 115, 115] : Str)) || decide (s = ([116, 111, 107, 101, 110] : Str))) then
 some true
 else
 (if decide ((s.length : Int) > 5) then (chk (0 ≤ (0 : Int) ∧ (0 : Int) ≤ (5 : Int) ∧ (5 : Int) ≤ (s.length : Int))).bind fun _ =>
 some (decide ((subL s (0 : Int) (5 : Int)) = ([118, 97, 114, 121, 58] : Str))) else some false).bind fun x24 =>
 some (x24 || decide (s = ([118, 97, 114, 121, 58] : Str)))) : Option (Bool)).bind fun t902 =>
 if t902 then
 some 0
 else
 if (decide (s = ([116, 116, 108] : Str)) || decide (s = ([100, 101, 110, 121] : Str))) then
 some 2
 else
 some 1 : Option (Int))) = some (qlg s) := by
 rw [qyk, ← qxe, pfx, qzt, show ([118, 97, 114, 121, 58] : Str) = Rc.sVary from rfl]
theorem qym (r : Str) : cutM ([104, 101, 97, 100, 101, 114, 58] ++ r) [58] = if ([104, 101, 97, 100, 101, 114, 58] ++ r).length < qin then some ([104, 101, 97, 100, 101, 114], r, true) else none := by
 unfold cutM
 congr 1
theorem qyn (r : Str) : cutM ([118, 97, 114, 121, 58] ++ r) [58] = if ([118, 97, 114, 121, 58] ++ r).length < qin then some ([118, 97, 114, 121], r, true) else none := by
 unfold cutM
 congr 1
noncomputable def qnz (r : R1) (s : Str) (x : V1) : R1 × Err :=
 if Rc.hp s Rc.sVary = true then (match nmO (s.drop 5) with
  | none => (r, some 8)
  | some m => ({ r with Vary := qhg r.Vary m }, none))
 else match nmO (s.drop 7) with
  | none => (r, some 8)
  | some m => match vlO x.s with
   | none => (r, some (vlC x.s))
   | some v => ({ r with Ag := qvi r.Ag (low m) v }, none)
theorem qxf {l : List Str} {s : Str} (h : l.length ≤ 1000) (h2 : l.length + 1 ≤ lim) {γ : Type} {f : List Str → γ} : ((JP l s).bind fun x => if (!x) = true then (chk (l.length + [s].length ≤ lim)).bind fun _ => some (f (l ++ [s])) else some (f l)) = some (f (qhg l s)) := by
 rw [Rc.cont_eq h, qzt]
 unfold qhg
 by_cases q : s ∈ l
 ·rw [qzu (by simp [q]), qzv q]
 ·rw [qzv (by simp [q]), qzu q, qab (show l.length + [s].length ≤ lim from h2)]
theorem qxg {k : Nat} {r : R1} {s : Str} {x : V1} (hk : k ≤ 900) (hr : ROK k r) (hs : s.length ≤ 100000) (hx : x.s.length ≤ 100000) (hp : Rc.hp s Rc.sHeader = true ∨ Rc.hp s Rc.sVary = true) : Jbd r s x = some ((qnz r s x).2, (qnz r s x).1) := by
 have hv := hr.v
 unfold Jbd qnz
 by_cases q : Rc.hp s Rc.sVary = true
 ·have e := Rc.hp_app q
  rw [qzv q]
  have el : Rc.sVary.length = 5 := rfl
  rw [el] at e
  have hd : (s.drop 5).length ≤ 100000 := by rw [List.length_drop]; omega
  have hc : cutM s [58] = some ([118, 97, 114, 121], s.drop 5, true) := by
   conv => lhs; rw [e]
   rw [show Rc.sVary = [118, 97, 114, 121, 58] from rfl, qyn, qzv (by rw [qe6]; simp only [List.length_append, List.length_cons, List.length_nil]; omega)]
  rw [hc, qzt]
  simp only
  rw [qw7 (by omega), qzt]
  cases hm : nmO (s.drop 5) with
  | none => rfl
  | some m =>
   simp only [Option.isSome_some, if_true, Option.getD_some]
   rw [qzu (by simp), qzv (by decide)]
   exact qxf (f := fun l => ((none : Err), (⟨r.Ae, r.Af, r.Ag, l, r.Ah, r.TTL, r.Ai, r.Aj, r.Ak, r.Al⟩ : R1))) (by omega) (by simp only [lim]; omega)
 ·have hh : Rc.hp s Rc.sHeader = true := hp.resolve_right q
  have e := Rc.hp_app hh
  rw [qzu q]
  have el : Rc.sHeader.length = 7 := rfl
  rw [el] at e
  have hd : (s.drop 7).length ≤ 100000 := by rw [List.length_drop]; omega
  have hc : cutM s [58] = some ([104, 101, 97, 100, 101, 114], s.drop 7, true) := by
   conv => lhs; rw [e]
   rw [show Rc.sHeader = [104, 101, 97, 100, 101, 114, 58] from rfl, qym, qzv (by rw [qe6]; simp only [List.length_append, List.length_cons, List.length_nil]; omega)]
  rw [hc, qzt]
  simp only
  rw [qw7 (by omega), qzt]
  cases hm : nmO (s.drop 7) with
  | none => rfl
  | some m =>
   simp only [Option.isSome_some, if_true, Option.getD_some]
   rw [qzu (by simp), qzu (by simp), qw9 (by omega), qzt]
   cases hvl : vlO x.s with
   | none => rfl
   | some v =>
    simp only [Option.isSome_some, if_true, Option.getD_some]
    rw [qzu (by simp), qxb (k := k) (by omega) hr.h (qld hm)]; rfl
theorem qxh {n k : Nat} {r : R1} {s : Str} {x : V1} (hn : 1000002 ≤ n) (hk : k ≤ 900) (hr : ROK k r) (hs : s.length ≤ 100000) (hx : x.s.length ≤ 100000) (hp : Rc.hp s Rc.sHeader = true ∨ Rc.hp s Rc.sVary = true) : JdJ n (r2 r) s (cv2 x) = some (r2 (qnz r s x).1, ((qnz r s x).2).getD 0) := by
 have hv := hr.v
 have e0 : subL s (0 : Int) (5 : Int) = s.take 5 := Rc.sub0 s 5
 unfold JdJ qnz
 rw [e0]
 by_cases q : Rc.hp s Rc.sVary = true
 ·have hl : 5 ≤ s.length ∧ s.take 5 = Rc.sVary := by
   have := q; unfold Rc.hp at this
   simp only [Bool.and_eq_true, decide_eq_true_eq] at this
   exact this
  have hd : (s.drop 5).length ≤ 100000 := by rw [List.length_drop]; omega
  have es : subL s (5 : Int) (s.length : Int) = s.drop 5 := by
   unfold subL; rw [show ((5 : Int)).toNat = 5 from rfl, List.take_of_length_le (by rw [List.length_drop]; omega)]
  rw [qab (by omega), qzv q, qzu (by rw [hl.2]; decide), qzt, qab (by omega), es, qw8 (by omega), qzt]
  cases hm : nmO (s.drop 5) with
  | none =>
   have := qtx (s.drop 5)
   simp only [Option.isSome_none, Option.getD_none]
   rw [qzv (by simpa using this)]; rfl
  | some m =>
   simp only [Option.isSome_some, if_true, Option.getD_some]
   rw [qzu (by simp), qzv (by simp), show (r2 r).Vary = r.Vary from rfl, qqk hn (by omega)]; rfl
 ·have hh : Rc.hp s Rc.sHeader = true := hp.resolve_right q
  have hl : 7 ≤ s.length ∧ s.take 7 = Rc.sHeader := by
   have := hh; unfold Rc.hp at this
   simp only [Bool.and_eq_true, decide_eq_true_eq] at this
   exact this
  have h5 : ¬ s.take 5 = Rc.sVary := fun h => q (by unfold Rc.hp; simp only [Bool.and_eq_true, decide_eq_true_eq]; exact ⟨by show 5 ≤ s.length; omega, h⟩)
  have hd : (s.drop 7).length ≤ 100000 := by rw [List.length_drop]; omega
  have es : subL s (7 : Int) (s.length : Int) = s.drop 7 := by
   unfold subL; rw [show ((7 : Int)).toNat = 7 from rfl, List.take_of_length_le (by rw [List.length_drop]; omega)]
  rw [qab (by omega), qzu q, qzv (by rw [decide_eq_true_eq]; exact h5), qzt, qab (by omega), es, qw8 (by omega), qzt]
  cases hm : nmO (s.drop 7) with
  | none =>
   have := qtx (s.drop 7)
   simp only [Option.isSome_none, Option.getD_none]
   rw [qzv (by simpa using this)]; rfl
  | some m =>
   simp only [Option.isSome_some, if_true, Option.getD_some]
   rw [qzu (by simp), qzu (by simp), show (cv2 x).S = x.s from rfl, qxa hn (by omega), qzt]
   cases hvl : vlO x.s with
   | none =>
    have := qty x.s
    simp only [Option.isSome_none, Option.getD_none]
    rw [qzv (by simpa using this)]; rfl
   | some v =>
    simp only [Option.isSome_some, if_true, Option.getD_some]
    rw [qzu (by simp), show (r2 r).Ag = uff r.Ag from rfl, qvk (k := k) (by omega) hr.h (qld hm)]; rfl
noncomputable def actP (r : R1) (s : Str) (x : V1) : R1 × Err :=
 if x.kind ≠ qlg s then (r, some 9)
 else if s = [112, 97, 116, 104] then ({ r with Ae := x.s }, none)
 else if s = [113, 117, 101, 114, 121] then ({ r with Af := x.s }, none)
 else if s = [116, 97, 103] then ({ r with Ah := qhg r.Ah x.s }, none)
 else if s = [116, 116, 108] then ({ r with TTL := max 0 x.n }, none)
 else if s = [100, 101, 110, 121] then (if x.n < 400 ∨ x.n > 499 then ({ r with Ai := 403 }, none) else ({ r with Ai := x.n }, none))
 else if s = [112, 97, 115, 115] then ({ r with Ak := true }, none)
 else if s = [116, 111, 107, 101, 110] then ({ r with Al := true }, none)
 else qnz r s x
theorem actK_cases {s : Str} {t : Int} (h : Rc.actK s = some t) : (s ∈ Rc.acts1 ∧ t = 1) ∨ (s ∈ Rc.acts0 ∧ t = 0) ∨ (Rc.hp s Rc.sHeader = true ∧ t = 1) ∨ (Rc.hp s Rc.sVary = true ∧ t = 0) := by
 unfold Rc.actK at h
 split at h
 ·rename_i q; cases h; exact .inl ⟨q, rfl⟩
 ·split at h
  ·rename_i q; cases h; exact .inr (.inl ⟨q, rfl⟩)
  ·split at h
   ·rename_i q
    split at h
    ·cases h; exact .inr (.inr (.inl ⟨q, rfl⟩))
    ·cases h
   ·split at h
    ·rename_i q; cases h
     rw [Bool.and_eq_true] at q
     exact .inr (.inr (.inr ⟨q.1, rfl⟩))
    ·cases h
theorem qj7 {s : Str} {t : Int} (h : Rc.actK s = some t) (h1 : s ≠ [112, 97, 116, 104]) (h2 : s ≠ [113, 117, 101, 114, 121]) (h3 : s ≠ [116, 97, 103]) (h4 : s ≠ [116, 116, 108]) (h5 : s ≠ [100, 101, 110, 121]) (h6 : s ≠ [112, 97, 115, 115]) (h7 : s ≠ [116, 111, 107, 101, 110]) : Rc.hp s Rc.sHeader = true ∨ Rc.hp s Rc.sVary = true := by
 rcases actK_cases h with ⟨q, _⟩ | ⟨q, _⟩ | ⟨q, _⟩ | ⟨q, _⟩
 ·unfold Rc.acts1 at q; simp [h1, h2, h3, h4, h5] at q
 ·unfold Rc.acts0 at q; simp [h6, h7] at q
 ·exact .inl q
 ·exact .inr q
theorem qzr {k : Nat} {r : R1} {s : Str} {x : V1} {t : Int} (hk : k ≤ 900) (hr : ROK k r) (hs : s.length ≤ 100000) (hx : x.s.length ≤ 100000) (ha : Rc.actK s = some t) : Ja1 r s x = some ((actP r s x).2, (actP r s x).1) := by
 have ht := hr.t
 unfold Ja1 actP
 rw [qxe, qzt]
 by_cases q0 : x.kind ≠ qlg s
 ·rw [qzv (by simpa using q0), qzv q0]
 rw [qzu (by simpa using q0), qzu q0]
 by_cases q1 : s = [112, 97, 116, 104]
 ·rw [qzv (by simpa using q1), qzv q1]
 rw [qzu (by simpa using q1), qzu q1]
 by_cases q2 : s = [113, 117, 101, 114, 121]
 ·rw [qzv (by simpa using q2), qzv q2]
 rw [qzu (by simpa using q2), qzu q2]
 by_cases q3 : s = [116, 97, 103]
 ·rw [qzv (by simpa using q3), qzv q3]
  exact qxf (f := fun l => ((none : Err), (⟨r.Ae, r.Af, r.Ag, r.Vary, l, r.TTL, r.Ai, r.Aj, r.Ak, r.Al⟩ : R1))) (by omega) (by simp only [lim]; omega)
 rw [qzu (by simpa using q3), qzu q3]
 by_cases q4 : s = [116, 116, 108]
 ·rw [qzv (by simpa using q4), qzv q4]
 rw [qzu (by simpa using q4), qzu q4]
 by_cases q5 : s = [100, 101, 110, 121]
 ·rw [qzv (by simpa using q5), qzv q5]
  by_cases w : x.n < 400 ∨ x.n > 499
  ·rw [qzv (by simpa using w), qzv w]
  ·rw [qzu (by simpa using w), qzu w]
 rw [qzu (by simpa using q5), qzu q5]
 by_cases q6 : s = [112, 97, 115, 115]
 ·rw [qzv (by simpa using q6), qzv q6]
 rw [qzu (by simpa using q6), qzu q6]
 by_cases q7 : s = [116, 111, 107, 101, 110]
 ·rw [qzv (by simpa using q7), qzv q7]
 rw [qzu (by simpa using q7), qzu q7, qxg hk hr hs hx (qj7 ha q1 q2 q3 q4 q5 q6 q7)]; rfl
theorem qzs {n k : Nat} {r : R1} {s : Str} {x : V1} {t : Int} (hn : 1000002 ≤ n) (hk : k ≤ 900) (hr : ROK k r) (hs : s.length ≤ 100000) (hx : x.s.length ≤ 100000) (ha : Rc.actK s = some t) : Jef n (r2 r) s (cv2 x) = some (r2 (actP r s x).1, ((actP r s x).2).getD 0) := by
 have ht := hr.t
 unfold Jef actP
 rw [qyl, qzt]
 by_cases q0 : x.kind ≠ qlg s
 ·rw [qzv (by rw [decide_eq_true_eq]; exact q0), qzv q0]; rfl
 rw [qzu (by rw [decide_eq_true_eq]; exact q0), qzu q0]
 by_cases q1 : s = [112, 97, 116, 104]
 ·rw [qzv (by simpa using q1), qzv q1]; rfl
 rw [qzu (by simpa using q1), qzu q1]
 by_cases q2 : s = [113, 117, 101, 114, 121]
 ·rw [qzv (by simpa using q2), qzv q2]; rfl
 rw [qzu (by simpa using q2), qzu q2]
 by_cases q3 : s = [116, 97, 103]
 ·rw [qzv (by simpa using q3), qzv q3, show (r2 r).Ah = r.Ah from rfl, show (cv2 x).S = x.s from rfl, qqk hn (by omega)]; rfl
 rw [qzu (by simpa using q3), qzu q3]
 by_cases q4 : s = [116, 116, 108]
 ·rw [qzv (by simpa using q4), qzv q4, show (cv2 x).N = x.n from rfl, Int.max_comm]; rfl
 rw [qzu (by simpa using q4), qzu q4]
 by_cases q5 : s = [100, 101, 110, 121]
 ·rw [qzv (by simpa using q5), qzv q5, show (cv2 x).N = x.n from rfl]
  by_cases w : x.n < 400 ∨ x.n > 499
  ·rw [qzv (by simpa using w), qzv w]; rfl
  ·rw [qzu (by simpa using w), qzu w]; rfl
 rw [qzu (by simpa using q5), qzu q5]
 by_cases q6 : s = [112, 97, 115, 115]
 ·rw [qzv (by simpa using q6), qzv q6]; rfl
 rw [qzu (by simpa using q6), qzu q6]
 by_cases q7 : s = [116, 111, 107, 101, 110]
 ·rw [qzv (by simpa using q7), qzv q7]; rfl
 rw [qzu (by simpa using q7), qzu q7, qxh hn hk hr hs hx (qj7 ha q1 q2 q3 q4 q5 q6 q7)]; rfl
theorem qvl {k : Nat} {r : R1} {s : Str} {x : V1} (hr : ROK k r) : ROK (k + 1) (qnz r s x).1 ∧ (qnz r s x).2 ≠ some 0 ∧ (qnz r s x).1.Aj = r.Aj := by
 have hu := hr.up (Nat.le_succ k)
 unfold qnz
 split
 ·split
  ·exact ⟨hu, by simp, rfl⟩
  ·refine ⟨⟨hu.h, ?_, hu.t⟩, by simp, rfl⟩
   have := qj6 r.Vary ‹Str›
   have := hr.v
   show (qhg _ _).length ≤ k + 1
   omega
 ·split
  ·exact ⟨hu, by simp, rfl⟩
  ·rename_i m hm
   split
   ·exact ⟨hu, by simpa using qty x.s, rfl⟩
   ·rename_i v hv
    exact ⟨⟨qvj hr.h (by rw [low_len]; exact qld hm) (qvh hv), hu.v, hu.t⟩, by simp, rfl⟩
theorem qvm {k : Nat} {r : R1} {s : Str} {x : V1} (hr : ROK k r) : ROK (k + 1) (actP r s x).1 ∧ (actP r s x).2 ≠ some 0 ∧ (actP r s x).1.Aj = r.Aj := by
 have hu := hr.up (Nat.le_succ k)
 unfold actP
 split
 ·exact ⟨hu, by simp, rfl⟩
 split
 ·exact ⟨⟨hu.h, hu.v, hu.t⟩, by simp, rfl⟩
 split
 ·exact ⟨⟨hu.h, hu.v, hu.t⟩, by simp, rfl⟩
 split
 ·refine ⟨⟨hu.h, hu.v, ?_⟩, by simp, rfl⟩
  have := qj6 r.Ah x.s
  have := hr.t
  show (qhg _ _).length ≤ k + 1
  omega
 split
 ·exact ⟨⟨hu.h, hu.v, hu.t⟩, by simp, rfl⟩
 split
 ·split
  ·exact ⟨⟨hu.h, hu.v, hu.t⟩, by simp, rfl⟩
  ·exact ⟨⟨hu.h, hu.v, hu.t⟩, by simp, rfl⟩
 split
 ·exact ⟨⟨hu.h, hu.v, hu.t⟩, by simp, rfl⟩
 split
 ·exact ⟨⟨hu.h, hu.v, hu.t⟩, by simp, rfl⟩
 exact qvl hr
abbrev M1 := Jf
abbrev M2 := JA
abbrev I := Rt.Rc.I
def z0 : V1 := ⟨0, 0, [], false⟩
noncomputable def qfh (nm : Str) (x : V1) (j : In1) : V1 × Bool := (JL nm x j).getD (z0, false)
noncomputable def opP (op : Str) (a b : V1) : V1 × Bool := (JS op a b).getD (z0, false)
noncomputable def qt0 (nm : Str) (j : In1) : V1 := (Jam nm j).getD z0
structure MOK (k : Nat) (m : M1) : Prop where
 i : ∃ i, IOK i ∧ m.Ar = inp i
 r : ROK k m.result
 st : ∀ v ∈ m.stack, VOK 2048 v
 sl : ∀ v ∈ m.Ap, VOK 2048 v
 sn : m.Ap.length = 512
 tn : m.stack.length ≤ k
 s0 : 0 ≤ m.result.Aj
 s1 : m.result.Aj ≤ 40 * k
 k : k ≤ 800
theorem qql {m n : Nat} {nm : Str} {x : V1} {j : In1} (hi : ∃ i, IOK i ∧ j = inp i) (hm : m ≤ 20000) (hx : VOK m x) : JL nm x j = some (qfh nm x j) ∧ ((qfh nm x j).2 = true → VOK 40000 (qfh nm x j).1) := by
 obtain ⟨i, hi, rfl⟩ := hi
 obtain ⟨v, ok, h1, _, h3⟩ := qm4 (n := 1000002) (nm := nm) (by omega) hm hi hx
 unfold qfh
 rw [h1]; exact ⟨rfl, h3⟩
theorem qqm {m : Nat} {op : Str} {a b : V1} (hm : m ≤ 20000) (ha : VOK m a) (hb : VOK m b) : JS op a b = some (opP op a b) ∧ ((opP op a b).2 = true → VOK 40000 (opP op a b).1) := by
 obtain ⟨v, ok, h1, _, h3⟩ := qtw (n := 1000002) (op := op) (by omega) hm ha hb
 unfold opP
 rw [h1]; exact ⟨rfl, h3⟩
theorem qt1 {nm : Str} {j : In1} (hi : ∃ i, IOK i ∧ j = inp i) : Jam nm j = some (qt0 nm j) ∧ VOK 10000 (qt0 nm j) := by
 obtain ⟨i, hi, rfl⟩ := hi
 obtain ⟨v, h1, _, h3⟩ := qqf (nm := nm) hi
 unfold qt0
 rw [h1]; exact ⟨rfl, h3⟩
abbrev w2 (m : M1) (at' : Int) : M2 := ⟨m.stack.map cv2, m.Ap.map cv2, at', r2 m.result, false, 0⟩
theorem qsi {m n : Nat} {nm : Str} {x : V1} {i : In2} (hn : 1000002 ≤ n) (hi : IOK i) (hm : m ≤ 20000) (hx : VOK m x) : ∃ w, JaX n nm (cv2 x) i = some (w, (qfh nm x (inp i)).2) ∧ ((qfh nm x (inp i)).2 = true → w = cv2 (qfh nm x (inp i)).1) := by
 obtain ⟨v, ok, h1, h2, _⟩ := qm4 (n := n) (nm := nm) hn hm hi hx
 unfold qfh
 rw [h1]; exact h2
theorem qvn {m n : Nat} {op : Str} {a b : V1} (hn : 1000002 ≤ n) (hm : m ≤ 20000) (ha : VOK m a) (hb : VOK m b) : ∃ w, JT n op (cv2 a) (cv2 b) = some (w, (opP op a b).2) ∧ ((opP op a b).2 = true → w = cv2 (opP op a b).1) := by
 obtain ⟨v, ok, h1, h2, _⟩ := qtw (n := n) (op := op) hn hm ha hb
 unfold opP
 rw [h1]; exact h2
theorem qvo {nm : Str} {i : In2} (hi : IOK i) : JcW nm i = some (cv2 (qt0 nm (inp i))) := by
 obtain ⟨v, h1, h2, _⟩ := qqf (nm := nm) hi
 unfold qt0
 rw [h1]; exact h2
theorem VOK.mono {a b : Nat} {v : V1} (h : VOK a v) (hab : a ≤ b) : VOK b v := ⟨Nat.le_trans h.1 hab, h.2⟩
theorem MOK.up {k k' : Nat} {m : M1} (h : MOK k m) (hk : k ≤ k') (h8 : k' ≤ 800) : MOK k' m := ⟨h.i, h.r.up hk, h.st, h.sl, h.sn, Nat.le_trans h.tn hk, h.s0, by have := h.s1; omega, h8⟩
theorem qqn {α : Type} {c : List α} {i : Nat} (h : i < c.length) : ix c (i : Int) = some c[i] := by
 unfold ix; rw [qzv (by omega), Int.toNat_natCast, List.getElem?_eq_getElem h]
def qxy (l : List RF) : Int := (tot l : Int) - 2 * l.length
theorem qqo {i : In2} (hl : i.Ao.length ≤ qax) (h : ∀ x ∈ i.Ao, x.Name.length ≤ qax ∧ x.Value.length ≤ qax) : ∀ (f j : Nat) (y : Int), j ≤ i.Ao.length → i.Ao.length - j < f →
  ∃ z, Jcf i f y (j : Int) = some (z, (i.Ao.length : Int)) ∧ (i.Ao.length ≤ 40 → 0 ≤ y → y ≤ 281474976710656 * (j + 2) → z = y + qxy (i.Ao.drop j))
 | 0, j, y, _, h => by omega
 | f + 1, j, y, hj, hf => by
  simp only [qax] at hl h
  rw [Jcf]
  by_cases q : j < i.Ao.length
  ·have hx := h _ (List.getElem_mem q)
   have e1 : IntKind.i64.wrap ((j : Int) + 1) = ((j + 1 : Nat) : Int) := qc4 (by simp only [InK]; omega)
   have e3 : IntKind.i64.wrap ((i.Ao[j].Name.length : Int) + (i.Ao[j].Value.length : Int)) = (i.Ao[j].Name.length : Int) + (i.Ao[j].Value.length : Int) := qc4 (by simp only [InK]; omega)
   rw [qzv (by simpa using q), qqn q, qzt, qzt, e1, e3]
   obtain ⟨z, hz, h2⟩ := qqo (by simpa only [qax] using hl) (by simpa only [qax] using h) f (j + 1) (IntKind.i64.wrap (y + ((i.Ao[j].Name.length : Int) + (i.Ao[j].Value.length : Int)))) (by omega) (by omega)
   refine ⟨z, hz, fun h3 h0 hy => ?_⟩
   have e2 : IntKind.i64.wrap (y + ((i.Ao[j].Name.length : Int) + (i.Ao[j].Value.length : Int))) = y + ((i.Ao[j].Name.length : Int) + (i.Ao[j].Value.length : Int)) := qc4 (by simp only [InK]; omega)
   rw [e2] at h2
   have g1 := h2 h3 (by omega) (by omega)
   rw [g1, List.drop_eq_getElem_cons q]
   unfold qxy
   rw [qe3]
   simp only [List.length_cons]
   omega
  ·have : j = i.Ao.length := by omega
   subst this
   rw [qzu (by simp)]
   exact ⟨y, rfl, fun _ _ _ => by simp [qxy, tot]⟩
theorem qvp {n : Nat} {i : In2} (hn : i.Ao.length < n) (h : Ju.ok i) : ∃ b, JcF n i = some b ∧ (b = true → IOK i) := by
 obtain ⟨o1, o2, o3, o4, o5, o6⟩ := h
 simp only [qax] at o1 o2 o3 o4
 have w1 : IntKind.i64.wrap ((i.Am.length : Int) + (i.An.length : Int)) = (i.Am.length : Int) + (i.An.length : Int) := qc4 (by simp only [InK]; omega)
 have w2 : IntKind.i64.wrap ((i.Am.length : Int) + (i.An.length : Int) + (i.Ae.length : Int)) = (i.Am.length : Int) + (i.An.length : Int) + (i.Ae.length : Int) := qc4 (by simp only [InK]; omega)
 have w3 : IntKind.i64.wrap ((i.Am.length : Int) + (i.An.length : Int) + (i.Ae.length : Int) + (i.Af.length : Int)) = (i.Am.length : Int) + (i.An.length : Int) + (i.Ae.length : Int) + (i.Af.length : Int) := qc4 (by simp only [InK]; omega)
 obtain ⟨z, hz, h2⟩ := qqo o5 (fun x hx => o6 x hx) n 0 ((i.Am.length : Int) + (i.An.length : Int) + (i.Ae.length : Int) + (i.Af.length : Int)) (by omega) (by omega)
 unfold JcF
 rw [w1, w2, w3]
 rw [show ((0 : Nat) : Int) = 0 from rfl] at hz
 rw [hz, qzt]
 refine ⟨_, rfl, fun hb => ?_⟩
 simp only [Bool.and_eq_true, decide_eq_true_eq] at hb
 have g := h2 (by omega) (by omega) (by omega)
 rw [List.drop_zero] at g
 unfold qxy at g
 have := qg8 i.Ao
 exact ⟨by omega, by omega, by omega, by omega, by omega⟩
theorem qsj {i : In2} (h : IOK i) : Ja2 i = some (inp i) := by
 unfold Ja2
 have := qg8 i.Ao
 have := h.f
 rw [qpy (by omega)]; rfl
theorem qt2 (b : List FF) : ∀ (l p : List FF), b = p ++ l → Jcz (uff b) l p.length = some (.go ())
 | [], p, h => rfl
 | x :: l, p, h => by
  have ih := qt2 b l (p ++ [x]) (by simp [h])
  have e : ix (uff b) (p.length : Int) = some ⟨x.Name, x.Value⟩ := by
   unfold ix uff; rw [qzv (by omega), h]; simp
  rw [show (p ++ [x]).length = p.length + 1 by simp] at ih
  rw [Jcz, e, qzt, qzt, qzu (by simp), qzt, qzu (by simp)]
  exact ih
theorem qxi {l : List FF} (h : l.length ≤ 100000) : Jex l (uff l) = some true := by
 unfold Jex
 rw [qzu (by simp [qd3]), qab (by simp only [qax]; omega), show (0 : Nat) = ([] : List FF).length from rfl, qt2 l l [] rfl]; rfl
theorem qj8 (b : List Str) : ∀ (l p : List Str), b = p ++ l → Jch b l p.length = some (.go ())
 | [], p, h => rfl
 | x :: l, p, h => by
  have ih := qj8 b l (p ++ [x]) (by simp [h])
  have e : ix b (p.length : Int) = some x := by
   unfold ix; rw [qzv (by omega), h]; simp
  rw [show (p ++ [x]).length = p.length + 1 by simp] at ih
  rw [Jch, e, qzt, qzu (by simp)]
  exact ih
theorem qj9 {l : List Str} (h : l.length ≤ 100000) : Jdx l l = some true := by
 unfold Jdx
 rw [qzu (by simp), qab (by simp only [qax]; omega), show (0 : Nat) = ([] : List Str).length from rfl, qj8 l l [] rfl]; rfl
theorem qxj {k : Nat} {r : R1} (h : ROK k r) (hk : k ≤ 100000) : Jb6 r (r2 r) = some true := by
 have h1 := h.h.1
 have h2 := h.v
 have h3 := h.t
 unfold Jb6 r2
 dsimp only
 rw [qxi (by omega), qj9 (by omega), qj9 (by omega)]
 simp
theorem qm7 {c : List I} {i : In1} : ∀ (f f' : Nat) (a : Int) (m : M1) (r : Fl (R1 × Err) (Int × M1)), f ≤ f' → Jbp c i f a m = some r → Jbp c i f' a m = some r
 | 0, f', a, m, r, _, h => by rw [Jbp] at h; cases h
 | f + 1, 0, a, m, r, hf, h => by omega
 | f + 1, f' + 1, a, m, r, hf, h => by
  rw [Jbp] at h ⊢
  by_cases q : decide (a ≥ 0) = true
  ·rw [qzv q] at h ⊢
   obtain ⟨x, hx, h⟩ := Option.bind_eq_some_iff.1 h
   obtain ⟨p, hp, h⟩ := Option.bind_eq_some_iff.1 h
   rw [hx, qzt, hp, qzt]
   by_cases q2 : p.2.1.isSome = true
   ·rw [qzv q2] at h ⊢; exact h
   ·rw [qzu q2] at h ⊢
    exact qm7 f f' _ _ r (by omega) h
  ·rw [qzu q] at h ⊢; exact h
theorem qqp {c : List I} {i : In1} {most : Int} {f f' : Nat} {r : R1 × Err} (hf : f ≤ f') (h : JbI f c i most = some r) : JbI f' c i most = some r := by
 unfold JbI at h ⊢
 obtain ⟨x, hx, h⟩ := Option.bind_eq_some_iff.1 h
 rw [hx, qzt]
 by_cases q : x.isSome = true
 ·rw [qzv q] at h ⊢; exact h
 ·rw [qzu q] at h ⊢
  obtain ⟨s, hs, h⟩ := Option.bind_eq_some_iff.1 h
  rw [qm7 f f' _ _ _ hf hs, qzt]; exact h
theorem qxk : JaB 10 = some true := by decide +kernel
theorem qqq {n : Nat} (hn : 10 ≤ n) : JaB n = some true := by
 have h := qxk
 unfold JaB at h ⊢
 obtain ⟨x, hx, h⟩ := Option.bind_eq_some_iff.1 h
 rw [qqp hn hx, qzt]; exact h
def m0 (i : In2) (most : Int) : M1 := ⟨inp i, most, ⟨i.Ae, i.Af, [], [], [], -1, 0, 0, false, false⟩, [], List.replicate 512 z0⟩
abbrev SgV := Str → Option V1
def smE (v : V1) : V1 × Err := if v.s.length > 2048 then (z0, some 5) else (v, none)
noncomputable def evE (j : In1) (σ : SgV) : Nat → M → V1 × Err
 | 0, _ => (z0, none)
 | d + 1, x =>
  if x.Ab = 20 then (nm' (qve x.Ac), none)
  else if x.Ab = 21 then smE (tx' x.Ac)
  else if x.Ab = 22 then (tr' (decide (x.Ac = Rc.sTrue)), none)
  else if x.Ab = 23 then (match σ x.Ac with | some v => (v, none) | none => smE (qt0 x.Ac j))
  else match x.Aa with
   | [k] => if (evE j σ d k).2.isSome = true then (z0, (evE j σ d k).2) else if x.Ab = 24 then smE (qfh x.Ac (evE j σ d k).1 j).1 else (tr' (!(evE j σ d k).1.At), none)
   | [k, l] => if (evE j σ d k).2.isSome = true then (z0, (evE j σ d k).2)
    else if x.Ab = 14 then (if (evE j σ d k).1.At = true then evE j σ d l else ((evE j σ d k).1, none))
    else if x.Ab = 13 then (if (evE j σ d k).1.At = true then ((evE j σ d k).1, none) else evE j σ d l)
    else if (evE j σ d l).2.isSome = true then (z0, (evE j σ d l).2) else smE (opP (Rc.opw x) (evE j σ d k).1 (evE j σ d l).1).1
   | _ => (z0, none)
structure TyV (ρ : Env) (σ : SgV) : Prop where
 some_ : ∀ s v, σ s = some v → v.kind = ρ s ∧ VOK 2048 v
 none_ : ∀ s, σ s = none → ρ s = base s
theorem qm8 {v : V1} {t : Int} (hv : VOK 40000 v) (ht : v.kind = t) : ((smE v).2 = none → (smE v).1.kind = t ∧ VOK 2048 (smE v).1) ∧ ((smE v).2 = none ∨ (smE v).2 = some 5) := by
 unfold smE
 split
 ·exact ⟨(fun h => by cases h), .inr rfl⟩
 ·rename_i q
  exact ⟨fun _ => ⟨ht, (by show v.s.length ≤ 2048; omega), hv.2⟩, .inl rfl⟩
theorem qsk (s : Str) (j : In1) : (qt0 s j).kind = 1 := by
 unfold qt0 Jam
 by_cases q1 : s = [109, 101, 116, 104, 111, 100]
 ·subst q1; rfl
 by_cases q2 : s = [104, 111, 115, 116]
 ·subst q2; rfl
 by_cases q3 : s = [112, 97, 116, 104]
 ·subst q3; rfl
 rw [qzu (by simpa using q1), qzu (by simpa using q2), qzu (by simpa using q3)]; rfl
theorem qh8 {s : Str} {a : V1} {j : In1} (hj : ∃ i, IOK i ∧ j = inp i) (ha : VOK 2048 a) (h : (fnc s).2 ≠ 0) (hk : a.kind = (fnc s).1) : (qfh s a j).2 = true ∧ (qfh s a j).1.kind = (fnc s).2 := by
 obtain ⟨i, hi, rfl⟩ := hj
 obtain ⟨ha0, ha1, ha2⟩ := ha
 have hip := hi.p
 have hiq := hi.q
 have hif := hi.f
 have hsg := qmz i.Ae
 have hft : tot i.Ao ≤ 1000000 := by omega
 have hsl : a.s.length ≤ 1000000 := by omega
 unfold qfh
 by_cases q1 : s = [104, 101, 97, 100, 101, 114]
 ·subst q1
  have hk1 : a.kind = 1 := hk
  have e : JL [104, 101, 97, 100, 101, 114] a (inp i) = some (tx' (qqy i.Ao a.s), true) := by
   unfold JL
   rw [qzu (by decide), qzu (by simpa using hk1), qzv (by decide), show (inp i).Ao = ffs i.Ao from rfl, qm3 hft hsl]; rfl
  rw [e]; exact ⟨rfl, rfl⟩
 by_cases q2 : s = [97, 114, 103]
 ·subst q2
  have hk1 : a.kind = 1 := hk
  obtain ⟨b1, h1⟩ := qtq (q := i.Af) (nm := a.s) (by omega) hsl
  have e : JL [97, 114, 103] a (inp i) = some (tx' (qvb i.Af a.s), true) := by
   unfold JL
   rw [qzu (by decide), qzu (by simpa using hk1), qzu (by decide), qzu (by decide), qzv (by decide), show (inp i).Af = i.Af from rfl, h1]; rfl
  rw [e]; exact ⟨rfl, rfl⟩
 by_cases q3 : s = [108, 111, 119, 101, 114]
 ·subst q3
  have hk1 : a.kind = 1 := hk
  have e : JL [108, 111, 119, 101, 114] a (inp i) = some (tx' (low a.s), true) := by
   unfold JL
   rw [qzu (by decide), qzu (by simpa using hk1), qzu (by decide), qzu (by decide), qzu (by decide), qzu (by decide), qzv (by decide), qtu (by omega)]; rfl
  rw [e]; exact ⟨rfl, rfl⟩
 by_cases q4 : s = [104, 97, 115]
 ·subst q4
  have hk1 : a.kind = 1 := hk
  have e : JL [104, 97, 115] a (inp i) = some (tr' (decide (((vals i.Ao a.s).length : Int) > 0)), true) := by
   unfold JL
   rw [qzu (by decide), qzu (by simpa using hk1), qzu (by decide), qzv (by decide), show (inp i).Ao = ffs i.Ao from rfl, qm3 hft hsl]; rfl
  rw [e]; exact ⟨rfl, rfl⟩
 by_cases q5 : s = [108, 101, 110]
 ·subst q5
  have hk1 : a.kind = 1 := hk
  have e : JL [108, 101, 110] a (inp i) = some (nm' (a.s.length : Int), true) := by
   unfold JL
   rw [qzu (by decide), qzu (by simpa using hk1), qzu (by decide), qzu (by decide), qzu (by decide), qzv (by decide)]; rfl
  rw [e]; exact ⟨rfl, rfl⟩
 by_cases q6 : s = [110, 117, 109, 98, 101, 114]
 ·subst q6
  have hk1 : a.kind = 1 := hk
  have e : JL [110, 117, 109, 98, 101, 114] a (inp i) = some (nm' (qve a.s), true) := by
   unfold JL
   rw [qzu (by decide), qzu (by simpa using hk1), qzu (by decide), qzu (by decide), qzu (by decide), qzu (by decide), qzu (by decide), qvf]; rfl
  rw [e]; exact ⟨rfl, rfl⟩
 by_cases q7 : s = [112, 97, 114, 116]
 ·subst q7
  have hk1 : a.kind = 2 := hk
  have e : ∃ z, JL [112, 97, 114, 116] a (inp i) = some (tx' z, true) := by
   unfold JL
   rw [qzv (by decide), qzu (by simpa using hk1), qzu (show ¬ decide (([112, 97, 114, 116] : Str) = [116, 101, 120, 116]) = true by decide), show (inp i).Ae = i.Ae from rfl, qp1 (by omega), qzt]
   by_cases r : 0 ≤ a.n ∧ a.n < (qnx i.Ae).length
   ·obtain ⟨z, hz⟩ := qcy r.1 r.2
    rw [qzu (by simp; omega), hz]; exact ⟨_, rfl⟩
   ·rw [qzv (by simp; omega)]; exact ⟨_, rfl⟩
  obtain ⟨z, e⟩ := e
  rw [e]; exact ⟨rfl, rfl⟩
 by_cases q8 : s = [116, 101, 120, 116]
 ·subst q8
  have hk1 : a.kind = 2 := hk
  have e : JL [116, 101, 120, 116] a (inp i) = some (tx' (Go.Lib.itoa a.n), true) := by
   unfold JL
   rw [qzv (by decide), qzu (by simpa using hk1), qzv (show decide (([116, 101, 120, 116] : Str) = [116, 101, 120, 116]) = true by decide), qm2 ha1 ha2]; rfl
  rw [e]; exact ⟨rfl, rfl⟩
 refine absurd ?_ h
 unfold fnc J3
 rw [qzu (by simpa using q1), qzu (by simpa using q2), qzu (by simpa using q3), qzu (by simpa using q4), qzu (by simpa using q5), qzu (by simpa using q6), qzu (by simpa using q7), qzu (by simpa using q8)]; rfl
theorem qqr (t a b : Int) : Jw t [a, b] = some (decide (a = t) && decide (b = t)) := by
 unfold Jw
 rw [qab (by simp [qax]), JK]
 by_cases q : a = t
 ·rw [qzu (by simpa using q), JK]
  by_cases q2 : b = t
  ·rw [qzu (by simpa using q2)]; simp [q, q2, JK, Rt.el_go]
  ·rw [qzv (by simpa using q2)]; simp [q, q2, Rt.el_ret]
 ·rw [qzv (by simpa using q)]; simp [q, Rt.el_ret]
theorem opr_two {x : M} {a b t : Int} (h : opr x [a, b] = t) (ht : t ≠ 0) (hk : x.Ab = 17 ∨ x.Ab = 18 ∨ x.Ab = 19 ∨ (x.Ab = 16 ∧ cmp x.Ac = true)) :
  (Rc.opw x = [43] ∧ a = b ∧ t = a ∧ (a = 1 ∨ a = 2)) ∨ ((Rc.opw x = [45] ∨ Rc.opw x = [42]) ∧ a = 2 ∧ b = 2 ∧ t = 2) ∨ ((Rc.opw x = [61, 61] ∨ Rc.opw x = [33, 61]) ∧ a = b ∧ t = 3) ∨
  ((Rc.opw x = [60] ∨ Rc.opw x = [60, 61]) ∧ a = 2 ∧ b = 2 ∧ t = 3) ∨ ((Rc.opw x = [115, 116, 97, 114, 116, 115] ∨ Rc.opw x = [101, 110, 100, 115] ∨ Rc.opw x = [99, 111, 110, 116, 97, 105, 110, 115]) ∧ a = 1 ∧ b = 1 ∧ t = 3) := by
 unfold opr JM at h
 unfold Rc.opw
 simp only [qqr, qzt] at h
 rcases hk with q | q | q | ⟨q, qc⟩
 ·left
  simp only [q, decide_true, if_true] at h
  rw [qzv q]
  by_cases w : a = 1 ∧ b = 1
  ·rw [qzv (by simp [w])] at h
   refine ⟨rfl, by omega, ?_, .inl w.1⟩
   simp at h; omega
  ·rw [qzu (by simpa using w)] at h
   by_cases w2 : a = 2 ∧ b = 2
   ·rw [qzv (by simp [w2])] at h
    refine ⟨rfl, by omega, ?_, .inr w2.1⟩
    simp at h; omega
   ·rw [qzu (by simpa using w2)] at h
    exact absurd (by simpa using h.symm) ht
 ·right; left
  rw [qzu (by simp [q]), qzv (by simp [q])] at h
  rw [qzu (by omega), qzv q]
  by_cases w2 : a = 2 ∧ b = 2
  ·rw [qzv (by simp [w2])] at h
   refine ⟨.inl rfl, w2.1, w2.2, ?_⟩
   simp at h; omega
  ·rw [qzu (by simpa using w2)] at h
   exact absurd (by simpa using h.symm) ht
 ·right; left
  rw [qzu (by simp [q]), qzu (by simp [q]), qzv (by simp [q])] at h
  rw [qzu (by omega), qzu (by omega), qzv q]
  by_cases w2 : a = 2 ∧ b = 2
  ·rw [qzv (by simp [w2])] at h
   refine ⟨.inr rfl, w2.1, w2.2, ?_⟩
   simp at h; omega
  ·rw [qzu (by simpa using w2)] at h
   exact absurd (by simpa using h.symm) ht
 ·right; right
  rw [qzu (by simp [q]), qzu (by simp [q]), qzu (by simp [q]), qzu (by simp [q]), qzu (by simp [q]), qzu (by simp [q]), qzv (by simp [q])] at h
  rw [qzu (by omega), qzu (by omega), qzu (by omega)]
  have eqc : ∀ {o : Option Int}, ((if decide (a = b) = true then some 3 else some 0 : Option Int).getD 0) = t → a = b ∧ t = 3 := fun {o} h => by
   by_cases w : a = b
   ·rw [qzv (by simpa using w)] at h; simp at h; exact ⟨w, h.symm⟩
   ·rw [qzu (by simpa using w)] at h; exact absurd (by simpa using h.symm) ht
  have two : ∀ {k : Int}, ((if (decide (a = k) && decide (b = k)) = true then some 3 else some 0 : Option Int).getD 0) = t → a = k ∧ b = k ∧ t = 3 := fun {k} h => by
   by_cases w : a = k ∧ b = k
   ·rw [qzv (by simp [w])] at h; simp at h; exact ⟨w.1, w.2, h.symm⟩
   ·rw [qzu (by simpa using w)] at h; exact absurd (by simpa using h.symm) ht
  by_cases w1 : x.Ac = [61, 61]
  ·rw [qzv (by simpa using w1)] at h
   exact .inl ⟨.inl w1, eqc (o := none) h⟩
  rw [qzu (by simpa using w1)] at h
  by_cases w2 : x.Ac = [33, 61]
  ·rw [qzv (by simpa using w2)] at h
   exact .inl ⟨.inr w2, eqc (o := none) h⟩
  rw [qzu (by simpa using w2)] at h
  by_cases w3 : x.Ac = [60]
  ·rw [qzv (by simpa using w3)] at h
   exact .inr (.inl ⟨.inl w3, two h⟩)
  rw [qzu (by simpa using w3)] at h
  by_cases w4 : x.Ac = [60, 61]
  ·rw [qzv (by simpa using w4)] at h
   exact .inr (.inl ⟨.inr w4, two h⟩)
  rw [qzu (by simpa using w4)] at h
  refine .inr (.inr ⟨?_, two h⟩)
  unfold cmp at qc
  simp [w1, w2, w3, w4] at qc
  exact qc
theorem qm9 {x : M} {a b : V1} {t : Int} (ha : VOK 2048 a) (hb : VOK 2048 b) (h : opr x [a.kind, b.kind] = t) (ht : t ≠ 0) (hk : x.Ab = 17 ∨ x.Ab = 18 ∨ x.Ab = 19 ∨ (x.Ab = 16 ∧ cmp x.Ac = true)) :
  (opP (Rc.opw x) a b).2 = true ∧ (opP (Rc.opw x) a b).1.kind = t := by
 obtain ⟨ha0, ha1, ha2⟩ := ha
 obtain ⟨hb0, hb1, hb2⟩ := hb
 unfold opP JS
 rcases opr_two h ht hk with ⟨e, e1, e2, e3⟩ | ⟨e, e1, e2, e3⟩ | ⟨e, e1, e2⟩ | ⟨e, e1, e2, e3⟩ | ⟨e, e1, e2, e3⟩
 ·rw [e, qzu (by simpa using e1), qzv (by decide)]
  rcases e3 with q | q
  ·rw [qzv (by simpa using q), qab (by simp only [lim]; omega)]; exact ⟨rfl, by rw [e2, q]; rfl⟩
  ·rw [qzu (by rw [q]; decide), qab (by constructor <;> omega)]; exact ⟨by simp [q, qsg], by rw [e2, q]; rfl⟩
 ·rcases e with e | e
  ·rw [e, qzu (by rw [e1, e2]; decide), qzu (by decide), qzv (by decide), qab (by constructor <;> omega)]; exact ⟨by simp [e1, qsg], by rw [e3]; rfl⟩
  ·rw [e, qzu (by rw [e1, e2]; decide), qzu (by decide), qzu (by decide), qzv (by decide), qzu (by rw [e1]; decide), qqe ha1 ha2 hb1 hb2]; exact ⟨rfl, by rw [e3]; rfl⟩
 ·rcases e with e | e
  ·rw [e, qzu (by simpa using e1), qzu (by decide), qzu (by decide), qzu (by decide), qzv (by decide)]; exact ⟨rfl, by rw [e2]; rfl⟩
  ·rw [e, qzu (by simpa using e1), qzu (by decide), qzu (by decide), qzu (by decide), qzu (by decide), qzv (by decide)]; exact ⟨rfl, by rw [e2]; rfl⟩
 ·rcases e with e | e
  ·rw [e, qzu (by rw [e1, e2]; decide), qzu (by decide), qzu (by decide), qzu (by decide), qzu (by decide), qzu (by decide), qzv (by decide)]; exact ⟨by simp [e1, qj5], by rw [e3]; rfl⟩
  ·rw [e, qzu (by rw [e1, e2]; decide), qzu (by decide), qzu (by decide), qzu (by decide), qzu (by decide), qzu (by decide), qzu (by decide), qzv (by decide)]; exact ⟨by simp [e1, qj5], by rw [e3]; rfl⟩
 ·rcases e with e | e | e
  ·rw [e, qzu (by rw [e1, e2]; decide), qzu (by decide), qzu (by decide), qzu (by decide), qzu (by decide), qzu (by decide), qzu (by decide), qzu (by decide), qzv (by decide), pfx]; exact ⟨by simp [e1, qj5], by rw [e3]; rfl⟩
  ·rw [e, qzu (by rw [e1, e2]; decide), qzu (by decide), qzu (by decide), qzu (by decide), qzu (by decide), qzu (by decide), qzu (by decide), qzu (by decide), qzu (by decide), qzv (by decide), sfx (by omega) (by omega)]; exact ⟨by simp [e1, qj5], by rw [e3]; rfl⟩
  ·rw [e, qzu (by rw [e1, e2]; decide), qzu (by decide), qzu (by decide), qzu (by decide), qzu (by decide), qzu (by decide), qzu (by decide), qzu (by decide), qzu (by decide), qzu (by decide), qfy (by omega)]; exact ⟨by simp [e1, qj5], by rw [e3]; rfl⟩
theorem qiw {d : Nat} {ρ : Env} {x k : M} {t : Int} (hk : x.Aa = [k]) (h : tyE (d + 1) ρ x = .ok t) : ∃ t1, tyE d ρ k = .ok t1 ∧ tyN ρ x [t1] = .ok t := by
 obtain ⟨ts, h1, h2⟩ := qk5 h
 rw [hk, kidsE] at h1
 cases q : tyE d ρ k with
 | error e => rw [q] at h1; cases h1
 | ok t1 => rw [q] at h1; simp only [kidsE] at h1; cases h1; exact ⟨t1, rfl, h2⟩
theorem qix {d : Nat} {ρ : Env} {x k l : M} {t : Int} (hk : x.Aa = [k, l]) (h : tyE (d + 1) ρ x = .ok t) : ∃ t1 t2, tyE d ρ k = .ok t1 ∧ tyE d ρ l = .ok t2 ∧ tyN ρ x [t1, t2] = .ok t := by
 obtain ⟨ts, h1, h2⟩ := qk5 h
 rw [hk, kidsE] at h1
 cases q : tyE d ρ k with
 | error e => rw [q] at h1; cases h1
 | ok t1 =>
  rw [q] at h1
  simp only [kidsE] at h1
  cases q2 : tyE d ρ l with
  | error e => rw [q2] at h1; cases h1
  | ok t2 => rw [q2] at h1; simp only at h1; cases h1; exact ⟨t1, t2, rfl, rfl, h2⟩
theorem qeg {j : In1} {ρ : Env} {σ : SgV} (hj : ∃ i, IOK i ∧ j = inp i) (hT : TyV ρ σ) : ∀ (d : Nat) (x : M) (t : Int), Rc.XE ρ d x → tyE d ρ x = .ok t → ((evE j σ d x).2 = none → (evE j σ d x).1.kind = t ∧ VOK 2048 (evE j σ d x).1) ∧ ((evE j σ d x).2 = none ∨ (evE j σ d x).2 = some 5)
 | 0, x, t, hx, _ => hx.elim
 | d + 1, x, t, hx, ht => by
  obtain ⟨htl, hx⟩ := hx
  obtain ⟨ts, hts, htn⟩ := qk5 ht
  have hv := qu4 htn
  rw [evE]
  rcases hx with ⟨hk, _, hkk⟩ | ⟨hk, _, hkk⟩ | ⟨hk, hkk⟩ | ⟨hk, hρ, hkk⟩ | ⟨hk, k, hkk, hxk⟩ | ⟨hk, k, l, hkk, hxk, hxl⟩
  ·rw [qzv hk]
   exact ⟨fun _ => ⟨(hv.1 hk).symm, qny _ _⟩, .inl rfl⟩
  ·rw [qzu (by omega), qzv hk]
   exact qm8 (qf2 (by omega)) (hv.2.1 hk).symm
  ·rw [qzu (by omega), qzu (by omega), qzv hk]
   exact ⟨fun _ => ⟨(hv.2.2.1 hk).symm, qhf _ _⟩, .inl rfl⟩
  ·rw [qzu (by omega), qzu (by omega), qzu (by omega), qzv hk]
   have e := hv.2.2.2.1 hk
   cases q : σ x.Ac with
   | some v =>
    obtain ⟨a1, a2⟩ := hT.some_ _ _ q
    exact ⟨fun _ => ⟨by rw [e]; exact a1, a2⟩, .inl rfl⟩
   | none =>
    have a1 := hT.none_ _ q
    obtain ⟨p1, p2⟩ := qt1 (nm := x.Ac) hj
    refine qm8 (p2.mono (by omega)) ?_
    rw [qsk, e, a1]
    rw [a1] at hρ
    unfold base at hρ ⊢
    split at hρ
    ·rename_i w; rw [qzv w]
    ·exact absurd rfl hρ
  ·obtain ⟨t1, ht1, hn1⟩ := qiw hkk ht
   obtain ⟨ih1, ih2⟩ := qeg hj hT d k t1 hxk ht1
   rw [qzu (by omega), qzu (by omega), qzu (by omega), qzu (by omega), hkk]
   simp only
   rcases ih2 with q | q
   ·rw [qzu (by rw [q]; simp)]
    obtain ⟨g1, g2⟩ := ih1 q
    rcases hk with ⟨hk, hf⟩ | hk
    ·rw [qzv hk]
     unfold tyN at hn1
     rw [qzu (by omega), qzu (by omega), qzu (by omega), qzu (by omega), qzv hk, qzu hf] at hn1
     by_cases w : [t1] = [(fnc x.Ac).1]
     ·rw [qzv w] at hn1
      cases hn1
      have w1 : t1 = (fnc x.Ac).1 := by simpa using w
      obtain ⟨c1, c2⟩ := qh8 hj g2 hf (by rw [g1, w1])
      obtain ⟨c3, c4⟩ := qql (n := 0) (nm := x.Ac) hj (by omega) g2
      exact qm8 (c4 c1) c2
     ·rw [qzu w] at hn1; cases hn1
    ·rw [qzu (by omega)]
     unfold tyN at hn1
     rw [qzu (by omega), qzu (by omega), qzu (by omega), qzu (by omega), qzu (by omega)] at hn1
     by_cases w : opr x [t1] = 0
     ·rw [qzv w] at hn1; cases hn1
     ·rw [qzu w] at hn1
      cases hn1
      have e15 : opr x [t1] = 3 := by
       unfold opr JM at w ⊢
       rw [qzu (by simp [hk]), qzu (by simp [hk]), qzu (by simp [hk]), qzu (by simp [hk]), qzu (by simp [hk]), qzv (by simp [hk])] at w ⊢
       unfold Jw at w ⊢
       rw [qab (by simp [qax]), JK] at w ⊢
       by_cases w3 : t1 = 3
       ·rw [qzu (by simpa using w3)]; rfl
       ·rw [qzv (by simpa using w3)] at w; exact absurd rfl w
      exact ⟨fun _ => ⟨by rw [e15]; rfl, qhf _ _⟩, .inl rfl⟩
   ·rw [qzv (by rw [q]; rfl)]
    exact ⟨(fun h => by rw [q] at h; cases h), .inr q⟩
  ·obtain ⟨t1, t2, ht1, ht2, hn1⟩ := qix hkk ht
   obtain ⟨ih1, ih2⟩ := qeg hj hT d k t1 hxk ht1
   obtain ⟨ih3, ih4⟩ := qeg hj hT d l t2 hxl ht2
   rw [qzu (by omega), qzu (by omega), qzu (by omega), qzu (by omega), hkk]
   simp only
   unfold tyN at hn1
   rw [qzu (by omega), qzu (by omega), qzu (by omega), qzu (by omega), qzu (by omega)] at hn1
   rcases ih2 with q | q
   ·rw [qzu (by rw [q]; simp)]
    obtain ⟨g1, g2⟩ := ih1 q
    by_cases w : opr x [t1, t2] = 0
    ·rw [qzv w] at hn1; cases hn1
    ·rw [qzu w] at hn1
     cases hn1
     have lg : (x.Ab = 13 ∨ x.Ab = 14) → t1 = 3 ∧ t2 = 3 ∧ opr x [t1, t2] = 3 := fun hk => by
      unfold opr JM at w ⊢
      rw [qzu (by rcases hk with q | q <;> simp [q]), qzu (by rcases hk with q | q <;> simp [q]), qzu (by rcases hk with q | q <;> simp [q])] at w ⊢
      have e : (if decide (x.Ab = 13) = true then (Jw 3 [t1, t2]).bind fun x25 => if x25 = true then some 3 else some 0
       else if decide (x.Ab = 14) = true then (Jw 3 [t1, t2]).bind fun x25 => if x25 = true then some 3 else some 0 else none) = if (decide (t1 = 3) && decide (t2 = 3)) = true then some (3 : Int) else some 0 := by
       rw [qqr]
       rcases hk with q | q <;> simp [q]
      have e2 : ∀ {o : Option Int}, (if decide (x.Ab = 13) = true then (Jw 3 [t1, t2]).bind fun x25 => if x25 = true then some 3 else some 0
       else if decide (x.Ab = 14) = true then (Jw 3 [t1, t2]).bind fun x25 => if x25 = true then some 3 else some 0 else o) = if (decide (t1 = 3) && decide (t2 = 3)) = true then some (3 : Int) else some 0 := by
       intro o
       rw [← e]
       rcases hk with q | q <;> simp [q]
      rw [e2] at w ⊢
      by_cases w3 : t1 = 3 ∧ t2 = 3
      ·rw [qzv (by simp [w3])]; exact ⟨w3.1, w3.2, rfl⟩
      ·rw [qzu (by simpa using w3)] at w; exact absurd rfl w
     by_cases k14 : x.Ab = 14
     ·obtain ⟨l1, l2, l3⟩ := lg (.inr k14)
      rw [qzv k14, l3]
      split
      ·rw [← l2]; exact ⟨ih3, ih4⟩
      ·exact ⟨fun _ => ⟨by rw [g1, l1], g2⟩, .inl rfl⟩
     ·rw [qzu k14]
      by_cases k13 : x.Ab = 13
      ·obtain ⟨l1, l2, l3⟩ := lg (.inl k13)
       rw [qzv k13, l3]
       split
       ·exact ⟨fun _ => ⟨by rw [g1, l1], g2⟩, .inl rfl⟩
       ·rw [← l2]; exact ⟨ih3, ih4⟩
      ·rw [qzu k13]
       rcases ih4 with q4 | q4
       ·rw [qzu (by rw [q4]; simp)]
        obtain ⟨g3, g4⟩ := ih3 q4
        have hk' : x.Ab = 17 ∨ x.Ab = 18 ∨ x.Ab = 19 ∨ (x.Ab = 16 ∧ cmp x.Ac = true) := by
         rcases hk with q | q | q | q | q | q
         ·exact absurd q k13
         ·exact absurd q k14
         ·exact .inl q
         ·exact .inr (.inl q)
         ·exact .inr (.inr (.inl q))
         ·exact .inr (.inr (.inr q))
        obtain ⟨c1, c2⟩ := qm9 g2 g4 (t := opr x [t1, t2]) (by rw [g1, g3]) w hk'
        obtain ⟨c3, c4⟩ := qqm (op := Rc.opw x) (by omega) g2 g4
        exact qm8 (c4 c1) c2
       ·rw [qzv (by rw [q4]; rfl)]
        exact ⟨(fun h => by rw [q4] at h; cases h), .inr q4⟩
   ·rw [qzv (by rw [q]; rfl)]
    exact ⟨(fun h => by rw [q] at h; cases h), .inr q⟩
abbrev B1 := JD
abbrev B2 := Jz
def cvB (b : B1) : B2 := ⟨b.name, cv2 b.value⟩
def sgV (env : List B1) : SgV := fun s => (env.reverse.find? (fun b => decide (b.name = s))).map (·.value)
theorem qvq : sgV [] = fun _ => none := rfl
theorem qsl (env : List B1) (s : Str) (v : V1) : sgV (env ++ [⟨s, v⟩]) = fun q => if s = q then some v else sgV env q := by
 funext q
 unfold sgV
 rw [List.reverse_append]
 simp only [List.reverse_cons, List.reverse_nil, List.nil_append, List.singleton_append, List.find?_cons]
 by_cases w : s = q
 ·simp [w]
 ·simp [w]
theorem qxl {env : List B1} {x : M} (hl : env.length ≤ 1000000) : ∀ (k m : Nat), k ≤ env.length → k < m → Jae env x m ((k : Int) - 1) = some (match (env.take k).reverse.find? (fun b => decide (b.name = x.Ac)) with
  | some b => .ret (b.value, none)
  | none => .go (-1))
 | k, 0, _, h => by omega
 | 0, m + 1, _, _ => by rw [Jae, qzu (by simp)]; rfl
 | k + 1, m + 1, hk, hm => by
  have hlt : k < env.length := by omega
  have e : ((k + 1 : Nat) : Int) - 1 = (k : Int) := by omega
  rw [Jae, e, qzv (by simp), qqn hlt, qzt, List.take_add_one, List.getElem?_eq_getElem hlt]
  simp only [Option.toList_some, List.reverse_append, List.reverse_cons, List.reverse_nil, List.nil_append, List.singleton_append, List.find?_cons]
  by_cases w : env[k].name = x.Ac
  ·rw [qzv (by simpa using w), qzt, decide_eq_true w]
  ·rw [qzu (by simpa using w), decide_eq_false w, qab (by constructor <;> omega)]
   exact qxl hl k m (by omega) (by omega)
theorem qxm {env : List B1} {x : N} (hl : env.length ≤ 1000000) : ∀ (k m : Nat), k ≤ env.length → k < m → JbT (env.map cvB) x m ((k : Int) - 1) = some (match (env.take k).reverse.find? (fun b => decide (b.name = x.Ac)) with
  | some b => .ret (cv2 b.value, 0)
  | none => .go (-1))
 | k, 0, _, h => by omega
 | 0, m + 1, _, _ => by rw [JbT, qzu (by simp)]; rfl
 | k + 1, m + 1, hk, hm => by
  have hlt : k < env.length := by omega
  have e : ((k + 1 : Nat) : Int) - 1 = (k : Int) := by omega
  have hx : ix (env.map cvB) (k : Int) = some (cvB env[k]) := by rw [qqn (by simpa using hlt)]; simp
  rw [JbT, e, qzv (by simp), hx, qzt, List.take_add_one, List.getElem?_eq_getElem hlt]
  simp only [Option.toList_some, List.reverse_append, List.reverse_cons, List.reverse_nil, List.nil_append, List.singleton_append, List.find?_cons]
  by_cases w : env[k].name = x.Ac
  ·rw [qzv (by rw [decide_eq_true_eq]; exact w), qzt, decide_eq_true w]; rfl
  ·rw [qzu (by rw [decide_eq_true_eq]; exact w), decide_eq_false w, qab (by constructor <;> omega)]
   exact qxm hl k m (by omega) (by omega)
theorem qna (v : V1) : Jb9 v = some (smE v) := by
 unfold Jb9 smE
 by_cases q : v.s.length > 2048
 ·rw [qzv (by simp; omega), qzv q]; rfl
 ·rw [qzu (by simp; omega), qzu q]
theorem qnb (v : V1) : JcA (cv2 v) = some (cv2 (smE v).1, (smE v).2.getD 0) := by
 unfold JcA smE
 rw [show (cv2 v).S = v.s from rfl]
 by_cases q : v.s.length > 2048
 ·rw [qzv (by simp; omega), qzv q]; rfl
 ·rw [qzu (by simp; omega), qzu q]; rfl
theorem qn0 {x : M} {T : Type} {A B : Option (Fl T Str)} (n13 : x.Ab ≠ 13) (n14 : x.Ab ≠ 14) (n15 : x.Ab ≠ 15) (n24 : x.Ab ≠ 24) {C D : Option (Fl T Str)} :
  (if decide (x.Ab = 24) = true then A else if decide (x.Ab = 15) = true then B else if decide (x.Ab = 14) = true then C else if decide (x.Ab = 13) = true then D else
   if decide (x.Ab = 17) = true then some (Fl.go ([43] : Str)) else if decide (x.Ab = 18) = true then some (Fl.go ([45] : Str)) else if decide (x.Ab = 19) = true then some (Fl.go ([42] : Str)) else some (Fl.go x.Ac)) = some (Fl.go (Rc.opw x)) := by
 rw [qzu (by simpa using n24), qzu (by simpa using n15), qzu (by simpa using n14), qzu (by simpa using n13)]
 unfold Rc.opw
 by_cases q17 : x.Ab = 17
 ·rw [qzv (by simpa using q17), qzv q17]
 rw [qzu (by simpa using q17), qzu q17]
 by_cases q18 : x.Ab = 18
 ·rw [qzv (by simpa using q18), qzv q18]
 rw [qzu (by simpa using q18), qzu q18]
 by_cases q19 : x.Ab = 19
 ·rw [qzv (by simpa using q19), qzv q19]
 ·rw [qzu (by simpa using q19), qzu q19]
theorem qxn {j : In1} {σ : SgV} {d : Nat} {x k : M} (h20 : x.Ab ≠ 20) (h21 : x.Ab ≠ 21) (h22 : x.Ab ≠ 22) (h23 : x.Ab ≠ 23) (hkk : x.Aa = [k]) :
  evE j σ (d + 1) x = if (evE j σ d k).2.isSome = true then (z0, (evE j σ d k).2) else if x.Ab = 24 then smE (qfh x.Ac (evE j σ d k).1 j).1 else (tr' (!(evE j σ d k).1.At), none) := by
 rw [evE, qzu h20, qzu h21, qzu h22, qzu h23, hkk]
theorem qxo {j : In1} {σ : SgV} {d : Nat} {x k l : M} (h20 : x.Ab ≠ 20) (h21 : x.Ab ≠ 21) (h22 : x.Ab ≠ 22) (h23 : x.Ab ≠ 23) (hkk : x.Aa = [k, l]) :
  evE j σ (d + 1) x = if (evE j σ d k).2.isSome = true then (z0, (evE j σ d k).2)
    else if x.Ab = 14 then (if (evE j σ d k).1.At = true then evE j σ d l else ((evE j σ d k).1, none))
    else if x.Ab = 13 then (if (evE j σ d k).1.At = true then ((evE j σ d k).1, none) else evE j σ d l)
    else if (evE j σ d l).2.isSome = true then (z0, (evE j σ d l).2) else smE (opP (Rc.opw x) (evE j σ d k).1 (evE j σ d l).1).1 := by
 rw [evE, qzu h20, qzu h21, qzu h22, qzu h23, hkk]
theorem qsm {w : Jo} {ρ : Env} {env : List B1} (hj : ∃ i, IOK i ∧ w.Ar = inp i) (hT : TyV ρ (sgV env)) (hl : env.length ≤ 100000) : ∀ (d n : Nat) (x : M) (t : Int), Rc.XE ρ d x → tyE d ρ x = .ok t → d + 200000 ≤ n →
  J4 n w x env = some (evE w.Ar (sgV env) d x)
 | 0, n, x, t, hx, _, _ => hx.elim
 | d + 1, 0, x, t, hx, ht, hn => by omega
 | d + 1, n + 1, x, t, hx, ht, hn => by
  obtain ⟨htl, hx⟩ := hx
  rw [J4]
  rcases hx with ⟨hk, _, hkk⟩ | ⟨hk, _, hkk⟩ | ⟨hk, hkk⟩ | ⟨hk, hρ, hkk⟩ | ⟨hk, k, hkk, hxk⟩ | ⟨hk, k, l, hkk, hxk, hxl⟩
  ·rw [qzv (by simpa using hk), evE, qzv hk, qvf]; rfl
  ·rw [qzu (by simp [hk]), qzv (by simpa using hk), evE, qzu (by omega), qzv hk, qw4, qzt, qna]; rfl
  ·rw [qzu (by simp [hk]), qzu (by simp [hk]), qzv (by simpa using hk), evE, qzu (by omega), qzu (by omega), qzv hk]; rfl
  ·rw [qzu (by simp [hk]), qzu (by simp [hk]), qzu (by simp [hk]), qzv (by simpa using hk), evE, qzu (by omega), qzu (by omega), qzu (by omega), qzv hk, qab (by constructor <;> omega), qxl (by omega) env.length n (Nat.le_refl _) (by omega), qzt, List.take_length]
   unfold sgV
   cases q : env.reverse.find? (fun b => decide (b.name = x.Ac)) with
   | some b => rfl
   | none =>
    rw [Rt.el_go, (qt1 hj).1, qzt, qna]; rfl
  ·obtain ⟨t1, ht1, hn1⟩ := qiw hkk ht
   have ih := qsm hj hT hl d n k t1 hxk ht1 (by omega)
   obtain ⟨g1, g2⟩ := qeg hj hT d k t1 hxk ht1
   have eE := qxn (j := w.Ar) (σ := sgV env) (d := d) (x := x) (k := k) (by omega) (by omega) (by omega) (by omega) hkk
   rw [qzu (by rcases hk with ⟨h, _⟩ | h <;> simp [h]), qzu (by rcases hk with ⟨h, _⟩ | h <;> simp [h]), qzu (by rcases hk with ⟨h, _⟩ | h <;> simp [h]), qzu (by rcases hk with ⟨h, _⟩ | h <;> simp [h]),
    hkk, Rc.ix0, qzt, ih, qzt]
   rcases g2 with q | q
   ·rw [qzu (by rw [q]; simp)] at eE
    rw [qzu (by rw [q]; simp)]
    obtain ⟨g3, g4⟩ := g1 q
    by_cases k24 : x.Ab = 24
    ·rw [qzv k24] at eE
     rw [eE, qzv (by simpa using k24), (qql (n := 0) (nm := x.Ac) hj (by omega) g4).1, qzt, qna]; rfl
    ·have k15 : x.Ab = 15 := hk.elim (fun h => absurd h.1 k24) id
     rw [qzu k24] at eE
     rw [eE, qzu (by simpa using k24), qzv (by simpa using k15)]; rfl
   ·rw [qzv (by rw [q]; rfl)] at eE
    rw [eE, qzv (by rw [q]; rfl)]; rfl
  ·obtain ⟨t1, t2, ht1, ht2, hn1⟩ := qix hkk ht
   have ihk := qsm hj hT hl d n k t1 hxk ht1 (by omega)
   have ihl := qsm hj hT hl d n l t2 hxl ht2 (by omega)
   obtain ⟨g1, g2⟩ := qeg hj hT d k t1 hxk ht1
   obtain ⟨g5, g6⟩ := qeg hj hT d l t2 hxl ht2
   have eE := qxo (j := w.Ar) (σ := sgV env) (d := d) (x := x) (k := k) (l := l) (by omega) (by omega) (by omega) (by omega) hkk
   rw [qzu (by simp; omega), qzu (by simp; omega), qzu (by simp; omega), qzu (by simp; omega), hkk, Rc.ix0, qzt, ihk, qzt, Rc.ix1]
   simp only [qzt]
   rw [ihl]
   simp only [qzt]
   rcases g2 with q | q
   ·rw [qzu (by rw [q]; simp)] at eE
    rw [qzu (by rw [q]; simp)]
    obtain ⟨g3, g4⟩ := g1 q
    by_cases k14 : x.Ab = 14
    ·rw [qzv k14] at eE
     rw [eE, qzu (by simp [k14]), qzu (by simp [k14]), qzv (by simpa using k14)]
     cases hz : (evE w.Ar (sgV env) d k).1.At with
     | true => rw [qzu (by simp)]; rfl
     | false => rw [qzv (by simp)]; rfl
    ·by_cases k13 : x.Ab = 13
     ·rw [qzu k14, qzv k13] at eE
      rw [eE, qzu (by simp [k13]), qzu (by simp [k13]), qzu (by simp [k13]), qzv (by simpa using k13)]
      cases hz : (evE w.Ar (sgV env) d k).1.At with
      | true => rw [qzv rfl]; rfl
      | false => rw [qzu (by simp)]; rfl
     ·rw [qzu k14, qzu k13] at eE
      rw [eE, qn0 k13 k14 (by omega) (by omega), qzt, Rt.el_go]
      rcases g6 with q6 | q6
      ·rw [qzu (by rw [q6]; simp), qzu (by rw [q6]; simp)]
       obtain ⟨g7, g8⟩ := g5 q6
       rw [(qqm (op := Rc.opw x) (by omega) g4 g8).1, qzt, qna]; rfl
      ·rw [qzv (by rw [q6]; rfl), qzv (by rw [q6]; rfl)]; rfl
   ·rw [qzv (by rw [q]; rfl)] at eE
    rw [eE, qzv (by rw [q]; rfl)]; rfl
theorem qxp {P : N → M → Prop} {l : List N} {y : M} (h : A2 P l [y]) : ∃ x, l = [x] ∧ P x y := by
 cases h with
 | cons h1 h2 => cases h2 with
  | nil => exact ⟨_, rfl, h1⟩
theorem qqs {P : N → M → Prop} {l : List N} {y z : M} (h : A2 P l [y, z]) : ∃ a b, l = [a, b] ∧ P a y ∧ P b z := by
 cases h with
 | cons h1 h2 => cases h2 with
  | cons h3 h4 => cases h4 with
   | nil => exact ⟨_, _, rfl, h1, h3⟩
theorem qyo {x : N} {y : M} (hk : y.Ab = x.Ab) (ht : y.Ac = x.Ac) : Jd7 x = some (Rc.opw y) := by
 unfold Jd7 Rc.opw
 rw [hk, ht]
 by_cases q17 : x.Ab = 17
 ·rw [qzv (by simpa using q17), qzv q17]
 rw [qzu (by simpa using q17), qzu q17]
 by_cases q18 : x.Ab = 18
 ·rw [qzv (by simpa using q18), qzv q18]
 rw [qzu (by simpa using q18), qzu q18]
 by_cases q19 : x.Ab = 19
 ·rw [qzv (by simpa using q19), qzv q19]
 ·rw [qzu (by simpa using q19), qzu q19]
theorem qsn {i : In2} {ρ : Env} {env : List B1} (hi : IOK i) (hT : TyV ρ (sgV env)) (hl : env.length ≤ 100000) : ∀ (d n : Nat) (x : N) (y : M) (t : Int), Cvd d x y → Rc.XE ρ d y → tyE d ρ y = .ok t → d + 2000000 ≤ n →
  Jco n x (env.map cvB) i = some (cv2 (evE (inp i) (sgV env) d y).1, (evE (inp i) (sgV env) d y).2.getD 0)
 | 0, n, x, y, t, _, hx, _, _ => hx.elim
 | d + 1, 0, x, y, t, hc, hx, ht, hn => by omega
 | d + 1, n + 1, x, y, t, hc, hx, ht, hn => by
  obtain ⟨c1, c2, _, c4⟩ := hc
  obtain ⟨htl, hx⟩ := hx
  have hj : ∃ i', IOK i' ∧ inp i = inp i' := ⟨i, hi, rfl⟩
  rw [Jco, ← c1, ← c2]
  rcases hx with ⟨hk, _, hkk⟩ | ⟨hk, _, hkk⟩ | ⟨hk, hkk⟩ | ⟨hk, hρ, hkk⟩ | ⟨hk, k, hkk, hxk⟩ | ⟨hk, k, l, hkk, hxk, hxl⟩
  ·rw [qzv (by simpa using hk), evE, qzv hk, qw3 (by omega) (by omega)]; rfl
  ·rw [qzu (by simp [hk]), qzv (by simpa using hk), evE, qzu (by omega), qzv hk, qw5, qzt, qnb]; rfl
  ·rw [qzu (by simp [hk]), qzu (by simp [hk]), qzv (by simpa using hk), evE, qzu (by omega), qzu (by omega), qzv hk]; rfl
  ·rw [qzu (by simp [hk]), qzu (by simp [hk]), qzu (by simp [hk]), qzv (by simpa using hk), evE, qzu (by omega), qzu (by omega), qzu (by omega), qzv hk, qab (by rw [List.length_map]; constructor <;> omega)]
   have e1 : ((env.map cvB).length : Int) - 1 = (env.length : Int) - 1 := by rw [List.length_map]
   rw [e1, qxm (by omega) env.length n (Nat.le_refl _) (by omega), qzt, List.take_length, ← c2]
   unfold sgV
   cases q : env.reverse.find? (fun b => decide (b.name = y.Ac)) with
   | some b => rfl
   | none =>
    rw [Rt.el_go, qvo hi, qzt, qnb]; rfl
  ·obtain ⟨t1, ht1, hn1⟩ := qiw hkk ht
   rw [hkk] at c4
   obtain ⟨xk, hxkk, hck⟩ := qxp c4
   have ih := qsn hi hT hl d n xk k t1 hck hxk ht1 (by omega)
   obtain ⟨g1, g2⟩ := qeg hj hT d k t1 hxk ht1
   have eE := qxn (j := inp i) (σ := sgV env) (d := d) (x := y) (k := k) (by omega) (by omega) (by omega) (by omega) hkk
   rw [qzu (by rcases hk with ⟨h, _⟩ | h <;> simp [h]), qzu (by rcases hk with ⟨h, _⟩ | h <;> simp [h]), qzu (by rcases hk with ⟨h, _⟩ | h <;> simp [h]), qzu (by rcases hk with ⟨h, _⟩ | h <;> simp [h]),
    hxkk, Rc.ix0, qzt, ih, qzt]
   rcases g2 with q | q
   ·rw [qzu (by rw [q]; simp)] at eE
    rw [qzu (by rw [q]; simp)]
    obtain ⟨g3, g4⟩ := g1 q
    by_cases k24 : y.Ab = 24
    ·rw [qzv k24] at eE
     have hf : (fnc y.Ac).2 ≠ 0 := hk.elim (fun h => h.2) (fun h => by omega)
     unfold tyN at hn1
     rw [qzu (by omega), qzu (by omega), qzu (by omega), qzu (by omega), qzv k24, qzu hf] at hn1
     have w1 : t1 = (fnc y.Ac).1 := by
      by_cases w : [t1] = [(fnc y.Ac).1]
      ·simpa using w
      ·rw [qzu w] at hn1; cases hn1
     obtain ⟨v2, c3, c5⟩ := qsi (n := n) (nm := y.Ac) (by omega) hi (by omega) g4
     obtain ⟨c6, c7⟩ := qh8 hj g4 hf (by rw [g3, w1])
     rw [c6] at c3 c5
     rw [eE, qzv (by simpa using k24), c3, qzt, c5 rfl, qnb]; rfl
    ·have k15 : y.Ab = 15 := hk.elim (fun h => absurd h.1 k24) id
     rw [qzu k24] at eE
     rw [eE, qzu (by simpa using k24), qzv (by simpa using k15)]; rfl
   ·rw [qzv (by rw [q]; rfl)] at eE
    rw [eE, qzv (by rw [q]; simp), q]; rfl
  ·obtain ⟨t1, t2, ht1, ht2, hn1⟩ := qix hkk ht
   rw [hkk] at c4
   obtain ⟨xk, xl, hxkk, hck, hcl⟩ := qqs c4
   have ihk := qsn hi hT hl d n xk k t1 hck hxk ht1 (by omega)
   have ihl := qsn hi hT hl d n xl l t2 hcl hxl ht2 (by omega)
   obtain ⟨g1, g2⟩ := qeg hj hT d k t1 hxk ht1
   obtain ⟨g5, g6⟩ := qeg hj hT d l t2 hxl ht2
   have eE := qxo (j := inp i) (σ := sgV env) (d := d) (x := y) (k := k) (l := l) (by omega) (by omega) (by omega) (by omega) hkk
   rw [qzu (by simp; omega), qzu (by simp; omega), qzu (by simp; omega), qzu (by simp; omega), hxkk, Rc.ix0, qzt, ihk, qzt, Rc.ix1]
   simp only [qzt]
   rw [ihl]
   simp only [qzt]
   have hIs : (cv2 (evE (inp i) (sgV env) d k).1).Is = (evE (inp i) (sgV env) d k).1.At := rfl
   rcases g2 with q | q
   ·rw [qzu (by rw [q]; simp)] at eE
    rw [qzu (by rw [q]; simp), qzu (by simp; omega), qzu (by simp; omega), hIs]
    obtain ⟨g3, g4⟩ := g1 q
    by_cases k14 : y.Ab = 14
    ·rw [qzv k14] at eE
     rw [eE, qzv (by simpa using k14), qzt, qzv (by simpa using k14)]
     cases hz : (evE (inp i) (sgV env) d k).1.At with
     | true => rw [qzu (by simp [k14])]; rfl
     | false => rw [qzv (by simp [k14])]; rfl
    ·by_cases k13 : y.Ab = 13
     ·rw [qzu k14, qzv k13] at eE
      rw [eE, qzu (by simpa using k14), qzt, qzv (by simpa using k13)]
      cases hz : (evE (inp i) (sgV env) d k).1.At with
      | true => rw [qzv (by simp [k13])]; rfl
      | false => rw [qzu (by simp [k13])]; rfl
     ·rw [qzu k14, qzu k13] at eE
      rw [eE, qzu (by simpa using k14), qzt, qzu (by simpa using k13)]
      rcases g6 with q6 | q6
      ·rw [qzu (by rw [q6]; simp), qzu (by rw [q6]; simp), qyo c1 c2, qzt]
       obtain ⟨g7, g8⟩ := g5 q6
       have w : opr y [t1, t2] ≠ 0 := by
        unfold tyN at hn1
        rw [qzu (by omega), qzu (by omega), qzu (by omega), qzu (by omega), qzu (by omega)] at hn1
        intro w
        rw [qzv w] at hn1; cases hn1
       have hk' : y.Ab = 17 ∨ y.Ab = 18 ∨ y.Ab = 19 ∨ (y.Ab = 16 ∧ cmp y.Ac = true) := by
        rcases hk with q | q | q | q | q | q
        ·exact absurd q k13
        ·exact absurd q k14
        ·exact .inl q
        ·exact .inr (.inl q)
        ·exact .inr (.inr (.inl q))
        ·exact .inr (.inr (.inr q))
       obtain ⟨o1, o2⟩ := qm9 g4 g8 (t := opr y [t1, t2]) (by rw [g3, g7]) w hk'
       obtain ⟨v2, o3, o4⟩ := qvn (op := Rc.opw y) (n := n) (by omega) (by omega) g4 g8
       rw [o1] at o3 o4
       rw [o3, qzt, o4 rfl, qnb]; rfl
      ·rw [qzv (by rw [q6]; simp), qzv (by rw [q6]; rfl), q6]; rfl
   ·rw [qzv (by rw [q]; rfl)] at eE
    rw [eE, qzv (by rw [q]; simp), q]; rfl
abbrev WSt := R1 × Bool
def evL (g : List B1 → WSt → M → List B1 × Err × WSt) : List B1 → WSt → List M → Err × WSt
 | E, s, [] => (none, s)
 | E, s, x :: l => if s.2 = true then (none, s) else match (g E s x).2.1 with
  | some e => (some e, (g E s x).2.2)
  | none => evL g (g E s x).1 (g E s x).2.2 l
noncomputable def hdV (j : In1) (d : Nat) (E : List B1) : List M → V1 × Err
 | [] => (z0, none)
 | k :: _ => evE j (sgV E) d k
def thn (x : M) : List M := match x.Aa with
 | _ :: t :: _ => t.Aa
 | _ => []
def els (x : M) : List M := match x.Aa with
 | _ :: _ :: o :: _ => brn o
 | _ => []
def wdP (x : M) : Str := (Rc.acw x).getD []
noncomputable def evS (j : In1) : Nat → List B1 → WSt → M → List B1 × Err × WSt
 | 0, E, s, x => (E, none, s)
 | d + 1, E, s, x =>
  if (hdV j d E x.Aa).2.isSome = true then (E, (hdV j d E x.Aa).2, s)
  else if x.Ab = 3 then (E ++ [⟨x.Ac, (hdV j d E x.Aa).1⟩], none, s)
  else if x.Ab = 2 then (E, evL (evS j d) E s (if (hdV j d E x.Aa).1.At = true then thn x else els x))
  else (E, (actP s.1 (wdP x) (hdV j d E x.Aa).1).2, (actP s.1 (wdP x) (hdV j d E x.Aa).1).1, decide (x.Ab = 9))
structure StF (d : Nat) (ρ ρ' : Env) (x : M) : Prop where
 tl : x.Ac.length ≤ 3000
 kid : (x.Aa = [] ∧ x.Ab ≠ 2 ∧ x.Ab ≠ 3) ∨ ∃ e ks t, x.Aa = e :: ks ∧ Rc.XE ρ d e ∧ tyE d ρ e = .ok t ∧ (x.Ab = 3 → ρ' = ext ρ x.Ac t)
 same : x.Ab ≠ 3 → ρ' = ρ
 brn2 : x.Ab = 2 → (∃ e t, t.Ab = 12 ∧ (x.Aa = [e, t] ∨ ∃ o, (o.Ab = 12 ∨ o.Ab = 2) ∧ x.Aa = [e, t, o])) ∧ ∀ l, l = thn x ∨ l = els x → (∀ y ∈ l, Gd d y) ∧ l.length ≤ 700 ∧ (∃ ρ1, foldS (stm d) ρ l = .ok ρ1) ∧ Rt.cntL d l + 1 ≤ Rt.cnt (d + 1) x
 word : x.Ab ≠ 2 → x.Ab ≠ 3 → ∃ w k, Rc.acw x = some w ∧ Rc.actK w = some k ∧ w.length ≤ 100000
theorem qqt {d : Nat} {ρ ρ' : Env} {x : M} (hg : Gd (d + 1) x) (hs : stm (d + 1) ρ x = .ok ρ') : StF d ρ ρ' x := by
 obtain ⟨hok, m, hm⟩ := hg
 obtain ⟨h1, h2, h3⟩ := hok
 have hm' := hm
 obtain ⟨m', rfl, hv0, hv2⟩ := qc0 hm'
 have hSF := Rc.stated_form h1 hm
 have word : x.Ab ≠ 2 → x.Ab ≠ 3 → ∃ w k, Rc.acw x = some w ∧ Rc.actK w = some k ∧ w.length ≤ 100000 := fun n2 n3 => by
  obtain ⟨w, e1, e2⟩ := Rc.acs_eff hSF n2 n3
  have e3 := Rc.acs_S h1 ⟨11, 0, w⟩ (by rw [e1]; simp)
  unfold Rc.acs at e1
  cases q : Rc.acw x with
  | none => rw [q] at e1; cases e1
  | some w' =>
   rw [q] at e1
   simp only [List.cons.injEq, and_true] at e1
   have ew : w' = w := by injection e1
   subst ew
   have e4 : (Rc.actK w').map (fun k => (k, (0 : Int))) = some ((x.Aa.length : Int), 0) := e2
   cases hk : Rc.actK w' with
   | none => rw [hk] at e4; cases e4
   | some k => exact ⟨w', k, rfl, hk, e3⟩
 cases hkk : x.Aa with
 | nil =>
  have n2 : x.Ab ≠ 2 := fun q => by
   obtain ⟨e, t, _, hk⟩ := Rc.if_kids q hm
   rcases hk with hk | ⟨o, _, hk⟩ <;> (rw [hkk] at hk; cases hk)
  have n3 : x.Ab ≠ 3 := fun q => by
   unfold Rc.SF at hSF
   rcases hSF with h | ⟨_, h⟩ | ⟨h, _⟩ | ⟨h, _⟩ | ⟨h, _⟩ | ⟨h, _⟩ | ⟨h, _⟩
   ·omega
   ·rw [hkk] at h; cases h
   ·omega
   ·omega
   ·omega
   ·omega
   ·omega
  rw [stm, hkk] at hs
  cases hs
  exact ⟨h1, .inl ⟨hkk, n2, n3⟩, fun _ => rfl, fun q => absurd q n2, word⟩
 | cons e ks =>
  obtain ⟨t, ht, hst⟩ := qu5 hkk hs
  have hE : Rc.XE ρ d e := Rc.XE_of (h3 e (by rw [hkk]; simp)) (hv0 e (by rw [hkk]; rfl)) ht
  refine ⟨h1, .inr ⟨e, ks, t, hkk, hE, ht, fun q3 => ?_⟩, fun n3 => ?_, fun q2 => ?_, word⟩
  ·rcases hst with ⟨_, h⟩ | ⟨q, _⟩ | ⟨q, _⟩
   ·exact h
   ·omega
   ·exact absurd q3 q
  ·rcases hst with ⟨q, _⟩ | ⟨_, h, _⟩ | ⟨_, _, h⟩
   ·exact absurd q n3
   ·exact h
   ·exact h
  ·obtain ⟨l2, hb⟩ := hv2 q2
   obtain ⟨e', t', ht12, hk⟩ := Rc.if_kids q2 hm
   refine ⟨⟨e', t', ht12, hk⟩, ?_⟩
   rcases hst with ⟨q, _⟩ | ⟨_, hρ, hbr⟩ | ⟨_, q, _⟩
   ·omega
   ·have hT := qmt hbr
    have gd : ∀ k ∈ ks, (∀ q ∈ brn k, Gd d q) ∧ (brn k).length ≤ 700 := fun k hk1 => by
     have hk2 : k ∈ x.Aa := by rw [hkk]; simp [hk1]
     obtain ⟨l', e1, e2, e3⟩ := qex (h3 k hk2) ((hb k (by rw [hkk]; simpa using hk1)).imp (fun h => ⟨h.1, fun q hq => ⟨m', h.2 q hq⟩⟩) fun h => ⟨h.1, m', h.2⟩)
     rw [qju] at e1
     cases e1
     exact ⟨e3, e2⟩
    have main : ∀ k ∈ ks, (∀ y ∈ brn k, Gd d y) ∧ (brn k).length ≤ 700 ∧ (∃ ρ1, foldS (stm d) ρ (brn k) = .ok ρ1) ∧ Rt.cntL d (brn k) + 1 ≤ Rt.cnt (d + 1) x := fun k hk1 => by
     obtain ⟨g1, g2⟩ := gd k hk1
     refine ⟨g1, g2, hT k hk1, ?_⟩
     have hc := (Rt.brn_ok (d := d) (k := k) (h3 k (by rw [hkk]; simp [hk1]))).2
     have hm2 := Rt.cnt_mem (d := d) (l := x.Aa) (x := k) (by rw [hkk]; simp [hk1])
     rw [Rt.cnt_eq]; omega
    have nil : (∀ y ∈ ([] : List M), Gd d y) ∧ ([] : List M).length ≤ 700 ∧ (∃ ρ1, foldS (stm d) ρ [] = .ok ρ1) ∧ Rt.cntL d [] + 1 ≤ Rt.cnt (d + 1) x :=
     ⟨(fun y hy => by cases hy), by simp, ⟨ρ, rfl⟩, by rw [Rt.cnt_eq]; simp [Rt.cntL]⟩
    intro l hl
    rcases hk with hk | ⟨o, ho, hk⟩
    ·rw [hkk] at hk
     cases hk
     rcases hl with rfl | rfl
     ·have : thn x = brn t' := by unfold thn; rw [hkk, Rc.brn12 ht12]
      rw [this]; exact main t' (by simp)
     ·have : els x = [] := by unfold els; rw [hkk]
      rw [this]; exact nil
    ·rw [hkk] at hk
     cases hk
     rcases hl with rfl | rfl
     ·have : thn x = brn t' := by unfold thn; rw [hkk, Rc.brn12 ht12]
      rw [this]; exact main t' (by simp)
     ·have : els x = brn o := by unfold els; rw [hkk]
      rw [this]; exact main o (by simp)
   ·exact absurd q2 q
theorem qxq {d : Nat} {x : M} (hg : Gd (d + 1) x) : Rc.SF x := by
 obtain ⟨⟨h1, _, _⟩, m, hm⟩ := hg
 have hm' := hm
 obtain ⟨m', rfl, _, _⟩ := qc0 hm'
 exact Rc.stated_form h1 hm
theorem qso {x : M} {w : Str} (h : Rc.SF x) (n2 : x.Ab ≠ 2) (n3 : x.Ab ≠ 3) (hw : Rc.acw x = some w) : x.Ab = 9 ↔ w = [100, 101, 110, 121] := by
 unfold Rc.acw at hw
 rcases h with q | ⟨q, _⟩ | ⟨q, _, ht⟩ | ⟨q, _⟩ | ⟨q, _⟩ | ⟨q, _⟩ | ⟨q, _⟩
 ·exact absurd q n2
 ·exact absurd q n3
 ·rw [qzv q] at hw
  cases hw
  rcases ht with e | e <;> rw [e, q] <;> decide
 ·rw [qzu (by omega), qzv q] at hw
  cases hw
  rw [q]; simp
 ·rw [qzu (by omega), qzu (by omega), qzv q] at hw
  cases hw
  rw [q]; simp
 ·rcases q with q | q | q
  ·rw [qzu (by omega), qzu (by omega), qzu (by omega), qzv q] at hw
   cases hw; rw [q]; decide
  ·rw [qzu (by omega), qzu (by omega), qzu (by omega), qzu (by omega), qzv q] at hw
   cases hw; rw [q]; decide
  ·rw [qzu (by omega), qzu (by omega), qzu (by omega), qzu (by omega), qzu (by omega), qzv q] at hw
   cases hw; rw [q]; decide
 ·rcases q with q | q
  ·rw [qzu (by omega), qzu (by omega), qzu (by omega), qzu (by omega), qzu (by omega), qzu (by omega), qzv q] at hw
   cases hw; rw [q]; decide
  ·rw [qzu (by omega), qzu (by omega), qzu (by omega), qzu (by omega), qzu (by omega), qzu (by omega), qzu (by omega), qzv q] at hw
   cases hw; rw [q]; decide
theorem qqu (r : R1) (s : Str) (x : V1) : (qnz r s x).1.Ai = r.Ai := by
 unfold qnz
 split
 ·split <;> rfl
 ·split
  ·rfl
  ·split <;> rfl
theorem qvr {r : R1} {w : Str} {x : V1} (h : (actP r w x).2 = none) (h0 : r.Ai = 0) : (actP r w x).1.Ai ≠ 0 ↔ w = [100, 101, 110, 121] := by
 unfold actP at h ⊢
 by_cases q0 : x.kind ≠ qlg w
 ·rw [qzv q0] at h; cases h
 rw [qzu q0]
 by_cases q1 : w = [112, 97, 116, 104]
 ·rw [qzv q1]; simp [h0, q1]
 rw [qzu q1]
 by_cases q2 : w = [113, 117, 101, 114, 121]
 ·rw [qzv q2]; simp [h0, q2]
 rw [qzu q2]
 by_cases q3 : w = [116, 97, 103]
 ·rw [qzv q3]; simp [h0, q3]
 rw [qzu q3]
 by_cases q4 : w = [116, 116, 108]
 ·rw [qzv q4]; simp [h0, q4]
 rw [qzu q4]
 by_cases q5 : w = [100, 101, 110, 121]
 ·rw [qzv q5]
  refine ⟨fun _ => q5, fun _ => ?_⟩
  split
  ·show (403 : Int) ≠ 0; omega
  ·show x.n ≠ 0; omega
 rw [qzu q5]
 refine ⟨fun e => absurd ?_ e, fun e => absurd e q5⟩
 split
 ·exact h0
 split
 ·exact h0
 rw [qqu]; exact h0
structure qt3 (k : Nat) (s : WSt) : Prop where
 r : ROK k s.1
 dn : s.2 = decide (s.1.Ai ≠ 0)
def qy3 (k : Nat) (o : Err × WSt) : Prop := ROK k o.2.1 ∧ o.1 ≠ some 0 ∧ (o.1 = none → o.2.2 = decide (o.2.1.Ai ≠ 0))
def LI (j : In1) (d : Nat) : Prop := ∀ (l : List M) (k : Nat) (ρ ρ' : Env) (E : List B1) (s : WSt), (∀ y ∈ l, Gd d y) → foldS (stm d) ρ l = .ok ρ' → TyV ρ (sgV E) → qt3 k s → qy3 (k + Rt.cntL d l) (evL (evS j d) E s l)
theorem qqv {j : In1} {d : Nat} {ρ ρ' : Env} {E : List B1} {x : M} (hj : ∃ i, IOK i ∧ j = inp i) (hT : TyV ρ (sgV E)) (hF : StF d ρ ρ' x) :
  ((hdV j d E x.Aa).2 = none → VOK 2048 (hdV j d E x.Aa).1) ∧ ((hdV j d E x.Aa).2 = none ∨ (hdV j d E x.Aa).2 = some 5) ∧
  ((hdV j d E x.Aa).2 = none → x.Ab = 3 → TyV ρ' (sgV (E ++ [⟨x.Ac, (hdV j d E x.Aa).1⟩]))) := by
 rcases hF.kid with ⟨hk, _, n3⟩ | ⟨e, ks, t, hk, hE, ht, h3⟩
 ·rw [hk]
  exact ⟨(fun _ => ⟨Nat.zero_le _, (by show (-1099511627776 : Int) ≤ 0; omega), (by show (0 : Int) ≤ 1099511627776; omega)⟩), .inl rfl, fun _ q => absurd q n3⟩
 ·rw [hk]
  obtain ⟨g1, g2⟩ := qeg hj hT d e t hE ht
  refine ⟨fun h => (g1 h).2, g2, fun h q => ?_⟩
  obtain ⟨g3, g4⟩ := g1 h
  rw [h3 q, qsl]
  refine ⟨fun s v hv => ?_, fun s hv => ?_⟩
  ·have hv : (if x.Ac = s then some (hdV j d E (e :: ks)).1 else sgV E s) = some v := hv
   unfold ext
   by_cases w : x.Ac = s
   ·rw [qzv w] at hv ⊢
    cases hv
    exact ⟨g3, g4⟩
   ·rw [qzu w] at hv ⊢
    exact hT.some_ s v hv
  ·have hv : (if x.Ac = s then some (hdV j d E (e :: ks)).1 else sgV E s) = none := hv
   unfold ext
   by_cases w : x.Ac = s
   ·rw [qzv w] at hv; cases hv
   ·rw [qzu w] at hv ⊢
    exact hT.none_ s hv
theorem qlh {j : In1} {d k : Nat} {ρ ρ1 : Env} {E : List B1} {s : WSt} {x : M} (hj : ∃ i, IOK i ∧ j = inp i) (hL : LI j d) (hg : Gd (d + 1) x) (hs : stm (d + 1) ρ x = .ok ρ1) (hT : TyV ρ (sgV E)) (hi : qt3 k s) (he : s.2 = false) :
  ((evS j (d + 1) E s x).2.1 = none → TyV ρ1 (sgV (evS j (d + 1) E s x).1) ∧ qt3 (k + Rt.cnt (d + 1) x) (evS j (d + 1) E s x).2.2) ∧ (evS j (d + 1) E s x).2.1 ≠ some 0 ∧ ROK (k + Rt.cnt (d + 1) x) (evS j (d + 1) E s x).2.2.1 ∧ (evS j (d + 1) E s x).1.length ≤ E.length + 1 := by
 have hF := qqt hg hs
 have hSF := qxq hg
 obtain ⟨v1, v2, v3⟩ := qqv hj hT hF
 have hc : 1 ≤ Rt.cnt (d + 1) x := by rw [Rt.cnt_eq]; omega
 have h0 : s.1.Ai = 0 := by
  have := hi.dn
  rw [he] at this
  by_cases q : s.1.Ai = 0
  ·exact q
  ·rw [decide_eq_true q] at this; cases this
 rw [evS]
 by_cases q : (hdV j d E x.Aa).2.isSome = true
 ·rw [qzv q]
  refine ⟨fun h => ?_, ?_, hi.r.up (by omega), by show E.length ≤ _; omega⟩
  ·simp only at h; rw [h] at q; cases q
  ·rcases v2 with w | w
   ·rw [w] at q; cases q
   ·show (hdV j d E x.Aa).2 ≠ some 0
    rw [w]; decide
 rw [qzu q]
 have qn : (hdV j d E x.Aa).2 = none := by
  cases w : (hdV j d E x.Aa).2 with
  | none => rfl
  | some e => rw [w] at q; exact absurd rfl q
 by_cases q3 : x.Ab = 3
 ·rw [qzv q3]
  exact ⟨fun _ => ⟨v3 qn q3, hi.r.up (by omega), hi.dn⟩, by simp, hi.r.up (by omega), by simp⟩
 rw [qzu q3]
 by_cases q2 : x.Ab = 2
 ·rw [qzv q2]
  obtain ⟨_, hb⟩ := hF.brn2 q2
  have hB : (if (hdV j d E x.Aa).1.At = true then thn x else els x) = thn x ∨ (if (hdV j d E x.Aa).1.At = true then thn x else els x) = els x := by
   split
   ·exact .inl rfl
   ·exact .inr rfl
  generalize (if (hdV j d E x.Aa).1.At = true then thn x else els x) = B at hB
  obtain ⟨g1, g2, ⟨ρ2, g3⟩, g4⟩ := hb B hB
  obtain ⟨l1, l2, l3⟩ := hL B k ρ ρ2 E s g1 g3 hT hi
  exact ⟨fun h => ⟨(by rw [hF.same q3]; exact hT), l1.up (by omega), l3 h⟩, l2, l1.up (by omega), by show E.length ≤ _; omega⟩
 rw [qzu q2]
 obtain ⟨w, t, e1, e2, e3⟩ := hF.word q2 q3
 have ew : wdP x = w := by unfold wdP; rw [e1]; rfl
 rw [ew]
 obtain ⟨a1, a2, _⟩ := qvm (k := k) (s := w) (x := (hdV j d E x.Aa).1) hi.r
 refine ⟨fun h => ⟨(by rw [hF.same q3]; exact hT), a1.up (by omega), ?_⟩, a2, a1.up (by omega), by show E.length ≤ _; omega⟩
 have h1 := qvr h h0
 have h2 := qso hSF q2 q3 e1
 show decide (x.Ab = 9) = decide ((actP s.1 w (hdV j d E x.Aa).1).1.Ai ≠ 0)
 exact decide_eq_decide.2 (h2.trans h1.symm)
theorem qiy {j : In1} (hj : ∃ i, IOK i ∧ j = inp i) : ∀ d, LI j d
 | 0, [], k, ρ, ρ', E, s, _, _, _, hi => ⟨hi.r.up (by omega), by simp [evL], fun _ => hi.dn⟩
 | 0, x :: l, k, ρ, ρ', E, s, hg, _, _, _ => (hg x (by simp)).1.elim
 | d + 1, l, k, ρ, ρ', E, s, hg, hf, hT, hi => by
  have hL := qiy hj d
  induction l generalizing k ρ E s with
  | nil => exact ⟨hi.r.up (by omega), by simp [evL], fun _ => hi.dn⟩
  | cons x l ih =>
   rw [foldS] at hf
   cases hx : stm (d + 1) ρ x with
   | error e => rw [hx] at hf; cases hf
   | ok ρ1 =>
    rw [hx] at hf
    simp only at hf
    rw [evL]
    rw [Rt.cntL_cons]
    by_cases q : s.2 = true
    ·rw [qzv q]
     exact ⟨hi.r.up (by omega), by simp, fun _ => hi.dn⟩
    rw [qzu q]
    obtain ⟨g1, g2, g3, _⟩ := qlh hj hL (hg x (by simp)) hx hT hi (by simpa using q)
    cases w : (evS j (d + 1) E s x).2.1 with
    | some e => exact ⟨g3.up (by omega), (by rw [w] at g2; exact g2), fun h => by cases h⟩
    | none =>
     obtain ⟨g4, g5⟩ := g1 w
     have := ih (k + Rt.cnt (d + 1) x) ρ1 _ _ (fun y hy => hg y (by simp [hy])) hf g4 g5
     rw [Nat.add_assoc] at this
     exact this
theorem qxr {x : M} {w : Str} (h : Rc.acw x = some w) (hl : x.Ac.length ≤ 3000) : JcU x = some w := by
 unfold Rc.acw at h
 unfold JcU
 by_cases q4 : x.Ab = 4
 ·rw [qzv q4] at h
  rw [qzu (by simp [q4]), qzu (by simp [q4]), qzu (by simp [q4]), qzu (by simp [q4]), qzu (by simp [q4]), qzu (by simp [q4]), qzu (by simp [q4])]; exact h
 rw [qzu q4] at h
 by_cases q5 : x.Ab = 5
 ·rw [qzv q5] at h
  rw [qzv (by simpa using q5), qab (by simp [lim]; omega)]; exact h
 rw [qzu q5] at h
 rw [qzu (by simpa using q5)]
 by_cases q6 : x.Ab = 6
 ·rw [qzv q6] at h
  rw [qzv (by simpa using q6), qab (by simp [lim]; omega)]; exact h
 rw [qzu q6] at h
 rw [qzu (by simpa using q6)]
 by_cases q7 : x.Ab = 7
 ·rw [qzv q7] at h
  rw [qzv (by simpa using q7)]; exact h
 rw [qzu q7] at h
 rw [qzu (by simpa using q7)]
 by_cases q8 : x.Ab = 8
 ·rw [qzv q8] at h
  rw [qzv (by simpa using q8)]; exact h
 rw [qzu q8] at h
 rw [qzu (by simpa using q8)]
 by_cases q9 : x.Ab = 9
 ·rw [qzv q9] at h
  rw [qzv (by simpa using q9)]; exact h
 rw [qzu q9] at h
 rw [qzu (by simpa using q9)]
 by_cases q10 : x.Ab = 10
 ·rw [qzv q10] at h
  rw [qzv (by simpa using q10)]; exact h
 rw [qzu q10] at h
 rw [qzu (by simpa using q10)]
 by_cases q11 : x.Ab = 11
 ·rw [qzv q11] at h
  rw [qzv (by simpa using q11)]; exact h
 rw [qzu q11] at h
 cases h
theorem qvs {x e t : M} (ht : t.Ab = 12) (h : x.Aa = [e, t] ∨ ∃ o, (o.Ab = 12 ∨ o.Ab = 2) ∧ x.Aa = [e, t, o]) :
  ix x.Aa 1 = some t ∧ thn x = t.Aa ∧ ((¬ (x.Aa.length : Int) > 2 ∧ els x = []) ∨ ∃ o, (x.Aa.length : Int) = 3 ∧ ix x.Aa 2 = some o ∧ subL x.Aa (2 : Int) (x.Aa.length : Int) = [o] ∧ ((o.Ab = 2 ∧ els x = [o]) ∨ (o.Ab = 12 ∧ els x = o.Aa))) := by
 rcases h with h | ⟨o, ho, h⟩
 ·unfold thn els
  rw [h]
  exact ⟨rfl, rfl, .inl ⟨by simp, rfl⟩⟩
 ·unfold thn els
  rw [h]
  refine ⟨rfl, rfl, .inr ⟨o, rfl, rfl, rfl, ?_⟩⟩
  rcases ho with ho | ho
  ·exact .inr ⟨ho, Rc.brn12 ho⟩
  ·refine .inl ⟨ho, ?_⟩
   show brn o = [o]
   unfold brn
   rw [qzu (by omega)]
abbrev W (j : In1) (s : WSt) : Jo := ⟨j, s.1, s.2⟩
def WL (j : In1) (d n : Nat) : Prop := ∀ (l : List M) (k : Nat) (ρ ρ' : Env) (E : List B1) (s : WSt), (∀ y ∈ l, Gd d y) → l.length ≤ 700 → foldS (stm d) ρ l = .ok ρ' → TyV ρ (sgV E) → E.length + l.length + 700 * d ≤ 90000 → qt3 k s → k + Rt.cntL d l ≤ 900 →
 JE n (W j s) l E = some ((evL (evS j d) E s l).1, W j (evL (evS j d) E s l).2)
set_option maxRecDepth 100000 in
theorem wL0 {j : In1} {d n : Nat} (hj : ∃ i, IOK i ∧ j = inp i) (hn : d + 200000 ≤ n) (hw : WL j d n) (s0 : WSt) : ∀ (l : List M) (i k : Nat) (ρ ρ' : Env) (E : List B1) (s : WSt), (∀ y ∈ l, Gd (d + 1) y) → foldS (stm (d + 1)) ρ l = .ok ρ' → TyV ρ (sgV E) → E.length + l.length + 700 * (d + 1) ≤ 90000 → qt3 k s → k + Rt.cntL (d + 1) l ≤ 900 →
  ∃ r, JU (W j s0) n (JE n) l i E (W j s) = some r ∧ (r = Fl.ret ((evL (evS j (d + 1)) E s l).1, W j (evL (evS j (d + 1)) E s l).2) ∨ ∃ E', r = Fl.go (E', W j (evL (evS j (d + 1)) E s l).2) ∧ (evL (evS j (d + 1)) E s l).1 = none)
 | [], i, k, ρ, ρ', E, s, _, _, _, _, _, _ => ⟨_, rfl, .inr ⟨E, rfl, rfl⟩⟩
 | x :: l, i, k, ρ, ρ', E, s, hg, hf, hT, hl, hi, hc => by
  rw [JU]
  dsimp only [W]
  by_cases he : s.2 = true
  ·rw [qzv he]
   exact ⟨_, rfl, .inl (by rw [evL, qzv he])⟩
  rw [qzu he]
  have hef : s.2 = false := by simpa using he
  rw [foldS] at hf
  cases hx : stm (d + 1) ρ x with
  | error e => rw [hx] at hf; cases hf
  | ok ρ1 =>
   rw [hx] at hf
   simp only at hf
   have hF := qqt (hg x (by simp)) hx
   obtain ⟨v1, v2, v3⟩ := qqv hj hT hF
   obtain ⟨i1, i2, i3, i4⟩ := qlh hj (qiy hj d) (hg x (by simp)) hx hT hi hef
   rw [Rt.cntL_cons] at hc
   simp only [List.length_cons] at hl
   have hd0 : (if decide ((x.Aa.length : Int) > 0) = true then (ix x.Aa 0).bind fun x32 => (J4 n (⟨j, s.1, s.2⟩ : Jo) x32 E).bind fun x35 => if x35.2.isSome = true then some (Fl.ret (x35.2, (⟨j, s.1, s.2⟩ : Jo))) else some (Fl.go (x35.1.kind, x35.1.n, x35.1.s, x35.1.At)) else some (Fl.go (0, 0, ([] : Str), false)) : Option (Fl (Err × Jo) (Int × Int × Str × Bool)))
     = some (if (hdV j d E x.Aa).2.isSome = true then Fl.ret ((hdV j d E x.Aa).2, (⟨j, s.1, s.2⟩ : Jo)) else Fl.go ((hdV j d E x.Aa).1.kind, (hdV j d E x.Aa).1.n, (hdV j d E x.Aa).1.s, (hdV j d E x.Aa).1.At)) := by
    rcases hF.kid with ⟨hk, _, _⟩ | ⟨e, ks, t, hk, hE, ht, _⟩
    ·rw [hk]; rfl
    ·rw [hk, qzv (by simp only [List.length_cons, decide_eq_true_eq]; omega), Rc.ix0, qzt, qsm (w := ⟨j, s.1, s.2⟩) hj hT (by omega) d n e t hE ht (by omega), qzt]
     show (if (evE j (sgV E) d e).2.isSome = true then _ else _) = some (if (evE j (sgV E) d e).2.isSome = true then _ else _)
     split <;> rfl
   rw [hd0, qzt]
   have fin : ∀ (E1 : List B1) (o : Err) (s1 : WSt), evS j (d + 1) E s x = (E1, o, s1) → ∃ r, (if o.isSome = true then some (Fl.ret (o, (⟨j, s1.1, s1.2⟩ : Jo))) else JU (W j s0) n (JE n) l (i + 1) E1 (⟨j, s1.1, s1.2⟩ : Jo)) = some r ∧
     (r = Fl.ret ((evL (evS j (d + 1)) E s (x :: l)).1, W j (evL (evS j (d + 1)) E s (x :: l)).2) ∨ ∃ E', r = Fl.go (E', W j (evL (evS j (d + 1)) E s (x :: l)).2) ∧ (evL (evS j (d + 1)) E s (x :: l)).1 = none) := by
    intro E1 o s1 hS
    rw [hS] at i1 i2 i3 i4
    cases o with
    | some e => exact ⟨_, qzv rfl, .inl (by rw [evL, qzu he, hS])⟩
    | none =>
     obtain ⟨g1, g2⟩ := i1 rfl
     simp only at i4
     have := wL0 hj hn hw s0 l (i + 1) (k + Rt.cnt (d + 1) x) ρ1 ρ' E1 s1 (fun y hy => hg y (by simp [hy])) hf g1 (by omega) g2 (by omega)
     rw [qzu (by simp), evL, qzu he, hS]
     exact this
   by_cases q : (hdV j d E x.Aa).2.isSome = true
   ·rw [qzv q, Rt.el_ret]
    refine ⟨_, rfl, .inl ?_⟩
    obtain ⟨e, hq⟩ := Option.isSome_iff_exists.1 q
    have eS : evS j (d + 1) E s x = (E, some e, s) := by rw [evS, qzv q, hq]
    rw [evL, qzu he, eS, hq]
   rw [qzu q, Rt.el_go]
   dsimp only
   have qn : (hdV j d E x.Aa).2 = none := by
    cases w : (hdV j d E x.Aa).2 with
    | none => rfl
    | some e => rw [w] at q; exact absurd rfl q
   by_cases q3 : x.Ab = 3
   ·rw [qzv (by simpa using q3), qab (by simp only [lim, List.length_singleton]; omega), qzt]
    exact fin _ none s (by rw [evS, qzu q, qzv q3])
   rw [qzu (by simpa using q3)]
   by_cases q2 : x.Ab = 2
   ·rw [qzv (by simpa using q2)]
    obtain ⟨⟨e, t, ht, hk⟩, hb⟩ := hF.brn2 q2
    obtain ⟨j1, j2, j3⟩ := qvs ht hk
    have rec_ : ∀ B, B = thn x ∨ B = els x → JE n (⟨j, s.1, s.2⟩ : Jo) B E = some ((evL (evS j d) E s B).1, W j (evL (evS j d) E s B).2) := fun B hB => by
     obtain ⟨g1, g2, ⟨ρ2, g3⟩, g4⟩ := hb B hB
     exact hw B k ρ ρ2 E s g1 g2 g3 hT (by omega) hi (by omega)
    cases hz : (hdV j d E x.Aa).1.At with
    | true =>
     rw [qzv rfl, j1, qzt, ← j2, rec_ _ (.inl rfl), qzt, qzt]
     exact fin _ _ _ (by rw [evS, qzu q, qzu q3, qzv q2, hz, qzv rfl])
    | false =>
     have eS : evS j (d + 1) E s x = (E, evL (evS j d) E s (els x)) := by rw [evS, qzu q, qzu q3, qzv q2, hz, qzu (by simp)]
     rw [qzu (by simp)]
     rcases j3 with ⟨j4, j5⟩ | ⟨o, j4, j5, j6, j7⟩
     ·rw [qzu (by simpa using j4), qzt, qzu (by simp), qzu (by simpa using j4), qzt]
      rw [j5] at eS
      exact fin _ _ _ eS
     ·have l3 : decide ((x.Aa.length : Int) > 2) = true := by rw [j4]; rfl
      rw [qzv l3, j5, qzt]
      rcases j7 with ⟨j7, j8⟩ | ⟨j7, j8⟩
      ·rw [qzt, qzv (by simpa using j7), qab (by omega), j6, ← j8, rec_ _ (.inr rfl), qzt, qzt]
       exact fin _ _ _ eS
      ·rw [qzt, qzu (by simp [j7]), qzv l3, qzt, ← j8, rec_ _ (.inr rfl), qzt, qzt]
       exact fin _ _ _ eS
   rw [qzu (by simpa using q2)]
   obtain ⟨w, t, e1, e2, e3⟩ := hF.word q2 q3
   have ew : wdP x = w := by unfold wdP; rw [e1]; rfl
   have hcx : 1 ≤ Rt.cnt (d + 1) x := by rw [Rt.cnt_eq]; omega
   obtain ⟨hv1, hv2, hv3⟩ := v1 qn
   rw [qxr e1 hF.tl, qzt, qzr (k := k) (by omega) hi.r e3 (by show (hdV j d E x.Aa).1.s.length ≤ 100000; omega) e2, qzt, qzt]
   exact fin _ _ _ (by rw [evS, qzu q, qzu q3, qzu q2, ew])
set_option maxRecDepth 100000 in
theorem qt4 {j : In1} (hj : ∃ i, IOK i ∧ j = inp i) : ∀ (d n : Nat), d + 200001 ≤ n → WL j d n
 | d, 0, h => by omega
 | 0, n + 1, h => fun l k ρ ρ' E s hg hl hf hT hE hi hc => by
  cases l with
  | nil => rfl
  | cons x l => exact (hg x (by simp)).1.elim
 | d + 1, n + 1, h => fun l k ρ ρ' E s hg hl hf hT hE hi hc => by
  obtain ⟨r, h1, h2⟩ := wL0 hj (by omega) (qt4 hj d n (by omega)) s l 0 k ρ ρ' E s hg hf hT hE hi hc
  rw [JE, qab (by simp only [qax]; omega), h1, qzt]
  rcases h2 with rfl | ⟨E', rfl, h3⟩
  ·rfl
  ·rw [Rt.el_go, h3]
theorem qt5 : ∀ {d : Nat} {x : N} {y : M}, Cvd d x y → Cvd (d + 1) x y
 | d + 1, x, y, ⟨a, b, c, h⟩ => ⟨a, b, c, h.imp_mem fun p _ q hq => qt5 hq⟩
theorem qiz {d : Nat} {x : N} {y : M} (h : Cvd d x y) : A2 (Cvd d) x.Aa y.Aa := by
 cases d with
 | zero => exact h.elim
 | succ d => exact h.2.2.2.imp_mem fun p _ q hq => qt5 hq
theorem qsp {P : N → M → Prop} {l : List N} {y z u : M} (h : A2 P l [y, z, u]) : ∃ a b c, l = [a, b, c] ∧ P a y ∧ P b z ∧ P c u := by
 cases h with
 | cons h1 h2 =>
  obtain ⟨b, c, rfl, h3, h4⟩ := qqs h2
  exact ⟨_, _, _, rfl, h1, h3, h4⟩
theorem qyp {α : Type} {p l : List α} {x : α} : ix (p ++ x :: l) (p.length : Int) = some x := by
 unfold ix
 rw [qzv (by omega)]; simp
theorem qyq {x : N} {y : M} {w : Str} (hk : y.Ab = x.Ab) (ht : y.Ac = x.Ac) (h : Rc.acw y = some w) (hl : y.Ac.length ≤ 3000) : Jdy x = some w := by
 have : Jdy x = JcU y := by unfold Jdy JcU; rw [hk, ht]
 rw [this, qxr h hl]
def zR2 : R2 := ⟨[], [], [], [], [], 0, 0, 0, false, false⟩
def outB (o : Err × WSt) : R2 × Int := match o.1 with
 | some e => (zR2, e)
 | none => (r2 o.2.1, 0)
def BL (i : In2) (d n : Nat) : Prop := ∀ (xs : List N) (l : List M) (k : Nat) (ρ ρ' : Env) (E : List B1) (s : WSt), A2 (Cvd d) xs l → (∀ y ∈ l, Gd d y) → l.length ≤ 700 → foldS (stm d) ρ l = .ok ρ' → TyV ρ (sgV E) → E.length + l.length + 700 * d ≤ 90000 → qt3 k s → k + Rt.cntL d l ≤ 900 →
 Jal n xs (E.map cvB) (r2 s.1) i = some (outB (evL (evS (inp i) d) E s l))
theorem qsq {d : Nat} {x : N} {y e t : M} (c4 : A2 (Cvd d) x.Aa y.Aa) (ht : t.Ab = 12) (h : y.Aa = [e, t] ∨ ∃ o, (o.Ab = 12 ∨ o.Ab = 2) ∧ y.Aa = [e, t, o]) :
  (∃ t', ix x.Aa 1 = some t' ∧ A2 (Cvd d) t'.Aa (thn y)) ∧ ((¬ (x.Aa.length : Int) > 2 ∧ els y = []) ∨ ∃ o', (x.Aa.length : Int) = 3 ∧ ix x.Aa 2 = some o' ∧ subL x.Aa (2 : Int) (x.Aa.length : Int) = [o'] ∧ ((o'.Ab = 2 ∧ A2 (Cvd d) [o'] (els y)) ∨ (o'.Ab = 12 ∧ A2 (Cvd d) o'.Aa (els y)))) := by
 have kd : ∀ {a : N} {b : M}, Cvd d a b → b.Ab = a.Ab := fun {a b} h => by
  cases d with
  | zero => exact h.elim
  | succ d => exact h.1
 rcases h with h | ⟨o, ho, h⟩
 ·rw [h] at c4
  obtain ⟨a, b, e1, _, e3⟩ := qqs c4
  unfold thn els
  rw [h, e1]
  exact ⟨⟨b, rfl, qiz e3⟩, .inl ⟨by simp, rfl⟩⟩
 ·rw [h] at c4
  obtain ⟨a, b, c, e1, _, e3, e4⟩ := qsp c4
  unfold thn els
  rw [h, e1]
  refine ⟨⟨b, rfl, qiz e3⟩, .inr ⟨c, rfl, rfl, rfl, ?_⟩⟩
  rcases ho with ho | ho
  ·refine .inr ⟨(kd e4).symm.trans ho, ?_⟩
   show A2 _ c.Aa (brn o)
   rw [Rc.brn12 ho]; exact qiz e4
  ·refine .inl ⟨(kd e4).symm.trans ho, ?_⟩
   show A2 _ [c] (brn o)
   rw [Rc.brn2 ho]; exact .cons e4 .nil
set_option maxRecDepth 100000 in
theorem bL0 {i : In2} {d n : Nat} (hI : IOK i) (hn : d + 2000000 ≤ n) (hb : BL i d n) : ∀ (xs : List N) (l : List M) (ps : List N) (f k : Nat) (ρ ρ' : Env) (E : List B1) (s : WSt), A2 (Cvd (d + 1)) xs l → (∀ y ∈ l, Gd (d + 1) y) → l.length < f → ps.length + l.length ≤ 100000 → foldS (stm (d + 1)) ρ l = .ok ρ' → TyV ρ (sgV E) → E.length + l.length + 700 * (d + 1) ≤ 90000 → qt3 k s → k + Rt.cntL (d + 1) l ≤ 900 →
  ∃ r, Jax (ps ++ xs) n i (Jal n) f (E.map cvB) (ps.length : Int) (r2 s.1).Ae (r2 s.1).Af (r2 s.1).Ag (r2 s.1).Vary (r2 s.1).Ah (r2 s.1).TTL (r2 s.1).Ai (r2 s.1).Aj (r2 s.1).Ak (r2 s.1).Al = some r ∧
   ((∃ e, (evL (evS (inp i) (d + 1)) E s l).1 = some e ∧ r = Fl.ret (zR2, e)) ∨ ((evL (evS (inp i) (d + 1)) E s l).1 = none ∧ ∃ (E' : List Jz) (q : Int) (z : R2), z = r2 (evL (evS (inp i) (d + 1)) E s l).2.1 ∧ r = Fl.go (E', q, z.Ae, z.Af, z.Ag, z.Vary, z.Ah, z.TTL, z.Ai, z.Aj, z.Ak, z.Al)))
 | _, l, ps, 0, k, ρ, ρ', E, s, _, _, hfu, _, _, _, _, _, _ => by omega
 | [], [], ps, f + 1, k, ρ, ρ', E, s, hA, hg, hfu, hp, hf, hT, hl, hi, hc => by
  rw [Jax, qzu (by simp)]
  exact ⟨_, rfl, .inr ⟨rfl, _, _, r2 s.1, rfl, rfl⟩⟩
 | [], y :: l, ps, f + 1, k, ρ, ρ', E, s, hA, hg, hfu, hp, hf, hT, hl, hi, hc => by cases hA
 | x :: xs, [], ps, f + 1, k, ρ, ρ', E, s, hA, hg, hfu, hp, hf, hT, hl, hi, hc => by cases hA
 | x :: xs, y :: l, ps, f + 1, k, ρ, ρ', E, s, hA, hg, hfu, hp, hf, hT, hl, hi, hc => by
  have hcv : Cvd (d + 1) x y ∧ A2 (Cvd (d + 1)) xs l := by
   cases hA with
   | cons h1 h2 => exact ⟨h1, h2⟩
  obtain ⟨hcx, hA'⟩ := hcv
  obtain ⟨c1, c2, _, c4⟩ := hcx
  have hj : ∃ i', IOK i' ∧ inp i = inp i' := ⟨i, hI, rfl⟩
  rw [Jax]
  by_cases he : s.2 = true
  ·have hdn : s.1.Ai ≠ 0 := by
    have := hi.dn
    rw [he] at this
    exact of_decide_eq_true this.symm
   rw [qzu (show ¬ (decide ((ps.length : Int) < ((ps ++ x :: xs).length : Int)) && decide ((r2 s.1).Ai = 0)) = true by
    rw [Bool.and_eq_true]; intro h; exact hdn (of_decide_eq_true h.2))]
   exact ⟨_, rfl, .inr ⟨by rw [evL, qzv he], _, _, r2 s.1, by rw [evL, qzv he], rfl⟩⟩
  have hef : s.2 = false := by simpa using he
  have hd0 : s.1.Ai = 0 := by
   have := hi.dn
   rw [hef] at this
   by_cases q : s.1.Ai = 0
   ·exact q
   ·rw [decide_eq_true q] at this; cases this
  rw [qzv (show (decide ((ps.length : Int) < ((ps ++ x :: xs).length : Int)) && decide ((r2 s.1).Ai = 0)) = true by
    rw [Bool.and_eq_true]; exact ⟨decide_eq_true (by simp only [List.length_append, List.length_cons]; omega), decide_eq_true hd0⟩), qyp, qzt]
  rw [foldS] at hf
  cases hx : stm (d + 1) ρ y with
  | error e => rw [hx] at hf; cases hf
  | ok ρ1 =>
   rw [hx] at hf
   simp only at hf
   have hF := qqt (hg y (by simp)) hx
   have hSF := qxq (hg y (by simp))
   obtain ⟨v1, v2, v3⟩ := qqv hj hT hF
   obtain ⟨i1, i2, i3, i4⟩ := qlh hj (qiy hj d) (hg y (by simp)) hx hT hi hef
   rw [Rt.cntL_cons] at hc
   simp only [List.length_cons] at hl hfu hp
   have h12 : x.Ab ≠ 12 := by
    unfold Rc.SF at hSF
    omega
   have hd1 : (if (decide (x.Ab ≠ 12) && decide ((x.Aa.length : Int) > 0)) = true then (ix x.Aa 0).bind fun x42 => (Jco n x42 (E.map cvB) i).bind fun x46 => some (x46.2, x46.1.As, x46.1.N, x46.1.S, x46.1.Is) else some (0, 0, 0, ([] : Str), false) : Option (Int × Int × Int × Str × Bool))
     = some ((hdV (inp i) d E y.Aa).2.getD 0, (hdV (inp i) d E y.Aa).1.kind, (hdV (inp i) d E y.Aa).1.n, (hdV (inp i) d E y.Aa).1.s, (hdV (inp i) d E y.Aa).1.At) := by
    rcases hF.kid with ⟨hk, _, _⟩ | ⟨e, ks, t, hk, hE, ht, _⟩
    ·rw [hk] at c4 ⊢
     have : x.Aa = [] := by
      generalize x.Aa = q at c4
      cases c4; rfl
     rw [this, qzu (by simp)]; rfl
    ·rw [hk] at c4 ⊢
     obtain ⟨xe, xk, hxk, hce⟩ : ∃ xe xk, x.Aa = xe :: xk ∧ Cvd d xe e := by
      generalize x.Aa = q at c4
      cases c4 with
      | cons h1 h2 => exact ⟨_, _, rfl, h1⟩
     rw [hxk, qzv (by simp only [List.length_cons, Bool.and_eq_true, decide_eq_true_eq]; exact ⟨h12, by omega⟩), Rc.ix0, qzt, qsn hI hT (by omega) d n xe e t hce hE ht (by omega)]; rfl
   rw [hd1, qzt]
   dsimp only
   have fin : ∀ (E1 : List B1) (s1 : WSt), evS (inp i) (d + 1) E s y = (E1, none, s1) → ∃ r, ((chk (InI ((ps.length : Int) + 1))).bind fun _ => Jax (ps ++ x :: xs) n i (Jal n) f (E1.map cvB) ((ps.length : Int) + 1) (r2 s1.1).Ae (r2 s1.1).Af (r2 s1.1).Ag (r2 s1.1).Vary (r2 s1.1).Ah (r2 s1.1).TTL (r2 s1.1).Ai (r2 s1.1).Aj (r2 s1.1).Ak (r2 s1.1).Al) = some r ∧
     ((∃ e, (evL (evS (inp i) (d + 1)) E s (y :: l)).1 = some e ∧ r = Fl.ret (zR2, e)) ∨ ((evL (evS (inp i) (d + 1)) E s (y :: l)).1 = none ∧ ∃ (E' : List Jz) (q : Int) (z : R2), z = r2 (evL (evS (inp i) (d + 1)) E s (y :: l)).2.1 ∧ r = Fl.go (E', q, z.Ae, z.Af, z.Ag, z.Vary, z.Ah, z.TTL, z.Ai, z.Aj, z.Ak, z.Al))) := by
    intro E1 s1 hS
    rw [hS] at i1 i2 i3 i4
    obtain ⟨g1, g2⟩ := i1 rfl
    simp only at i4
    have := bL0 hI hn hb xs l (ps ++ [x]) f (k + Rt.cnt (d + 1) y) ρ1 ρ' E1 s1 hA' (fun z hz => hg z (by simp [hz])) (by omega) (by rw [List.length_append, List.length_singleton]; omega) hf g1 (by omega) g2 (by omega)
    rw [List.append_assoc, List.singleton_append, List.length_append, List.length_singleton, Int.natCast_add] at this
    rw [qab (by constructor <;> omega), evL, qzu he, hS]
    exact this
   have finE : ∀ (E1 : List B1) (e : Int) (s1 : WSt), evS (inp i) (d + 1) E s y = (E1, some e, s1) → (evL (evS (inp i) (d + 1)) E s (y :: l)).1 = some e ∧ e ≠ 0 := fun E1 e s1 hS => by
    rw [hS] at i2
    refine ⟨by rw [evL, qzu he, hS], fun h => i2 (by rw [h])⟩
   by_cases q : (hdV (inp i) d E y.Aa).2.isSome = true
   ·obtain ⟨e, hq⟩ := Option.isSome_iff_exists.1 q
    obtain ⟨f1, f2⟩ := finE E e s (by rw [evS, qzv q, hq])
    rw [hq]
    have f3 : decide ((some e : Err).getD 0 ≠ 0) = true := decide_eq_true f2
    rw [qzv f3, qzt, Rt.el_ret]
    exact ⟨_, rfl, .inl ⟨e, f1, rfl⟩⟩
   have qn : (hdV (inp i) d E y.Aa).2 = none := by
    cases w : (hdV (inp i) d E y.Aa).2 with
    | none => rfl
    | some e => rw [w] at q; exact absurd rfl q
   rw [qn]
   have f0 : ¬ decide ((none : Err).getD 0 ≠ 0) = true := by decide
   rw [qzu f0]
   by_cases q3 : y.Ab = 3
   ·rw [qzv (show decide (x.Ab = 3) = true from decide_eq_true (by omega)), qab (by simp only [lim, List.length_map]; omega), qab (by simp only [lim, List.length_singleton, List.length_map]; omega), qzt, Rt.el_go]
    dsimp only
    rw [qzu f0, show (E.map cvB ++ [(⟨x.Ac, (⟨(hdV (inp i) d E y.Aa).1.kind, (hdV (inp i) d E y.Aa).1.n, (hdV (inp i) d E y.Aa).1.s, (hdV (inp i) d E y.Aa).1.At⟩ : Jl)⟩ : Jz)]) = (E ++ [(⟨y.Ac, (hdV (inp i) d E y.Aa).1⟩ : B1)]).map cvB by rw [List.map_append, c2]; rfl]
    exact fin _ s (by rw [evS, qzu q, qzv q3])
   rw [qzu (show ¬ decide (x.Ab = 3) = true by rw [decide_eq_true_eq]; omega)]
   by_cases q2 : y.Ab = 2
   ·obtain ⟨⟨e, t, ht, hk⟩, hbr⟩ := hF.brn2 q2
    obtain ⟨⟨t', j1, j2⟩, j3⟩ := qsq c4 ht hk
    have k2 : decide (x.Ab = 2) = true := decide_eq_true (by omega)
    have rec_ : ∀ B xb, B = thn y ∨ B = els y → A2 (Cvd d) xb B → Jal n xb (E.map cvB) (⟨(r2 s.1).Ae, (r2 s.1).Af, (r2 s.1).Ag, (r2 s.1).Vary, (r2 s.1).Ah, (r2 s.1).TTL, (r2 s.1).Ai, (r2 s.1).Aj, (r2 s.1).Ak, (r2 s.1).Al⟩ : Jg) i = some (outB (evL (evS (inp i) d) E s B)) := fun B xb hB hAB => by
     obtain ⟨g1, g2, ⟨ρ2, g3⟩, g4⟩ := hbr B hB
     exact hb xb B k ρ ρ2 E s hAB g1 g2 g3 hT (by omega) hi (by omega)
    have done : ∀ B, evS (inp i) (d + 1) E s y = (E, evL (evS (inp i) d) E s B) → ∃ r, (if decide ((outB (evL (evS (inp i) d) E s B)).2 ≠ 0) = true then some (Fl.ret (zR2, (outB (evL (evS (inp i) d) E s B)).2)) else (chk (InI ((ps.length : Int) + 1))).bind fun _ => Jax (ps ++ x :: xs) n i (Jal n) f (E.map cvB) ((ps.length : Int) + 1) (outB (evL (evS (inp i) d) E s B)).1.Ae (outB (evL (evS (inp i) d) E s B)).1.Af (outB (evL (evS (inp i) d) E s B)).1.Ag (outB (evL (evS (inp i) d) E s B)).1.Vary (outB (evL (evS (inp i) d) E s B)).1.Ah (outB (evL (evS (inp i) d) E s B)).1.TTL (outB (evL (evS (inp i) d) E s B)).1.Ai (outB (evL (evS (inp i) d) E s B)).1.Aj (outB (evL (evS (inp i) d) E s B)).1.Ak (outB (evL (evS (inp i) d) E s B)).1.Al) = some r ∧
      ((∃ e, (evL (evS (inp i) (d + 1)) E s (y :: l)).1 = some e ∧ r = Fl.ret (zR2, e)) ∨ ((evL (evS (inp i) (d + 1)) E s (y :: l)).1 = none ∧ ∃ (E' : List Jz) (q : Int) (z : R2), z = r2 (evL (evS (inp i) (d + 1)) E s (y :: l)).2.1 ∧ r = Fl.go (E', q, z.Ae, z.Af, z.Ag, z.Vary, z.Ah, z.TTL, z.Ai, z.Aj, z.Ak, z.Al))) := by
     intro B hS
     generalize hO : evL (evS (inp i) d) E s B = O at hS
     obtain ⟨o, s1⟩ := O
     cases o with
     | some e =>
      obtain ⟨f1, f2⟩ := finE _ _ _ hS
      exact ⟨_, qzv (decide_eq_true f2), .inl ⟨e, f1, rfl⟩⟩
     | none =>
      rw [qzu (by show ¬ decide ((0 : Int) ≠ 0) = true; decide)]
      exact fin E s1 hS
    cases hz : (hdV (inp i) d E y.Aa).1.At with
    | true =>
     rw [qzv (by rw [k2]; rfl), j1, qzt, rec_ _ _ (.inl rfl) j2, qzt, qzt, Rt.el_go]
     exact done (thn y) (by rw [evS, qzu q, qzu q3, qzv q2, hz, qzv rfl])
    | false =>
     have eS : evS (inp i) (d + 1) E s y = (E, evL (evS (inp i) d) E s (els y)) := by rw [evS, qzu q, qzu q3, qzv q2, hz, qzu (by simp)]
     rw [qzu (by simp)]
     rcases j3 with ⟨j4, j5⟩ | ⟨o, j4, j5, j6, j7⟩
     ·have l3 : ¬ (decide (x.Ab = 2) && decide ((x.Aa.length : Int) > 2)) = true := by rw [Bool.and_eq_true]; intro h; exact j4 (of_decide_eq_true h.2)
      rw [qzu l3, qzt, qzu (by simp), qzu l3, qzu (by rw [decide_eq_true_eq]; omega), qzt, Rt.el_go]
      rw [j5] at eS
      dsimp only
      rw [qzu f0]
      exact fin E s eS
     ·have l3 : (decide (x.Ab = 2) && decide ((x.Aa.length : Int) > 2)) = true := by rw [k2, j4]; rfl
      rw [qzv l3, j5, qzt]
      rcases j7 with ⟨j7, j8⟩ | ⟨j7, j8⟩
      ·rw [qzt, qzu (by simp [j7]), qzv l3, qab (by omega), j6, rec_ _ _ (.inr rfl) j8, qzt, qzt, Rt.el_go]
       exact done (els y) eS
      ·rw [qzt, qzv (by simpa using j7), qzt, rec_ _ _ (.inr rfl) j8, qzt, qzt, Rt.el_go]
       exact done (els y) eS
   have n2 : ¬ decide (x.Ab = 2) = true := by rw [decide_eq_true_eq]; omega
   have n2' : decide (x.Ab = 2) = false := by simpa using n2
   obtain ⟨w, t, e1, e2, e3⟩ := hF.word q2 q3
   have ew : wdP y = w := by unfold wdP; rw [e1]; rfl
   have hcy : 1 ≤ Rt.cnt (d + 1) y := by rw [Rt.cnt_eq]; omega
   obtain ⟨hv1, hv2, hv3⟩ := v1 qn
   have hDo : Jef n (⟨(r2 s.1).Ae, (r2 s.1).Af, (r2 s.1).Ag, (r2 s.1).Vary, (r2 s.1).Ah, (r2 s.1).TTL, (r2 s.1).Ai, (r2 s.1).Aj, (r2 s.1).Ak, (r2 s.1).Al⟩ : Jg) w (⟨(hdV (inp i) d E y.Aa).1.kind, (hdV (inp i) d E y.Aa).1.n, (hdV (inp i) d E y.Aa).1.s, (hdV (inp i) d E y.Aa).1.At⟩ : Jl) = some (r2 (actP s.1 w (hdV (inp i) d E y.Aa).1).1, ((actP s.1 w (hdV (inp i) d E y.Aa).1).2).getD 0) := qzs (k := k) (by omega) (by omega) hi.r e3 (by omega) e2
   have hS : evS (inp i) (d + 1) E s y = (E, (actP s.1 w (hdV (inp i) d E y.Aa).1).2, ((actP s.1 w (hdV (inp i) d E y.Aa).1).1, decide (y.Ab = 9))) := by rw [evS, qzu q, qzu q3, qzu q2, ew]
   rw [qzu (by rw [n2']; simp), qzu (by rw [n2']; simp), qzt, qzu (by simp), qzu (by rw [n2']; simp), qzv (by rw [decide_eq_true_eq]; omega), qyq c1 c2 e1 hF.tl, qzt, hDo, qzt, qzt, Rt.el_go]
   dsimp only
   generalize actP s.1 w (hdV (inp i) d E y.Aa).1 = O at hS
   obtain ⟨r', o⟩ := O
   cases o with
   | some e =>
    obtain ⟨f1, f2⟩ := finE _ _ _ hS
    exact ⟨_, qzv (decide_eq_true f2), .inl ⟨e, f1, rfl⟩⟩
   | none =>
    rw [qzu f0]
    dsimp only at hS ⊢
    exact fin E (r', decide (y.Ab = 9)) hS
theorem qqw {i : In2} {n : Nat} {E : List Jz} {r : R2} : Jal (n + 2) [] E r i = some (r, 0) := by
 rw [Jal, Jax, qzu (by simp)]; rfl
theorem qsr {i : In2} {n : Nat} {xs : List N} {E : List Jz} {s : R2} {o : Fl (R2 × Int) (List Jz × Int × Str × Str × List Jc × List Str × List Str × Int × Int × Int × Bool × Bool)}
  (h : Jax xs n i (Jal n) n E 0 s.Ae s.Af s.Ag s.Vary s.Ah s.TTL s.Ai s.Aj s.Ak s.Al = some o) :
  Jal (n + 1) xs E s i = o.el some fun t0 => some ((⟨t0.2.2.1, t0.2.2.2.1, t0.2.2.2.2.1, t0.2.2.2.2.2.1, t0.2.2.2.2.2.2.1, t0.2.2.2.2.2.2.2.1, t0.2.2.2.2.2.2.2.2.1, t0.2.2.2.2.2.2.2.2.2.1, t0.2.2.2.2.2.2.2.2.2.2.1, t0.2.2.2.2.2.2.2.2.2.2.2⟩ : R2), 0) := by
 rw [Jal, h]; rfl
set_option maxRecDepth 100000 in
theorem qxs {i : In2} (hI : IOK i) : ∀ (d n : Nat), 2000001 + d ≤ n → BL i d n := by
 intro d
 induction d with
 | zero =>
  intro n h xs l k ρ ρ' E s hA hg hl hf hT hE hi hc
  cases hA with
  | nil =>
   have e : n = (n - 2) + 2 := by omega
   rw [e, qqw]; rfl
  | cons h1 h2 => exact h1.elim
 | succ d ih =>
  intro n h xs l k ρ ρ' E s hA hg hl hf hT hE hi hc
  obtain ⟨m, rfl⟩ : ∃ m, n = m + 1 := ⟨n - 1, by omega⟩
  have m1 : d + 2000000 ≤ m := by omega
  have m2 : 2000001 + d ≤ m := by omega
  have m3a : 700 < m := by omega
  have m3 : l.length < m := Nat.lt_of_le_of_lt hl m3a
  have m4 : ([] : List N).length + l.length ≤ 100000 := by rw [List.length_nil]; omega
  obtain ⟨r, h1, h2⟩ := bL0 hI m1 (ih m m2) xs l [] m k ρ ρ' E s hA hg m3 m4 hf hT hE hi hc
  rw [qsr (xs := xs) h1]
  unfold outB
  rcases h2 with ⟨e, f1, rfl⟩ | ⟨f1, E', q, z, hz, rfl⟩
  ·rw [f1]; rfl
  ·rw [f1, ← hz]; rfl
end Rt.Rv
