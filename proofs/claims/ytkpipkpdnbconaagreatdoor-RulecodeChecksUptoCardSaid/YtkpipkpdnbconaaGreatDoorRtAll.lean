import Derived.Test.YtkpipkpdnbconaaGreatDoorR
import Derived.Test.YtkpipkpdnbconaaGreatDoorPlain
set_option linter.unusedVariables false
set_option linter.unusedSimpArgs false
open Go Go.SL Go.Proofs Pl
namespace Rt
theorem el_go {ρ σ γ : Type} {y : σ} {f : ρ → Option γ} {g : σ → Option γ} : (Fl.go y : Fl ρ σ).el f g = g y := rfl
theorem el_ret {ρ σ γ : Type} {y : ρ} {f : ρ → Option γ} {g : σ → Option γ} : (Fl.ret y : Fl ρ σ).el f g = f y := rfl
theorem ite_ex {α : Type} {b : Bool} {x y : Option α} (h1 : b = true → ∃ r, x = some r) (h2 : b = false → ∃ r, y = some r) : ∃ r, (if b = true then x else y) = some r := by
 cases b with
 | true => exact h1 rfl
 | false => exact h2 rfl
theorem prefix_ok (s p : Str) : Jae s p = some (decide ((s.length : Int) ≥ (p.length : Int)) && decide (subL s (0 : Int) (p.length : Int) = p)) := by
 unfold Jae JG
 by_cases h : (s.length : Int) ≥ (p.length : Int)
 ·rw [if_pos (by simpa using h), chk_bind (by omega)]; simp [h]
 ·rw [if_neg (by simpa using h)]
  have : ¬ p.length ≤ s.length := by omega
  simp [this]
end Rt
set_option linter.unusedVariables false
set_option linter.unusedSimpArgs false
open Go Go.SL Go.Proofs Pl
namespace Rt
abbrev M := Ja
abbrev N := Jm
def Ok : Nat → M → Prop
 | 0, _ => False
 | d + 1, x => x.Text.length ≤ 3000 ∧ x.Kids.length ≤ 700 ∧ ∀ k ∈ x.Kids, Ok d k
end Rt
set_option linter.unusedVariables false
set_option linter.unusedSimpArgs false
open Go Go.SL Go.Proofs Pl
namespace Rt
abbrev Ck := Jg
abbrev Bd := Jk
theorem function_ok (s : Str) : ∃ r, JP s = some r := by
 unfold JP
 repeat (refine ite_ex (fun _ => ⟨_, rfl⟩) fun _ => ?_)
 exact ⟨_, rfl⟩
end Rt
set_option linter.unusedVariables false
set_option linter.unusedSimpArgs false
open Go Go.SL Go.Proofs Pl
namespace Rt
end Rt
set_option linter.unusedVariables false
set_option linter.unusedSimpArgs false
open Go Go.SL Go.Proofs Pl
namespace Rt
inductive A2 {α β : Type} (P : α → β → Prop) : List α → List β → Prop
 | nil : A2 P [] []
 | cons {a : α} {b : β} {l : List α} {k : List β} : P a b → A2 P l k → A2 P (a :: l) (b :: k)
theorem A2.len {α β : Type} {P : α → β → Prop} {l : List α} {k : List β} (h : A2 P l k) : k.length = l.length := by
 induction h with
 | nil => rfl
 | cons _ _ ih => simp [ih]
theorem A2.mem {α β : Type} {P : α → β → Prop} {l : List α} {k : List β} (h : A2 P l k) : ∀ b ∈ k, ∃ a ∈ l, P a b := by
 induction h with
 | nil => intro b hb; cases hb
 | cons hp _ ih =>
  intro b hb
  rcases List.mem_cons.1 hb with rfl | hb
  ·exact ⟨_, by simp, hp⟩
  ·obtain ⟨a, ha, q⟩ := ih b hb; exact ⟨a, by simp [ha], q⟩
def OkN : Nat → N → Prop
 | 0, _ => False
 | d + 1, x => x.Text.length ≤ 3000 ∧ x.Kids.length ≤ 700 ∧ ∀ k ∈ x.Kids, OkN d k
def Cvd : Nat → N → M → Prop
 | 0, _, _ => False
 | d + 1, x, y => y.Kind = x.Kind ∧ y.Text = x.Text ∧ y.Line = x.Line ∧ A2 (Cvd d) x.Kids y.Kids
def Mvd (b : Int) : Nat → N → N → Prop
 | 0, _, _ => False
 | d + 1, x, y => y.Kind = x.Kind ∧ y.Text = x.Text ∧ y.Line = IntKind.i64.wrap (x.Line + b) ∧ A2 (Mvd b d) x.Kids y.Kids
theorem Cvd.ok : ∀ {d : Nat} {x : N} {y : M}, OkN d x → Cvd d x y → Ok d y
 | d + 1, x, y, h, hc => by
  obtain ⟨h1, h2, h3⟩ := h
  obtain ⟨c1, c2, c3, c4⟩ := hc
  refine ⟨by rw [c2]; exact h1, by rw [c4.len]; exact h2, fun k hk => ?_⟩
  obtain ⟨a, ha, q⟩ := c4.mem k hk
  exact Cvd.ok (h3 a ha) q
theorem Mvd.ok {b : Int} : ∀ {d : Nat} {x y : N}, OkN d x → Mvd b d x y → OkN d y
 | d + 1, x, y, h, hc => by
  obtain ⟨h1, h2, h3⟩ := h
  obtain ⟨c1, c2, c3, c4⟩ := hc
  refine ⟨by rw [c2]; exact h1, by rw [c4.len]; exact h2, fun k hk => ?_⟩
  obtain ⟨a, ha, q⟩ := c4.mem k hk
  exact Mvd.ok (h3 a ha) q
end Rt
set_option linter.unusedVariables false
set_option linter.unusedSimpArgs false
open Go Go.SL Go.Proofs Pl
namespace Rt
def pre (s : Str) : Bool := ((decide (s = ([109, 101, 116, 104, 111, 100] : Str)) || decide (s = ([104, 111, 115, 116] : Str))) || decide (s = ([112, 97, 116, 104] : Str))) || decide (s = ([113, 117, 101, 114, 121] : Str))
def lk (s : Str) (env : List Bd) : Int := match env.reverse.find? (fun b => decide (b.Name = s)) with
 | some b => b.TypeZ
 | none => if pre s then 1 else 0
theorem lk_snoc (s : Str) (env : List Bd) (b : Bd) : lk s (env ++ [b]) = if b.Name = s then b.TypeZ else lk s env := by
 unfold lk
 rw [List.reverse_append]
 simp only [List.reverse_cons, List.reverse_nil, List.nil_append, List.cons_append, List.find?_cons]
 by_cases h : b.Name = s <;> simp [h]
def Ev (e e' : List Bd) : Prop := ∀ s, lk s e ≠ 0 → lk s e' = lk s e
theorem Ev.ext {e : List Bd} {s : Str} {t : Int} (h : lk s e = 0) : Ev e (e ++ [⟨s, t⟩]) := fun q hq => by
 rw [lk_snoc]
 have : s ≠ q := fun e1 => hq (e1 ▸ h)
 rw [if_neg this]
end Rt
set_option linter.unusedVariables false
set_option linter.unusedSimpArgs false
open Go Go.SL Go.Proofs Pl
namespace Rt
end Rt
set_option linter.unusedVariables false
set_option linter.unusedSimpArgs false
open Go Go.SL Go.Proofs Pl
namespace Rt
theorem ixn {α : Type} {s : List α} {i : Nat} (h : i < s.length) : ix s (i : Int) = some s[i] := by
 unfold ix; rw [if_pos (by omega)]; exact List.getElem?_eq_getElem h
end Rt
set_option linter.unusedVariables false
set_option linter.unusedSimpArgs false
open Go Go.SL Go.Proofs Pl
namespace Rt
end Rt
set_option linter.unusedVariables false
set_option linter.unusedSimpArgs false
open Go Go.SL Go.Proofs Pl
namespace Rt
def prt (s : Str) : Bool := s.all fun c => !(decide ((c.toNat : Int) < 32) || decide ((c.toNat : Int) > 126))
theorem prt_cons (c : UInt8) (s : Str) : prt (c :: s) = (!(decide ((c.toNat : Int) < 32) || decide ((c.toNat : Int) > 126)) && prt s) := by simp [prt]
theorem prt_cond (c : UInt8) : (if decide ((c.toNat : Int) < 32) = true then some true else some (decide ((c.toNat : Int) > 126))) = some (decide ((c.toNat : Int) < 32) || decide ((c.toNat : Int) > 126)) := by
 cases decide ((c.toNat : Int) < 32) <;> simp
theorem esc_cond (c : UInt8) : (if decide ((c.toNat : Int) = 34) = true then some true else some (decide ((c.toNat : Int) = 92))) = some (decide ((c.toNat : Int) = 34) || decide ((c.toNat : Int) = 92)) := by
 cases decide ((c.toNat : Int) = 34) <;> simp
theorem quote_L0_eq : ∀ (s : Str) (i : Nat) (y : Str), y.length + 2 * s.length ≤ 1000000 → ∃ r, J3 s i y = some r ∧ (prt s = true → ∃ z, r = Fl.go z ∧ z.length ≤ 1000000) ∧ (prt s = false → r = Fl.ret ([], some 2))
 | [], i, y, h => ⟨_, rfl, fun _ => ⟨_, rfl, by simpa using h⟩, fun h => (by simp [prt] at h)⟩
 | c :: s, i, y, h => by
  simp only [List.length_cons] at h
  rw [J3, prt_cond, Option.bind_some, prt_cons]
  cases q : (decide ((c.toNat : Int) < 32) || decide ((c.toNat : Int) > 126)) with
  | true => exact ⟨_, if_pos rfl, fun h => (by simp at h), fun _ => rfl⟩
  | false =>
   rw [if_neg (by simp), esc_cond, Option.bind_some, Bool.not_false, Bool.true_and]
   cases q2 : (decide ((c.toNat : Int) = 34) || decide ((c.toNat : Int) = 92)) with
   | true =>
    rw [if_pos rfl, chk_bind (by simp only [lim, List.length_cons, List.length_nil]; omega), chk_bind (by simp only [lim, List.length_append, List.length_cons, List.length_nil]; omega)]
    exact quote_L0_eq s (i + 1) _ (by simp only [List.length_append, List.length_cons, List.length_nil]; omega)
   | false =>
    rw [if_neg (by simp), chk_bind (by simp only [lim, List.length_cons, List.length_nil]; omega)]
    exact quote_L0_eq s (i + 1) _ (by simp only [List.length_append, List.length_cons, List.length_nil]; omega)
end Rt
set_option linter.unusedVariables false
set_option linter.unusedSimpArgs false
open Go Go.SL Go.Proofs Pl
namespace Rt
end Rt
set_option linter.unusedVariables false
set_option linter.unusedSimpArgs false
open Go Go.SL Go.Proofs Pl
namespace Rt
def Sm (f : N → Option Bool) (g : M → Option Bool) (x : N) (y : M) : Prop := ∃ b, f x = some b ∧ g y = some b
end Rt
set_option linter.unusedVariables false
set_option linter.unusedSimpArgs false
open Go Go.SL Go.Proofs Pl
namespace Rt
theorem Sm.ix {f : N → Option Bool} {g : M → Option Bool} {l : List N} {k : List M} (h : A2 (Sm f g) l k) {i : Int} (h0 : 0 ≤ i) (h1 : i < (l.length : Int)) : ∃ a b r, ix l i = some a ∧ ix k i = some b ∧ f a = some r ∧ g b = some r := by
 induction h generalizing i with
 | nil => simp at h1; omega
 | cons hp _ ih =>
  rename_i a b l k _
  simp only [List.length_cons] at h1
  by_cases q : i = 0
  ·subst q
   obtain ⟨r, h2, h3⟩ := hp
   exact ⟨a, b, r, rfl, rfl, h2, h3⟩
  ·obtain ⟨a', b', r, e1, e2, e3, e4⟩ := ih (i := i - 1) (by omega) (by omega)
   have st : ∀ {α : Type} (x : α) (t : List α), Go.SL.ix (x :: t) i = Go.SL.ix t (i - 1) := fun x t => by
    unfold Go.SL.ix
    rw [if_pos h0, if_pos (by omega), show i.toNat = (i - 1).toNat + 1 from by omega, List.getElem?_cons_succ]
   exact ⟨a', b', r, by rw [st, e1], by rw [st, e2], e3, e4⟩
theorem A2.ix {α β : Type} {P : α → β → Prop} {l : List α} {k : List β} (h : A2 P l k) {i : Int} (h0 : 0 ≤ i) (h1 : i < (l.length : Int)) : ∃ a b, ix l i = some a ∧ ix k i = some b ∧ P a b ∧ a ∈ l := by
 induction h generalizing i with
 | nil => simp at h1; omega
 | cons hp _ ih =>
  rename_i a b l k _
  simp only [List.length_cons] at h1
  by_cases q : i = 0
  ·subst q
   exact ⟨a, b, rfl, rfl, hp, by simp⟩
  ·obtain ⟨a', b', e1, e2, e3, e4⟩ := ih (i := i - 1) (by omega) (by omega)
   have st : ∀ {α : Type} (x : α) (t : List α), Go.SL.ix (x :: t) i = Go.SL.ix t (i - 1) := fun x t => by
    unfold Go.SL.ix
    rw [if_pos h0, if_pos (by omega), show i.toNat = (i - 1).toNat + 1 from by omega, List.getElem?_cons_succ]
   exact ⟨a', b', by rw [st, e1], by rw [st, e2], e3, by simp [e4]⟩
end Rt
set_option linter.unusedVariables false
set_option linter.unusedSimpArgs false
open Go Go.SL Go.Proofs Pl
namespace Rt
abbrev Env := Str → Int
abbrev Fault := Int × Int
def ext (ρ : Env) (s : Str) (t : Int) : Env := fun q => if s = q then t else ρ q
noncomputable def fnc (s : Str) : Int × Int := (JP s).getD (0, 0)
theorem fnc_eq (s : Str) : JP s = some (fnc s) := by
 obtain ⟨r, hr⟩ := function_ok s
 unfold fnc; rw [hr]; rfl
def fin (a : Int) (r : Except Fault Env) : Ck := match r with
 | .ok _ => ⟨a, none⟩
 | .error e => ⟨e.1, some e.2⟩
end Rt
set_option linter.unusedVariables false
set_option linter.unusedSimpArgs false
open Go Go.SL Go.Proofs Pl
namespace Rt
theorem num_eq (e : Err) : Jci e = some (e.getD 0) := by cases e <;> rfl
end Rt
set_option linter.unusedVariables false
set_option linter.unusedSimpArgs false
open Go Go.SL Go.Proofs Pl
namespace Rt
def Ty (t : Int) : Prop := t = 1 ∨ t = 2 ∨ t = 3
def Rg (ρ : Env) : Prop := ∀ s, ρ s = 0 ∨ Ty (ρ s)
theorem Rg.ext {ρ : Env} (h : Rg ρ) (s : Str) {t : Int} (ht : Ty t) : Rg (ext ρ s t) := fun q => by
 unfold Rt.ext
 split
 ·exact .inr ht
 ·exact h q
def QQ (o : Option Int) : Prop := ∀ t, o = some t → t = 0 ∨ Ty t
theorem QQ.bind {α : Type} {o : Option α} {f : α → Option Int} (h : ∀ a, QQ (f a)) : QQ (o.bind f) := fun t ht => by
 cases o with
 | none => cases ht
 | some a => exact h a t ht
theorem QQ.z : QQ (some 0) := fun t h => by cases h; exact .inl rfl
theorem QQ.t2 : QQ (some 2) := fun t h => by cases h; exact .inr (.inr (.inl rfl))
theorem fnc_cases (s : Str) : J8 s = some ((fnc s).1, (fnc s).2, decide ((fnc s).2 ≠ 0)) ∧ ((fnc s).2 = 0 ∨ Ty (fnc s).2) := by
 have key : ∀ p, JP s = some p → J8 s = some (p.1, p.2, decide (p.2 ≠ 0)) ∧ (p.2 = 0 ∨ Ty p.2) := fun p h => by
  unfold JP at h
  unfold J8
  have st : ∀ {c : Bool} {a b : Int} {A : Option (Int × Int)} {B : Option (Int × Int × Bool)}, Ty b → (if c = true then some (a, b) else A) = some p → (A = some p → B = some (p.1, p.2, decide (p.2 ≠ 0)) ∧ (p.2 = 0 ∨ Ty p.2)) → (if c = true then some (a, b, true) else B) = some (p.1, p.2, decide (p.2 ≠ 0)) ∧ (p.2 = 0 ∨ Ty p.2) := fun {c a b A B} ht h hA => by
   cases c with
   | false => exact hA h
   | true =>
    cases h
    refine ⟨?_, .inr ht⟩
    have : b ≠ 0 := by rcases ht with rfl | rfl | rfl <;> decide
    simp [this]
  refine st (.inl rfl) h fun h => ?_
  refine st (.inl rfl) h fun h => ?_
  refine st (.inl rfl) h fun h => ?_
  refine st (.inr (.inr rfl)) h fun h => ?_
  refine st (.inr (.inl rfl)) h fun h => ?_
  refine st (.inr (.inl rfl)) h fun h => ?_
  refine st (.inl rfl) h fun h => ?_
  refine st (.inl rfl) h fun h => ?_
  cases h
  exact ⟨rfl, .inl rfl⟩
 exact key _ (fnc_eq s)
end Rt
set_option linter.unusedVariables false
set_option linter.unusedSimpArgs false
open Go Go.SL Go.Proofs Pl
namespace Rt
end Rt
set_option linter.unusedVariables false
set_option linter.unusedSimpArgs false
open Go Go.SL Go.Proofs Pl
namespace Rt
def hd0 : List Int → Int
 | [] => 0
 | s :: _ => s
end Rt
set_option linter.unusedVariables false
set_option linter.unusedSimpArgs false
open Go Go.SL Go.Proofs Pl
namespace Rt
end Rt
set_option linter.unusedVariables false
set_option linter.unusedSimpArgs false
open Go Go.SL Go.Proofs Pl
namespace Rt
end Rt
set_option linter.unusedVariables false
set_option linter.unusedSimpArgs false
open Go Go.SL Go.Proofs Pl
namespace Rt.Rc
abbrev I := Jd
abbrev Sg := Str → Option Int
end Rt.Rc
set_option linter.unusedVariables false
set_option linter.unusedSimpArgs false
open Go Go.SL Go.Proofs Pl
namespace Rt.Rc
def upd (σ : Sg) (s : Str) (k : Int) : Sg := fun q => if s = q then some k else σ q
end Rt.Rc
set_option linter.unusedVariables false
set_option linter.unusedSimpArgs false
open Go Go.SL Go.Proofs Pl
namespace Rt.Rc
def isJ (i : I) : Bool := decide (i.Op = 9) || decide (i.Op = 10)
def Bd (b : Nat) (l : List I) : Prop := ∀ i ∈ l, isJ i = true → (b : Int) ≤ i.N ∧ i.N ≤ b + l.length
theorem Bd.nil (b : Nat) : Bd b [] := fun i hi _ => by cases hi
theorem Bd.one {b : Nat} {i : I} (h : isJ i = false) : Bd b [i] := fun j hj hx => by
 rw [List.mem_singleton.1 hj, h] at hx; cases hx
theorem Bd.no {b : Nat} {l : List I} (h : l.all (fun i => !isJ i) = true) : Bd b l := fun i hi hj => by
 have := List.all_eq_true.1 h i hi
 rw [hj] at this; cases this
theorem Bd.jump {b t : Nat} {o : Int} {l : List I} (h : Bd (b + 1) l) (h1 : b ≤ t) (h2 : t ≤ b + 1 + l.length) : Bd b (⟨o, (t : Int), []⟩ :: l) := fun i hi hj => by
 rw [List.length_cons]
 rcases List.mem_cons.1 hi with rfl | hi
 ·simp only; omega
 ·have := h i hi hj; omega
end Rt.Rc
set_option linter.unusedVariables false
set_option linter.unusedSimpArgs false
open Go Go.SL Go.Proofs Pl
namespace Rt.Rc
abbrev I2 := Jo
def cv (i : I) : I2 := ⟨i.Op, i.N, i.S⟩
def InV (vis : List Int) (names : List Str) : Prop := ∀ i ∈ vis, 0 ≤ i ∧ i < names.length
structure Cov (ρ : Env) (σ : Sg) : Prop where
 known : ∀ s, ρ s ≠ 0 → pre s = false → (σ s).isSome = true
 fixed : ∀ s, pre s = true → σ s = none ∧ ρ s ≠ 0
theorem Cov.let {ρ : Env} {σ : Sg} (h : Cov ρ σ) {s : Str} (hs : ρ s = 0) (t k : Int) : Cov (ext ρ s t) (upd σ s k) := by
 have hp : pre s = false := by
  cases q : pre s with
  | false => rfl
  | true => exact absurd hs (h.fixed s q).2
 refine ⟨fun q hq hn => ?_, fun q hq => ?_⟩
 ·unfold upd
  by_cases e : s = q
  ·rw [if_pos e]; rfl
  ·rw [if_neg e]
   refine h.known q ?_ hn
   unfold ext at hq
   rw [if_neg e] at hq
   exact hq
 ·have e : s ≠ q := fun e => by rw [e, hq] at hp; cases hp
  unfold upd ext
  rw [if_neg e, if_neg e]
  exact h.fixed q hq
end Rt.Rc
set_option linter.unusedVariables false
set_option linter.unusedSimpArgs false
open Go Go.SL Go.Proofs Pl
namespace Rt.Rc
theorem InV.more {vis : List Int} {names : List Str} (hv : InV vis names) (more : List Str) : InV vis (names ++ more) := fun i hi => by
 have := hv i hi
 rw [List.length_append]; omega
theorem InV.let {vis : List Int} {names : List Str} (hv : InV vis names) (s : Str) : InV (vis ++ [(names.length : Int)]) (names ++ [s]) := fun i hi => by
 rw [List.length_append, List.length_singleton]
 rcases List.mem_append.1 hi with h | h
 ·have := hv i h; omega
 ·rw [List.mem_singleton.1 h]; omega
end Rt.Rc
set_option linter.unusedVariables false
set_option linter.unusedSimpArgs false
open Go Go.SL Go.Proofs Pl
namespace Rt.Rc
def NL : Nat → M → Prop
 | 0, _ => True
 | d + 1, x => x.Kind ≠ 3 ∧ ∀ k ∈ x.Kids, NL d k
theorem NL.up : ∀ {d : Nat} {x : M}, Ok d x → NL d x → ∀ e, NL e x
 | 0, _, h, _, _ => h.elim
 | d + 1, x, _, _, 0 => trivial
 | d + 1, x, h, hn, e + 1 => ⟨hn.1, fun k hk => (NL.up (h.2.2 k hk) (hn.2 k hk)) e⟩
end Rt.Rc
set_option linter.unusedVariables false
set_option linter.unusedSimpArgs false
open Go Go.SL Go.Proofs Pl
namespace Rt.Rc
abbrev S8 := JD
abbrev PS := Je
def wl (W : S8) : List Int := [W.f0, W.f1, W.f2, W.f3, W.f4, W.f5, W.f6, W.f7]
def W64 (x : Int) : Prop := 0 ≤ x ∧ x < 18446744073709551616
def WOK (W : S8) : Prop := W64 W.f0 ∧ W64 W.f1 ∧ W64 W.f2 ∧ W64 W.f3 ∧ W64 W.f4 ∧ W64 W.f5 ∧ W64 W.f6 ∧ W64 W.f7
def bitW (W : S8) (n : Int) : Bool := ((wl W).getD (n.toNat / 64) 0).toNat.testBit (n.toNat % 64)
theorem ofInt_nat {x : Int} (h : W64 x) : (BitVec.ofInt 64 x).toNat = x.toNat := by
 obtain ⟨h0, h1⟩ := h
 rw [BitVec.toNat_ofInt]
 rw [Int.emod_eq_of_lt h0 (by simpa using h1)]
theorem w64n {n : Nat} (h : n < 18446744073709551616) : W64 (n : Int) := ⟨by omega, by omega⟩
theorem u64and_eq {x y : Int} (hx : W64 x) (hy : W64 y) : u64and x y = ((x.toNat &&& y.toNat : Nat) : Int) := by
 unfold u64and
 rw [BitVec.toNat_and, ofInt_nat hx, ofInt_nat hy]
theorem u64or_eq {x y : Int} (hx : W64 x) (hy : W64 y) : u64or x y = ((x.toNat ||| y.toNat : Nat) : Int) := by
 unfold u64or
 rw [BitVec.toNat_or, ofInt_nat hx, ofInt_nat hy]
theorem u64and_ok {x y : Int} (hx : W64 x) (hy : W64 y) : W64 (u64and x y) := by
 rw [u64and_eq hx hy]
 obtain ⟨h0, h1⟩ := hx
 have : x.toNat &&& y.toNat ≤ x.toNat := Nat.and_le_left
 exact ⟨by omega, by omega⟩
theorem u64or_ok {x y : Int} : W64 (u64or x y) := by
 unfold u64or
 have := (BitVec.ofInt 64 x ||| BitVec.ofInt 64 y).isLt
 exact ⟨by omega, by omega⟩
theorem shl_ok {k : Nat} (h : k < 64) : u64shl 1 (k : Int) = ((2 ^ k : Nat) : Int) := by
 have : ∀ k : Nat, k < 64 → u64shl 1 (k : Int) = ((2 ^ k : Nat) : Int) := by decide
 exact this k h
theorem pow_lt {k : Nat} (h : k < 64) : W64 ((2 ^ k : Nat) : Int) := by
 have : ∀ k : Nat, k < 64 → (2 ^ k : Nat) < 18446744073709551616 := by decide
 exact w64n (this k h)
theorem shr_eq {x : Int} (hx : W64 x) {k : Nat} (h : k < 64) : u64shr x (k : Int) = ((x.toNat >>> k : Nat) : Int) := by
 unfold u64shr
 rw [Int.toNat_natCast, Nat.min_eq_left (by omega), Nat.shiftRight_eq_div_pow]
 obtain ⟨h0, h1⟩ := hx
 have e : x = (x.toNat : Int) := by omega
 have e2 : ((2 : Int) ^ k) = ((2 ^ k : Nat) : Int) := by simp
 rw [e2]
 conv => lhs; rw [e]
 rw [Int.fdiv_eq_ediv_of_nonneg _ (Int.natCast_nonneg _)]
 exact (Int.natCast_ediv _ _).symm
theorem bit_eq {x : Int} (hx : W64 x) {k : Nat} (h : k < 64) : decide (u64and (u64shr x (k : Int)) 1 = 1) = x.toNat.testBit k := by
 have h2 : W64 (u64shr x (k : Int)) := by
  rw [shr_eq hx h]
  obtain ⟨h0, h1⟩ := hx
  have : x.toNat >>> k ≤ x.toNat := by rw [Nat.shiftRight_eq_div_pow]; exact Nat.div_le_self _ _
  refine w64n (Nat.lt_of_le_of_lt this ?_)
  omega
 have e : (u64and (u64shr x (k : Int)) 1 = 1) ↔ (x.toNat >>> k) % 2 = 1 := by
  rw [u64and_eq h2 ⟨by decide, by decide⟩, shr_eq hx h, Int.toNat_natCast, show ((1 : Int)).toNat = 1 from rfl, Nat.and_one_is_mod]
  generalize (x.toNat >>> k) % 2 = q
  omega
 rw [show decide (u64and (u64shr x (k : Int)) 1 = 1) = decide ((x.toNat >>> k) % 2 = 1) from decide_eq_decide.2 e, Nat.testBit, Nat.and_comm, Nat.and_one_is_mod]
 have : (x.toNat >>> k) % 2 < 2 := Nat.mod_lt _ (by omega)
 rcases (show (x.toNat >>> k) % 2 = 0 ∨ (x.toNat >>> k) % 2 = 1 by omega) with e | e <;> simp [e]
theorem wl_ok {W : S8} (h : WOK W) (i : Nat) : W64 ((wl W).getD i 0) := by
 obtain ⟨h0, h1, h2, h3, h4, h5, h6, h7⟩ := h
 have hz : W64 0 := ⟨by decide, by decide⟩
 match i with
 | 0 => exact h0
 | 1 => exact h1
 | 2 => exact h2
 | 3 => exact h3
 | 4 => exact h4
 | 5 => exact h5
 | 6 => exact h6
 | 7 => exact h7
 | i + 8 => simpa [wl] using hz
theorem has_eq {s : PS} {n : Int} (h : WOK s.stored) (h0 : 0 ≤ n) (h1 : n ≤ 511) : Jab s n = some (bitW s.stored n) := by
 obtain ⟨k, rfl⟩ : ∃ k : Nat, n = (k : Int) := ⟨n.toNat, by omega⟩
 have e1 : Int.tdiv (k : Int) 64 = ((k / 64 : Nat) : Int) := by rw [Int.tdiv_eq_ediv_of_nonneg h0]; omega
 have e2 : Int.tmod (k : Int) 64 = ((k % 64 : Nat) : Int) := by rw [Int.tmod_eq_emod_of_nonneg h0]; omega
 have hk : k / 64 < 8 := by omega
 unfold Jab
 rw [e1, e2, chk_bind ⟨by decide, by omega, by omega⟩, chk_bind (by omega), chk_bind (by omega)]
 rw [Int.toNat_natCast]
 have := bit_eq (wl_ok h (k / 64)) (k := k % 64) (by omega)
 unfold bitW
 rw [Int.toNat_natCast, ← this]
 rfl
def andW (A B : S8) : S8 := ⟨u64and A.f0 B.f0, u64and A.f1 B.f1, u64and A.f2 B.f2, u64and A.f3 B.f3, u64and A.f4 B.f4, u64and A.f5 B.f5, u64and A.f6 B.f6, u64and A.f7 B.f7⟩
theorem andW_ok {A B : S8} (hA : WOK A) (hB : WOK B) : WOK (andW A B) := by
 obtain ⟨a0, a1, a2, a3, a4, a5, a6, a7⟩ := hA
 obtain ⟨b0, b1, b2, b3, b4, b5, b6, b7⟩ := hB
 exact ⟨u64and_ok a0 b0, u64and_ok a1 b1, u64and_ok a2 b2, u64and_ok a3 b3, u64and_ok a4 b4, u64and_ok a5 b5, u64and_ok a6 b6, u64and_ok a7 b7⟩
theorem andW_wl {A B : S8} (i : Nat) : (wl (andW A B)).getD i 0 = if i < 8 then u64and ((wl A).getD i 0) ((wl B).getD i 0) else 0 := by
 match i with
 | 0 | 1 | 2 | 3 | 4 | 5 | 6 | 7 => rfl
 | i + 8 => rw [if_neg (by omega)]; simp [wl]
theorem andW_bit {A B : S8} (hA : WOK A) (hB : WOK B) {n : Int} (h0 : 0 ≤ n) (h1 : n ≤ 511) : bitW (andW A B) n = (bitW A n && bitW B n) := by
 unfold bitW
 rw [andW_wl, if_pos (by omega), u64and_eq (wl_ok hA _) (wl_ok hB _), Int.toNat_natCast, Nat.testBit_and]
theorem jstep0 {l : List PS} {k n : Nat} {e t : PS} (h : l[k]? = some e) : Jj k t (n + 1) 0 l = Jj k t n 1 (l.set k ⟨e.reached, e.depth, ⟨u64and e.stored.f0 t.stored.f0, e.stored.f1, e.stored.f2, e.stored.f3, e.stored.f4, e.stored.f5, e.stored.f6, e.stored.f7⟩⟩) := by
 rw [Jj, chk_bind (by decide), h, Option.bind_some, chk_bind (by decide), chk_bind (by decide), Option.bind_some]
 rfl
theorem jstep1 {l : List PS} {k n : Nat} {e t : PS} (h : l[k]? = some e) : Jj k t (n + 1) 1 l = Jj k t n 2 (l.set k ⟨e.reached, e.depth, ⟨e.stored.f0, u64and e.stored.f1 t.stored.f1, e.stored.f2, e.stored.f3, e.stored.f4, e.stored.f5, e.stored.f6, e.stored.f7⟩⟩) := by
 rw [Jj, chk_bind (by decide), h, Option.bind_some, chk_bind (by decide), chk_bind (by decide), Option.bind_some]
 rfl
theorem jstep2 {l : List PS} {k n : Nat} {e t : PS} (h : l[k]? = some e) : Jj k t (n + 1) 2 l = Jj k t n 3 (l.set k ⟨e.reached, e.depth, ⟨e.stored.f0, e.stored.f1, u64and e.stored.f2 t.stored.f2, e.stored.f3, e.stored.f4, e.stored.f5, e.stored.f6, e.stored.f7⟩⟩) := by
 rw [Jj, chk_bind (by decide), h, Option.bind_some, chk_bind (by decide), chk_bind (by decide), Option.bind_some]
 rfl
theorem jstep3 {l : List PS} {k n : Nat} {e t : PS} (h : l[k]? = some e) : Jj k t (n + 1) 3 l = Jj k t n 4 (l.set k ⟨e.reached, e.depth, ⟨e.stored.f0, e.stored.f1, e.stored.f2, u64and e.stored.f3 t.stored.f3, e.stored.f4, e.stored.f5, e.stored.f6, e.stored.f7⟩⟩) := by
 rw [Jj, chk_bind (by decide), h, Option.bind_some, chk_bind (by decide), chk_bind (by decide), Option.bind_some]
 rfl
theorem jstep4 {l : List PS} {k n : Nat} {e t : PS} (h : l[k]? = some e) : Jj k t (n + 1) 4 l = Jj k t n 5 (l.set k ⟨e.reached, e.depth, ⟨e.stored.f0, e.stored.f1, e.stored.f2, e.stored.f3, u64and e.stored.f4 t.stored.f4, e.stored.f5, e.stored.f6, e.stored.f7⟩⟩) := by
 rw [Jj, chk_bind (by decide), h, Option.bind_some, chk_bind (by decide), chk_bind (by decide), Option.bind_some]
 rfl
theorem jstep5 {l : List PS} {k n : Nat} {e t : PS} (h : l[k]? = some e) : Jj k t (n + 1) 5 l = Jj k t n 6 (l.set k ⟨e.reached, e.depth, ⟨e.stored.f0, e.stored.f1, e.stored.f2, e.stored.f3, e.stored.f4, u64and e.stored.f5 t.stored.f5, e.stored.f6, e.stored.f7⟩⟩) := by
 rw [Jj, chk_bind (by decide), h, Option.bind_some, chk_bind (by decide), chk_bind (by decide), Option.bind_some]
 rfl
theorem jstep6 {l : List PS} {k n : Nat} {e t : PS} (h : l[k]? = some e) : Jj k t (n + 1) 6 l = Jj k t n 7 (l.set k ⟨e.reached, e.depth, ⟨e.stored.f0, e.stored.f1, e.stored.f2, e.stored.f3, e.stored.f4, e.stored.f5, u64and e.stored.f6 t.stored.f6, e.stored.f7⟩⟩) := by
 rw [Jj, chk_bind (by decide), h, Option.bind_some, chk_bind (by decide), chk_bind (by decide), Option.bind_some]
 rfl
theorem jstep7 {l : List PS} {k n : Nat} {e t : PS} (h : l[k]? = some e) : Jj k t (n + 1) 7 l = Jj k t n 8 (l.set k ⟨e.reached, e.depth, ⟨e.stored.f0, e.stored.f1, e.stored.f2, e.stored.f3, e.stored.f4, e.stored.f5, e.stored.f6, u64and e.stored.f7 t.stored.f7⟩⟩) := by
 rw [Jj, chk_bind (by decide), h, Option.bind_some, chk_bind (by decide), chk_bind (by decide), Option.bind_some]
 rfl
theorem jel {l : List PS} {k : Nat} {s t : PS} (h : l[k]? = some s) : Jj k t 8 0 l = some (l.set k ⟨s.reached, s.depth, andW s.stored t.stored⟩) := by
 have hk : k < l.length := (List.getElem?_eq_some_iff.1 h).1
 have hs : ∀ z : PS, (l.set k z)[k]? = some z := fun z => by simp [hk]
 rw [jstep0 h, jstep1 (hs _), List.set_set, jstep2 (hs _), List.set_set, jstep3 (hs _), List.set_set, jstep4 (hs _), List.set_set, jstep5 (hs _), List.set_set, jstep6 (hs _), List.set_set, jstep7 (hs _), List.set_set, Jj]
 rfl
def orW (W : S8) (k : Nat) : S8 :=
 let m := (wl W).set (k / 64) (u64or ((wl W).getD (k / 64) 0) (u64shl 1 ((k % 64 : Nat) : Int)))
 ⟨m.getD 0 0, m.getD 1 0, m.getD 2 0, m.getD 3 0, m.getD 4 0, m.getD 5 0, m.getD 6 0, m.getD 7 0⟩
theorem orW_wl {W : S8} {k i : Nat} (hk : k < 512) (hi : i < 8) : (wl (orW W k)).getD i 0 = if i = k / 64 then u64or ((wl W).getD (k / 64) 0) (u64shl 1 ((k % 64 : Nat) : Int)) else (wl W).getD i 0 := by
 have hl : (wl W).length = 8 := rfl
 have key : (wl (orW W k)).getD i 0 = ((wl W).set (k / 64) (u64or ((wl W).getD (k / 64) 0) (u64shl 1 ((k % 64 : Nat) : Int)))).getD i 0 := by
  match i, hi with
  | 0, _ | 1, _ | 2, _ | 3, _ | 4, _ | 5, _ | 6, _ | 7, _ => rfl
  | i + 8, h => omega
 rw [key, List.getD_eq_getElem?_getD, List.getElem?_set]
 by_cases q : k / 64 = i
 ·rw [if_pos q, if_pos (by omega), if_pos q.symm]; rfl
 ·rw [if_neg q, if_neg (by omega), ← List.getD_eq_getElem?_getD]
theorem orW_ok {W : S8} (h : WOK W) {k : Nat} (hk : k < 512) : WOK (orW W k) := by
 have key : ∀ i, i < 8 → W64 ((wl (orW W k)).getD i 0) := fun i hi => by
  rw [orW_wl hk hi]
  split
  ·exact u64or_ok
  ·exact wl_ok h i
 exact ⟨key 0 (by omega), key 1 (by omega), key 2 (by omega), key 3 (by omega), key 4 (by omega), key 5 (by omega), key 6 (by omega), key 7 (by omega)⟩
theorem orW_bit {W : S8} (h : WOK W) {k : Nat} (hk : k < 512) {n : Int} (h0 : 0 ≤ n) (h1 : n ≤ 511) : bitW (orW W k) n = (decide (n = (k : Int)) || bitW W n) := by
 unfold bitW
 rw [orW_wl hk (by omega)]
 by_cases q : n.toNat / 64 = k / 64
 ·rw [if_pos q, shl_ok (by omega), u64or_eq (wl_ok h _) (pow_lt (by omega)), Int.toNat_natCast, Int.toNat_natCast, Nat.testBit_or, Nat.testBit_two_pow, q, Bool.or_comm]
  congr 1
  rw [decide_eq_decide]
  omega
 ·rw [if_neg q, decide_eq_false (by omega), Bool.false_or]
end Rt.Rc
set_option linter.unusedVariables false
set_option linter.unusedSimpArgs false
open Go Go.SL Go.Proofs Pl
namespace Rt.Rc
def acts1 : List Str := [[112, 97, 116, 104], [113, 117, 101, 114, 121], [116, 97, 103], [116, 116, 108], [100, 101, 110, 121]]
def acts0 : List Str := [[112, 97, 115, 115], [116, 111, 107, 101, 110]]
def sHeader : Str := [104, 101, 97, 100, 101, 114, 58]
def sVary : Str := [118, 97, 114, 121, 58]
def hp (s p : Str) : Bool := decide (s.length ≥ p.length) && decide (s.take p.length = p)
def actK (s : Str) : Option Int :=
 if s ∈ acts1 then some 1 else if s ∈ acts0 then some 0 else if hp s sHeader = true then (if prt s = true then some 1 else none) else if (hp s sVary && prt s) = true then some 0 else none
def eff (x : I) : Option (Int × Int) :=
 if x.Op = 1 then (if x.S = [] ∧ 0 ≤ x.N ∧ x.N ≤ 999999999 then some (0, 1) else none)
 else if x.Op = 2 then (if x.N = 0 ∧ prt x.S = true then some (0, 1) else none)
 else if x.Op = 3 then (if x.S = [] ∧ 0 ≤ x.N ∧ x.N ≤ 511 then some (0, 1) else none)
 else if x.Op = 4 then (if x.S = [] ∧ 0 ≤ x.N ∧ x.N ≤ 511 then some (1, 0) else none)
 else if x.Op = 5 then (if x.N = 0 ∧ x.S ∈ Jq then some (0, 1) else none)
 else if x.Op = 6 then (if x.N = 0 ∧ x.S ∈ Ju then some (1, 1) else none)
 else if x.Op = 7 then (if x.N = 0 ∧ x.S ∈ Jv then some (2, 1) else none)
 else if x.Op = 8 then (if x.N = 0 ∧ x.S = [] then some (1, 1) else none)
 else if x.Op = 9 then (if x.S = [] then some (0, 0) else none)
 else if x.Op = 10 then (if x.S = [] then some (1, 0) else none)
 else if x.Op = 11 then (if x.N = 0 then (actK x.S).map fun t => (t, 0) else none)
 else if x.Op = 12 then (if x.N = 0 ∧ x.S = [] then some (0, 0) else none)
 else none
def Ef (x : I) (r : Option (Int × Int × Bool)) : Prop := ∃ t l, r = some (t, l, (eff x).isSome) ∧ ∀ a b, eff x = some (a, b) → t = a ∧ l = b
theorem Ef.mk' {x : I} {t l : Int} {b : Bool} {c : Prop} [Decidable c] (he : eff x = if c then some (t, l) else none) (hb : b = decide c) : Ef x (some (t, l, b)) := by
 refine ⟨t, l, ?_, fun a b h => ?_⟩
 ·rw [he, hb]
  by_cases q : c
  ·simp [q]
  ·simp [q]
 ·rw [he] at h
  split at h <;> cases h
  exact ⟨rfl, rfl⟩
theorem rprint {s : Str} (h : s.length ≤ 100000) : J2 s = some (prt s) := by
 obtain ⟨r, hr, g1, g2⟩ := quote_L0_eq s 0 [34] (by simp <;> omega)
 unfold J2 Ja1
 rw [chk_bind (by simp only [szMax]; omega), hr, Option.bind_some]
 cases q : prt s with
 | false => rw [g2 q, el_ret]; rfl
 | true =>
  obtain ⟨z, rfl, hz⟩ := g1 q
  rw [el_go, chk_bind (by simp only [lim, List.length_cons, List.length_nil]; omega)]; rfl
theorem prt2_L0 : ∀ (s : Str) (i : Nat), JU s i = some (if prt s = true then Fl.go () else Fl.ret false)
 | [], i => by simp [JU, prt]
 | c :: s, i => by
  rw [JU, prt_cond, Option.bind_some, prt_cons]
  cases q : (decide ((c.toNat : Int) < 32) || decide ((c.toNat : Int) > 126)) with
  | true => rw [if_pos rfl]; rfl
  | false => rw [if_neg (by simp), prt2_L0 s (i + 1)]; rfl
theorem prt2_eq {s : Str} (h : s.length ≤ 100000) : Jay s = some (prt s) := by
 unfold Jay
 rw [chk_bind (by simp only [szMax]; omega), prt2_L0, Option.bind_some]
 cases prt s <;> rfl
theorem cont_L0 (v : Str) : ∀ (l : List Str) (i : Nat), ∃ r, JM v l i = some r ∧ (v ∈ l → ∃ j : Nat, r = Fl.ret (j : Int)) ∧ (v ∉ l → r = Fl.go ())
 | [], i => ⟨_, rfl, fun h => (by cases h), fun _ => rfl⟩
 | a :: l, i => by
  rw [JM]
  by_cases q : v = a
  ·rw [if_pos (by simpa using q)]
   exact ⟨_, rfl, fun _ => ⟨i, rfl⟩, fun h => absurd (by simp [q]) h⟩
  ·rw [if_neg (by simpa using q)]
   obtain ⟨r, hr, h1, h2⟩ := cont_L0 v l (i + 1)
   exact ⟨r, hr, fun h => h1 (by simpa [q] using h), fun h => h2 (by simpa [q] using h)⟩
theorem cont_eq {l : List Str} {v : Str} (h : l.length ≤ 1000) : JI l v = some (decide (v ∈ l)) := by
 unfold JI JaD
 obtain ⟨r, hr, h1, h2⟩ := cont_L0 v l 0
 rw [chk_bind (by simp only [szMax]; omega), hr, Option.bind_some]
 by_cases q : v ∈ l
 ·obtain ⟨j, rfl⟩ := h1 q
  rw [el_ret, Option.bind_some, decide_eq_true q, decide_eq_true (by omega)]
 ·rw [h2 q, el_go, Option.bind_some, decide_eq_false q]; rfl
theorem has_L0 (v : Str) : ∀ (l : List Str) (i : Nat), JaB v l i = some (if v ∈ l then Fl.ret true else Fl.go ())
 | [], i => by simp [JaB]
 | a :: l, i => by
  rw [JaB]
  by_cases q : a = v
  ·rw [if_pos (by simpa using q), if_pos (by simp [q])]
  ·rw [if_neg (by simpa using q), has_L0 v l (i + 1)]
   have : v ≠ a := fun h => q h.symm
   simp [this]
theorem has2_eq {l : List Str} {v : Str} (h : l.length ≤ 1000) : JaX v l = some (decide (v ∈ l)) := by
 unfold JaX
 rw [chk_bind (by simp only [szMax]; omega), has_L0, Option.bind_some]
 by_cases q : v ∈ l
 ·rw [if_pos q, el_ret, decide_eq_true q]
 ·rw [if_neg q, el_go, decide_eq_false q]
theorem sub0 (s : Str) (k : Nat) : subL s (0 : Int) (k : Int) = s.take k := by
 unfold subL
 simp
theorem hp_eq (s p : Str) : (decide ((s.length : Int) ≥ (p.length : Int)) && decide (subL s (0 : Int) (p.length : Int) = p)) = hp s p := by
 rw [sub0]
 unfold hp
 congr 1
 rw [decide_eq_decide]; omega
theorem hp_app {s p : Str} (h : hp s p = true) : s = p ++ s.drop p.length := by
 simp only [hp, Bool.and_eq_true, decide_eq_true_eq] at h
 conv => lhs; rw [← List.take_append_drop p.length s, h.2]
theorem prt_append (a b : Str) : prt (a ++ b) = (prt a && prt b) := by simp [prt]
theorem begins_eq {s p : Str} (h : s.length ≤ 100000) : JaC s p = some (hp s p && prt s) := by
 unfold JaC
 by_cases q : (s.length : Int) ≥ (p.length : Int)
 ·rw [if_pos (by simpa using q), chk_bind (by omega), Option.bind_some]
  have e : decide (subL s (0 : Int) (p.length : Int) = p) = hp s p := by rw [← hp_eq, decide_eq_true q, Bool.true_and]
  rw [e]
  cases hp s p with
  | true => rw [if_pos rfl, prt2_eq h, Option.bind_some, Option.bind_some, Bool.true_and]
  | false => rw [if_neg (by simp), Option.bind_some, Bool.false_and]
 ·rw [if_neg (by simpa using q), Option.bind_some, if_neg (by simp), Option.bind_some]
  have : hp s p = false := by rw [← hp_eq, decide_eq_false q, Bool.false_and]
  rw [this, Bool.false_and]
theorem cut_eq (s p : Str) : Jag s p = some (if hp s p = true then (s.drop p.length, true) else (s, false)) := by
 unfold Jag JT
 have h0 := prefix_ok s p
 unfold Jae at h0
 rw [hp_eq] at h0
 have h1 : JG s p = some (hp s p) := by simpa using h0
 rw [h1, Option.bind_some]
 cases q : hp s p with
 | false => rw [if_pos (by simp), Option.bind_some, if_neg (by simp)]
 | true =>
  have hl : p.length ≤ s.length := by
   simp only [hp, Bool.and_eq_true, decide_eq_true_eq] at q
   exact q.1
  rw [if_neg (by simp), chk_bind (by omega), Option.bind_some, if_pos rfl]
  unfold subL
  rw [Int.toNat_natCast, List.take_of_length_le (by rw [List.length_drop]; omega)]
theorem act_pure {s : Str} (h : s.length ≤ 100000) : ∃ t b, Jbe s = some (t, b) ∧ b = (actK s).isSome ∧ ∀ k, actK s = some k → t = k := by
 have key : ∀ (t : Int) (b : Bool), (actK s = if b = true then some t else none) → b = (actK s).isSome ∧ ∀ k, actK s = some k → t = k := fun t b h => by
  rw [h]
  cases b with
  | true => exact ⟨rfl, fun k hk => by cases hk; rfl⟩
  | false => exact ⟨rfl, fun k hk => by cases hk⟩
 unfold Jbe
 by_cases q1 : s = [112, 97, 116, 104]
 ·subst q1; exact ⟨_, _, rfl, key _ _ (by decide)⟩
 rw [if_neg (by simpa using q1)]
 by_cases q2 : s = [113, 117, 101, 114, 121]
 ·subst q2; exact ⟨_, _, rfl, key _ _ (by decide)⟩
 rw [if_neg (by simpa using q2)]
 by_cases q3 : s = [116, 97, 103]
 ·subst q3; exact ⟨_, _, rfl, key _ _ (by decide)⟩
 rw [if_neg (by simpa using q3)]
 by_cases q4 : s = [116, 116, 108]
 ·subst q4; exact ⟨_, _, rfl, key _ _ (by decide)⟩
 rw [if_neg (by simpa using q4)]
 by_cases q5 : s = [100, 101, 110, 121]
 ·subst q5; exact ⟨_, _, rfl, key _ _ (by decide)⟩
 rw [if_neg (by simpa using q5)]
 by_cases q6 : s = [112, 97, 115, 115]
 ·subst q6; exact ⟨_, _, rfl, key _ _ (by decide)⟩
 rw [if_neg (by simpa using q6)]
 by_cases q7 : s = [116, 111, 107, 101, 110]
 ·subst q7; exact ⟨_, _, rfl, key _ _ (by decide)⟩
 rw [if_neg (by simpa using q7)]
 have n1 : s ∉ acts1 := by simp [acts1, q1, q2, q3, q4, q5]
 have n0 : s ∉ acts0 := by simp [acts0, q6, q7]
 have hd : ∀ p : Str, hp s p = true → prt p = true → prt (s.drop p.length) = prt s := fun p h hpp => by
  conv => rhs; rw [hp_app h]
  rw [prt_append, hpp, Bool.true_and]
 rw [show ([104, 101, 97, 100, 101, 114, 58] : Str) = sHeader from rfl, show ([118, 97, 114, 121, 58] : Str) = sVary from rfl, cut_eq, Option.bind_some]
 cases q8 : hp s sHeader with
 | true =>
  rw [if_pos rfl, if_pos rfl, rprint (by rw [List.length_drop]; omega), Option.bind_some, hd _ q8 (by decide)]
  exact ⟨_, _, rfl, key _ _ (by unfold actK; rw [if_neg n1, if_neg n0, if_pos q8])⟩
 | false =>
  rw [if_neg (by simp), cut_eq, Option.bind_some]
  cases q9 : hp s sVary with
  | true =>
   rw [if_pos rfl, if_pos rfl, rprint (by rw [List.length_drop]; omega), Option.bind_some, Option.bind_some, hd _ q9 (by decide)]
   exact ⟨_, _, rfl, key _ _ (by unfold actK; rw [if_neg n1, if_neg n0, if_neg (by simp [q8]), q9, Bool.true_and])⟩
  | false =>
   rw [if_neg (by simp), Option.bind_some]
   exact ⟨_, _, rfl, key _ _ (by unfold actK; rw [if_neg n1, if_neg n0, if_neg (by simp [q8]), q9, Bool.false_and])⟩
theorem ifb {c : Bool} {o : Option Bool} {v : Bool} (h : o = some v) : (if c = true then o.bind (fun x => some x) else some false) = some (c && v) := by
 cases c with
 | true => rw [if_pos rfl, h, Option.bind_some, Bool.true_and]
 | false => rw [if_neg (by simp), Bool.false_and]
theorem shape_pure {x : I} (h : x.S.length ≤ 100000) : Ef x (JaW x) := by
 unfold JaW
 by_cases q1 : x.Op = 1
 ·rw [if_pos (by simpa using q1)]; exact Ef.mk' (by unfold eff; rw [if_pos q1]) (by simp [Bool.and_assoc])
 by_cases q2 : x.Op = 2
 ·rw [if_neg (by simpa using q1), if_pos (by simpa using q2), ifb (rprint h), Option.bind_some]; exact Ef.mk' (by unfold eff; rw [if_neg q1, if_pos q2]) (by simp)
 by_cases q3 : x.Op = 3
 ·rw [if_neg (by simpa using q1), if_neg (by simpa using q2), if_pos (by simpa using q3)]; exact Ef.mk' (by unfold eff; rw [if_neg q1, if_neg q2, if_pos q3]) (by simp [Bool.and_assoc])
 by_cases q4 : x.Op = 4
 ·rw [if_neg (by simpa using q1), if_neg (by simpa using q2), if_neg (by simpa using q3), if_pos (by simpa using q4)]; exact Ef.mk' (by unfold eff; rw [if_neg q1, if_neg q2, if_neg q3, if_pos q4]) (by simp [Bool.and_assoc])
 rw [if_neg (by simpa using q1), if_neg (by simpa using q2), if_neg (by simpa using q3), if_neg (by simpa using q4)]
 by_cases q5 : x.Op = 5
 ·rw [if_pos (by simpa using q5), ifb (cont_eq (by decide)), Option.bind_some]; exact Ef.mk' (by unfold eff; rw [if_neg q1, if_neg q2, if_neg q3, if_neg q4, if_pos q5]) (by simp)
 by_cases q6 : x.Op = 6
 ·rw [if_neg (by simpa using q5), if_pos (by simpa using q6), ifb (cont_eq (by decide)), Option.bind_some]; exact Ef.mk' (by unfold eff; rw [if_neg q1, if_neg q2, if_neg q3, if_neg q4, if_neg q5, if_pos q6]) (by simp)
 by_cases q7 : x.Op = 7
 ·rw [if_neg (by simpa using q5), if_neg (by simpa using q6), if_pos (by simpa using q7), ifb (cont_eq (by decide)), Option.bind_some]; exact Ef.mk' (by unfold eff; rw [if_neg q1, if_neg q2, if_neg q3, if_neg q4, if_neg q5, if_neg q6, if_pos q7]) (by simp)
 rw [if_neg (by simpa using q5), if_neg (by simpa using q6), if_neg (by simpa using q7)]
 by_cases q8 : x.Op = 8
 ·rw [if_pos (by simpa using q8)]; exact Ef.mk' (by unfold eff; rw [if_neg q1, if_neg q2, if_neg q3, if_neg q4, if_neg q5, if_neg q6, if_neg q7, if_pos q8]) (by simp)
 by_cases q9 : x.Op = 9
 ·rw [if_neg (by simpa using q8), if_pos (by simpa using q9)]; exact Ef.mk' (by unfold eff; rw [if_neg q1, if_neg q2, if_neg q3, if_neg q4, if_neg q5, if_neg q6, if_neg q7, if_neg q8, if_pos q9]) (by simp)
 by_cases q10 : x.Op = 10
 ·rw [if_neg (by simpa using q8), if_neg (by simpa using q9), if_pos (by simpa using q10)]; exact Ef.mk' (by unfold eff; rw [if_neg q1, if_neg q2, if_neg q3, if_neg q4, if_neg q5, if_neg q6, if_neg q7, if_neg q8, if_neg q9, if_pos q10]) (by simp)
 rw [if_neg (by simpa using q8), if_neg (by simpa using q9), if_neg (by simpa using q10)]
 by_cases q11 : x.Op = 11
 ·obtain ⟨t, b, e1, e2, e3⟩ := act_pure h
  rw [if_pos (by simpa using q11), e1, Option.bind_some]
  have ee : eff x = if x.N = 0 then (actK x.S).map fun t => (t, 0) else none := by unfold eff; rw [if_neg q1, if_neg q2, if_neg q3, if_neg q4, if_neg q5, if_neg q6, if_neg q7, if_neg q8, if_neg q9, if_neg q10, if_pos q11]
  refine ⟨t, 0, ?_, fun a c hc => ?_⟩
  ·rw [ee, e2]
   by_cases q : x.N = 0
   ·rw [if_pos q, decide_eq_true q, Bool.true_and, Option.isSome_map]
   ·rw [if_neg q, decide_eq_false q, Bool.false_and]; rfl
  ·rw [ee] at hc
   by_cases q : x.N = 0
   ·rw [if_pos q] at hc
    obtain ⟨k, hk, hk2⟩ := Option.map_eq_some_iff.1 hc
    cases hk2
    exact ⟨e3 _ hk, rfl⟩
   ·rw [if_neg q] at hc; cases hc
 by_cases q12 : x.Op = 12
 ·rw [if_neg (by simpa using q11), if_pos (by simpa using q12)]; exact Ef.mk' (by unfold eff; rw [if_neg q1, if_neg q2, if_neg q3, if_neg q4, if_neg q5, if_neg q6, if_neg q7, if_neg q8, if_neg q9, if_neg q10, if_neg q11, if_pos q12]) (by simp)
 ·rw [if_neg (by simpa using q11), if_neg (by simpa using q12)]
  have ee : eff x = none := by unfold eff; rw [if_neg q1, if_neg q2, if_neg q3, if_neg q4, if_neg q5, if_neg q6, if_neg q7, if_neg q8, if_neg q9, if_neg q10, if_neg q11, if_neg q12]
  exact ⟨0, 0, by rw [ee]; rfl, fun a b h => by rw [ee] at h; cases h⟩
end Rt.Rc
set_option linter.unusedVariables false
set_option linter.unusedSimpArgs false
open Go Go.SL Go.Proofs Pl
namespace Rt.Rc
theorem hp_ne {s p q : Str} (h : hp s p = true) (hn : ∀ t, hp (p ++ t) q = false) : hp s q = false := by
 rw [hp_app h]; exact hn _
theorem vary_header (s : Str) (h : hp s sVary = true) : hp s sHeader = false := by
 refine hp_ne h fun t => ?_
 unfold hp sVary sHeader
 simp
theorem vary_acts1 {s : Str} (h : hp s sVary = true) : s ∉ acts1 := by
 intro hs
 have : ∀ w ∈ acts1, hp w sVary = false := by decide
 rw [this s hs] at h; cases h
theorem acts10 {s : Str} (h : s ∈ acts0) : s ∉ acts1 := by
 intro hs
 have : ∀ w ∈ acts0, w ∉ acts1 := by decide
 exact this s h hs
theorem orb {c : Bool} {o : Option Bool} {v : Bool} (h : o = some v) : (if c = true then some true else o.bind (fun x => some x)) = some (c || v) := by
 cases c with
 | true => rw [if_pos rfl, Bool.true_or]
 | false => rw [if_neg (by simp), h, Option.bind_some, Bool.false_or]
theorem fn_iff (s : Str) : J8 s = some ((fnc s).1, (fnc s).2, decide (s ∈ Ju)) ∧ ((fnc s).2 ≠ 0 ↔ s ∈ Ju) := by
 obtain ⟨h1, h2⟩ := fnc_cases s
 have h3 : decide ((fnc s).2 ≠ 0) = decide (s ∈ Ju) := by
  have e : (J8 s).map (fun r => r.2.2) = some (decide (s ∈ Ju)) := by
   unfold J8 Ju
   by_cases q1 : s = [104, 101, 97, 100, 101, 114]; · subst q1; rfl
   by_cases q2 : s = [97, 114, 103]; · subst q2; rfl
   by_cases q3 : s = [108, 111, 119, 101, 114]; · subst q3; rfl
   by_cases q4 : s = [104, 97, 115]; · subst q4; rfl
   by_cases q5 : s = [108, 101, 110]; · subst q5; rfl
   by_cases q6 : s = [110, 117, 109, 98, 101, 114]; · subst q6; rfl
   by_cases q7 : s = [112, 97, 114, 116]; · subst q7; rfl
   by_cases q8 : s = [116, 101, 120, 116]; · subst q8; rfl
   simp [q1, q2, q3, q4, q5, q6, q7, q8]
  rw [h1] at e
  simpa using e
 rw [h3] at h1
 exact ⟨h1, decide_eq_decide.1 h3⟩
set_option maxHeartbeats 1000000 in
theorem effect_pure {x : I} (h : x.S.length ≤ 100000) : Ef x (Jbf (cv x)) := by
 unfold Jbf cv
 dsimp only
 by_cases q1 : x.Op = 1
 ·rw [if_pos (by simpa using q1)]; exact Ef.mk' (by unfold eff; rw [if_pos q1]) (by simp [Bool.and_assoc])
 by_cases q2 : x.Op = 2
 ·rw [if_neg (by simpa using q1), if_pos (by simpa using q2), ifb (prt2_eq h), Option.bind_some]; exact Ef.mk' (by unfold eff; rw [if_neg q1, if_pos q2]) (by simp)
 by_cases q3 : x.Op = 3
 ·rw [if_neg (by simpa using q1), if_neg (by simpa using q2), if_pos (by simpa using q3)]
  refine Ef.mk' (by unfold eff; rw [if_neg q1, if_neg q2, if_pos q3]) ?_
  have : decide (x.N < 512) = decide (x.N ≤ 511) := by rw [decide_eq_decide]; omega
  simp [this, Bool.and_assoc]
 by_cases q4 : x.Op = 4
 ·rw [if_neg (by simpa using q1), if_neg (by simpa using q2), if_neg (by simpa using q3), if_pos (by simpa using q4)]
  refine Ef.mk' (by unfold eff; rw [if_neg q1, if_neg q2, if_neg q3, if_pos q4]) ?_
  have : decide (x.N < 512) = decide (x.N ≤ 511) := by rw [decide_eq_decide]; omega
  simp [this, Bool.and_assoc]
 rw [if_neg (by simpa using q1), if_neg (by simpa using q2), if_neg (by simpa using q3), if_neg (by simpa using q4)]
 by_cases q5 : x.Op = 5
 ·have hp : Jaz x.S = some (decide (x.S ∈ Jq)) := by
   unfold Jaz Jq
   simp [Bool.or_assoc]
  rw [if_pos (by simpa using q5), ifb hp, Option.bind_some]; exact Ef.mk' (by unfold eff; rw [if_neg q1, if_neg q2, if_neg q3, if_neg q4, if_pos q5]) (by simp)
 by_cases q6 : x.Op = 6
 ·rw [if_neg (by simpa using q5), if_pos (by simpa using q6), (fn_iff x.S).1, Option.bind_some]; exact Ef.mk' (by unfold eff; rw [if_neg q1, if_neg q2, if_neg q3, if_neg q4, if_neg q5, if_pos q6]) (by simp)
 by_cases q7 : x.Op = 7
 ·have hl : JaX x.S ([([43] : Str), ([45] : Str), ([42] : Str), ([61, 61] : Str), ([33, 61] : Str), ([60] : Str), ([60, 61] : Str), ([115, 116, 97, 114, 116, 115] : Str), ([101, 110, 100, 115] : Str), ([99, 111, 110, 116, 97, 105, 110, 115] : Str)]) = some (decide (x.S ∈ Jv)) := has2_eq (by decide)
  rw [if_neg (by simpa using q5), if_neg (by simpa using q6), if_pos (by simpa using q7), ifb hl, Option.bind_some]; exact Ef.mk' (by unfold eff; rw [if_neg q1, if_neg q2, if_neg q3, if_neg q4, if_neg q5, if_neg q6, if_pos q7]) (by simp)
 rw [if_neg (by simpa using q5), if_neg (by simpa using q6), if_neg (by simpa using q7)]
 by_cases q8 : x.Op = 8
 ·rw [if_pos (by simpa using q8)]; exact Ef.mk' (by unfold eff; rw [if_neg q1, if_neg q2, if_neg q3, if_neg q4, if_neg q5, if_neg q6, if_neg q7, if_pos q8]) (by simp [Bool.and_comm])
 by_cases q9 : x.Op = 9
 ·rw [if_neg (by simpa using q8), if_pos (by simpa using q9)]; exact Ef.mk' (by unfold eff; rw [if_neg q1, if_neg q2, if_neg q3, if_neg q4, if_neg q5, if_neg q6, if_neg q7, if_neg q8, if_pos q9]) (by simp)
 by_cases q10 : x.Op = 10
 ·rw [if_neg (by simpa using q8), if_neg (by simpa using q9), if_pos (by simpa using q10)]; exact Ef.mk' (by unfold eff; rw [if_neg q1, if_neg q2, if_neg q3, if_neg q4, if_neg q5, if_neg q6, if_neg q7, if_neg q8, if_neg q9, if_pos q10]) (by simp)
 rw [if_neg (by simpa using q8), if_neg (by simpa using q9), if_neg (by simpa using q10)]
 by_cases q11 : x.Op = 11
 ·have ee : eff x = if x.N = 0 then (actK x.S).map fun t => (t, 0) else none := by unfold eff; rw [if_neg q1, if_neg q2, if_neg q3, if_neg q4, if_neg q5, if_neg q6, if_neg q7, if_neg q8, if_neg q9, if_neg q10, if_pos q11]
  have e0 : JaX x.S [([112, 97, 115, 115] : Str), ([116, 111, 107, 101, 110] : Str)] = some (decide (x.S ∈ acts0)) := has2_eq (by decide)
  have e1 : JaX x.S [([112, 97, 116, 104] : Str), ([113, 117, 101, 114, 121] : Str), ([116, 97, 103] : Str), ([116, 116, 108] : Str), ([100, 101, 110, 121] : Str)] = some (decide (x.S ∈ acts1)) := has2_eq (by decide)
  have bv : JaC x.S [118, 97, 114, 121, 58] = some (hp x.S sVary && prt x.S) := begins_eq h
  have bh : JaC x.S [104, 101, 97, 100, 101, 114, 58] = some (hp x.S sHeader && prt x.S) := begins_eq h
  rw [if_pos (by simpa using q11), e0, Option.bind_some, orb bv, Option.bind_some]
  cases qz : (decide (x.S ∈ acts0) || (hp x.S sVary && prt x.S)) with
  | true =>
   rw [if_pos rfl]
   have ha : actK x.S = some 0 := by
    unfold actK
    simp only [Bool.or_eq_true, decide_eq_true_eq, Bool.and_eq_true] at qz
    rcases qz with qz | ⟨q1, q2⟩
    ·rw [if_neg (acts10 qz), if_pos qz]
    ·rw [if_neg (vary_acts1 q1)]
     by_cases m0 : x.S ∈ acts0
     ·rw [if_pos m0]
     ·rw [if_neg m0, if_neg (by rw [vary_header _ q1]; simp), q1, q2]; rfl
   exact Ef.mk' (c := x.N = 0) (by rw [ee, ha]; rfl) rfl
  | false =>
   rw [if_neg (by simp)]
   simp only [Bool.or_eq_false_iff, decide_eq_false_iff_not] at qz
   have ha : actK x.S = if (decide (x.S ∈ acts1) || (hp x.S sHeader && prt x.S)) = true then some 1 else none := by
    unfold actK
    by_cases m1 : x.S ∈ acts1
    ·rw [if_pos m1, decide_eq_true m1]; rfl
    ·rw [if_neg m1, if_neg qz.1, qz.2, decide_eq_false m1, Bool.false_or]
     cases hp x.S sHeader with
     | true => simp
     | false => simp
   by_cases n0 : x.N = 0
   ·rw [if_pos (by simpa using n0), e1, Option.bind_some, orb bh, Option.bind_some]
    exact Ef.mk' (c := (decide (x.S ∈ acts1) || (hp x.S sHeader && prt x.S)) = true) (by rw [ee, if_pos n0, ha]; split <;> rfl) (by simp)
   ·rw [if_neg (by simpa using n0)]
    exact Ef.mk' (c := False) (by rw [ee, if_neg n0]; rfl) (by simp)
 by_cases q12 : x.Op = 12
 ·rw [if_neg (by simpa using q11), if_pos (by simpa using q12)]; exact Ef.mk' (by unfold eff; rw [if_neg q1, if_neg q2, if_neg q3, if_neg q4, if_neg q5, if_neg q6, if_neg q7, if_neg q8, if_neg q9, if_neg q10, if_neg q11, if_pos q12]) (by simp [Bool.and_comm])
 ·rw [if_neg (by simpa using q11), if_neg (by simpa using q12)]
  have ee : eff x = none := by unfold eff; rw [if_neg q1, if_neg q2, if_neg q3, if_neg q4, if_neg q5, if_neg q6, if_neg q7, if_neg q8, if_neg q9, if_neg q10, if_neg q11, if_neg q12]
  exact ⟨0, 0, by rw [ee]; rfl, fun a b h => by rw [ee] at h; cases h⟩
end Rt.Rc
set_option linter.unusedVariables false
set_option linter.unusedSimpArgs false
open Go Go.SL Go.Proofs Pl
namespace Rt.Rc
abbrev AS := Option (Int × (Int → Bool))
abbrev AB := Nat → AS
def joinA (a : AS) (d : Int) (σ : Int → Bool) : Option AS := match a with
 | none => some (some (d, σ))
 | some (d0, σ0) => if d0 = d then some (some (d0, fun n => σ0 n && σ n)) else none
def updA (B : AB) (i : Nat) (a : AS) : AB := fun j => if j = i then a else B j
def nxt (x : I) (σ : Int → Bool) : Int → Bool := if x.Op = 4 then (fun n => decide (n = x.N) || σ n) else σ
def far (len i : Nat) (x : I) (B : AB) (d : Int) (σ : Int → Bool) : Option AB :=
 if isJ x = true then (if x.N ≤ i ∨ x.N ≥ len then none else (joinA (B x.N.toNat) d σ).map fun a => updA B x.N.toNat a) else some B
def near (i : Nat) (x : I) (B : AB) (d : Int) (σ : Int → Bool) : Option AB :=
 if x.Op = 9 then some B else (joinA (B (i + 1)) d σ).map fun a => updA B (i + 1) a
def stA (len i : Nat) (x : I) (B : AB) (g : Int) : Option (AB × Int) :=
 match eff x, B i with
 | some (t, l), some (d, σ) =>
  if d < t ∨ ¬ ((x.Op = 12) ↔ (i + 1 = len)) ∨ (x.Op = 3 ∧ σ x.N = false) then none
  else if x.Op = 12 then (if d = 0 then some (B, max (max g d) (d + (l - t))) else none)
  else (far len i x B (d + (l - t)) (nxt x σ)).bind fun B1 => (near i x B1 (d + (l - t)) (nxt x σ)).map fun B2 => (B2, max (max g d) (d + (l - t)))
 | _, _ => none
def wk (len : Nat) : Nat → List I → AB → Int → Option Int
 | _, [], _, g => some g
 | i, x :: l, B, g => (stA len i x B g).bind fun r => wk len (i + 1) l r.1 r.2
def B0 : AB := fun i => if i = 0 then some (0, fun _ => false) else none
def depthOf (c : List I) : Option Int := if c.length < 1 ∨ c.length > 2048 then none else wk c.length 0 c B0 0
structure PR (len : Nat) (L : List PS) (B : AB) : Prop where
 len : L.length = len
 bits : ∀ i s, L[i]? = some s → s.reached = (B i).isSome ∧ ∀ d σ, B i = some (d, σ) → s.depth = d ∧ 0 ≤ d ∧ d ≤ i ∧ WOK s.stored ∧ ∀ n : Int, 0 ≤ n → n ≤ 511 → bitW s.stored n = σ n
structure TR (t : PS) (d : Int) (σ : Int → Bool) : Prop where
 reached : t.reached = true
 depth : t.depth = d
 ok : WOK t.stored
 bits : ∀ n : Int, 0 ≤ n → n ≤ 511 → bitW t.stored n = σ n
theorem pjoin {len k : Nat} {L : List PS} {B : AB} {t : PS} {d : Int} {σ : Int → Bool} (h : PR len L B) (hk : k < len) (ht : TR t d σ) (hd : 0 ≤ d ∧ d ≤ k) :
  ∃ b L', JN L k t = some (b, L') ∧ match joinA (B k) d σ with
   | none => b = false
   | some a => b = true ∧ PR len L' (updA B k a) := by
 obtain ⟨s, hs⟩ : ∃ s, L[k]? = some s := ⟨L[k]'(by rw [h.len]; exact hk), List.getElem?_eq_getElem _⟩
 obtain ⟨h1, h2⟩ := h.bits k s hs
 have hk' : k < L.length := by rw [h.len]; exact hk
 have up : ∀ (a : AS) (s' : PS), (s'.reached = a.isSome ∧ ∀ d σ, a = some (d, σ) → s'.depth = d ∧ 0 ≤ d ∧ d ≤ k ∧ WOK s'.stored ∧ ∀ n : Int, 0 ≤ n → n ≤ 511 → bitW s'.stored n = σ n) → PR len (L.set k s') (updA B k a) := fun a s' ha =>
  ⟨by rw [List.length_set]; exact h.len, fun i z hz => by
   unfold updA
   by_cases q : i = k
   ·subst q
    rw [List.getElem?_set_self hk'] at hz
    cases hz
    simp only [if_true]
    exact ha
   ·rw [List.getElem?_set_ne (fun e => q e.symm)] at hz
    simp only [if_neg q]
    exact h.bits i z hz⟩
 unfold JN
 rw [hs, Option.bind_some]
 cases hB : B k with
 | none =>
  rw [hB] at h1
  have h1 : s.reached = false := h1
  rw [if_pos (by simp [h1])]
  refine ⟨_, _, rfl, rfl, ?_⟩
  have := up (some (d, σ)) t ⟨ht.reached, fun d' σ' e => by cases e; exact ⟨ht.depth, hd.1, hd.2, ht.ok, ht.bits⟩⟩
  exact this
 | some p =>
  obtain ⟨d0, σ0⟩ := p
  rw [hB] at h1
  have h1 : s.reached = true := h1
  obtain ⟨g1, g2, g3, g4, g5⟩ := h2 d0 σ0 hB
  rw [if_neg (by simp [h1]), chk_bind (by decide), show ((8 : Int)).toNat = 8 from rfl, jel hs, Option.bind_some, List.getElem?_set_self hk', Option.bind_some]
  refine ⟨_, _, rfl, ?_⟩
  simp only [joinA]
  by_cases q : d0 = d
  ·rw [if_pos q]
   simp only
   refine ⟨by simp [g1, q, ht.depth], up _ _ ⟨h1, fun d' σ' e => ?_⟩⟩
   cases e
   exact ⟨g1, g2, g3, andW_ok g4 ht.ok, fun n n0 n1 => by rw [andW_bit g4 ht.ok n0 n1, g5 n n0 n1, ht.bits n n0 n1]⟩
  ·rw [if_neg q]
   simp [g1, ht.depth, q]
theorem eff_bd {x : I} {t l : Int} (h : eff x = some (t, l)) : 0 ≤ t ∧ t ≤ 2 ∧ 0 ≤ l ∧ l ≤ 1 ∧ (x.Op = 12 → t = 0 ∧ l = 0) ∧ ((x.Op = 3 ∨ x.Op = 4) → 0 ≤ x.N ∧ x.N ≤ 511) := by
 unfold eff at h
 have go : ∀ {c : Prop} [Decidable c] {a b : Int}, (if c then some (a, b) else none) = some (t, l) → c ∧ a = t ∧ b = l := fun {c} _ {a b} h => by
  split at h
  ·rename_i hc; cases h; exact ⟨hc, rfl, rfl⟩
  ·cases h
 by_cases q1 : x.Op = 1
 ·rw [if_pos q1] at h; obtain ⟨_, rfl, rfl⟩ := go h; exact ⟨by omega, by omega, by omega, by omega, fun h => by omega, fun h => by omega⟩
 rw [if_neg q1] at h
 by_cases q2 : x.Op = 2
 ·rw [if_pos q2] at h; obtain ⟨_, rfl, rfl⟩ := go h; exact ⟨by omega, by omega, by omega, by omega, fun h => by omega, fun h => by omega⟩
 rw [if_neg q2] at h
 by_cases q3 : x.Op = 3
 ·rw [if_pos q3] at h; obtain ⟨hc, rfl, rfl⟩ := go h; exact ⟨by omega, by omega, by omega, by omega, fun h => by omega, fun _ => hc.2⟩
 rw [if_neg q3] at h
 by_cases q4 : x.Op = 4
 ·rw [if_pos q4] at h; obtain ⟨hc, rfl, rfl⟩ := go h; exact ⟨by omega, by omega, by omega, by omega, fun h => by omega, fun _ => hc.2⟩
 rw [if_neg q4] at h
 have no : ¬ (x.Op = 3 ∨ x.Op = 4) := by omega
 by_cases q5 : x.Op = 5
 ·rw [if_pos q5] at h; obtain ⟨_, rfl, rfl⟩ := go h; exact ⟨by omega, by omega, by omega, by omega, fun h => by omega, fun h => absurd h no⟩
 rw [if_neg q5] at h
 by_cases q6 : x.Op = 6
 ·rw [if_pos q6] at h; obtain ⟨_, rfl, rfl⟩ := go h; exact ⟨by omega, by omega, by omega, by omega, fun h => by omega, fun h => absurd h no⟩
 rw [if_neg q6] at h
 by_cases q7 : x.Op = 7
 ·rw [if_pos q7] at h; obtain ⟨_, rfl, rfl⟩ := go h; exact ⟨by omega, by omega, by omega, by omega, fun h => by omega, fun h => absurd h no⟩
 rw [if_neg q7] at h
 by_cases q8 : x.Op = 8
 ·rw [if_pos q8] at h; obtain ⟨_, rfl, rfl⟩ := go h; exact ⟨by omega, by omega, by omega, by omega, fun h => by omega, fun h => absurd h no⟩
 rw [if_neg q8] at h
 by_cases q9 : x.Op = 9
 ·rw [if_pos q9] at h; obtain ⟨_, rfl, rfl⟩ := go h; exact ⟨by omega, by omega, by omega, by omega, fun h => by omega, fun h => absurd h no⟩
 rw [if_neg q9] at h
 by_cases q10 : x.Op = 10
 ·rw [if_pos q10] at h; obtain ⟨_, rfl, rfl⟩ := go h; exact ⟨by omega, by omega, by omega, by omega, fun h => by omega, fun h => absurd h no⟩
 rw [if_neg q10] at h
 by_cases q11 : x.Op = 11
 ·rw [if_pos q11] at h
  split at h
  ·obtain ⟨k, hk, e⟩ := Option.map_eq_some_iff.1 h
   cases e
   have : t = 0 ∨ t = 1 := by
    unfold actK at hk
    split at hk
    ·cases hk; simp
    ·split at hk
     ·cases hk; simp
     ·split at hk
      ·split at hk
       ·cases hk; simp
       ·cases hk
      ·split at hk
       ·cases hk; simp
       ·cases hk
   exact ⟨by omega, by omega, by omega, by omega, fun h => by omega, fun h => absurd h no⟩
  ·cases h
 rw [if_neg q11] at h
 by_cases q12 : x.Op = 12
 ·rw [if_pos q12] at h; obtain ⟨_, rfl, rfl⟩ := go h; exact ⟨by omega, by omega, by omega, by omega, fun h => ⟨rfl, rfl⟩, fun h => absurd h no⟩
 rw [if_neg q12] at h
 cases h
def nxtW (x : I) (W : S8) : S8 := if x.Op = 4 then orW W x.N.toNat else W
theorem pstore {x : I} {W : S8} (hx : x.Op = 4 → 0 ≤ x.N ∧ x.N ≤ 511) :
  (if decide (x.Op = 4) = true then
   (chk ((64 : Int) ≠ 0 ∧ InI (Int.tdiv x.N 64))).bind fun _ => (chk (0 ≤ (Int.tdiv x.N 64) ∧ (Int.tdiv x.N 64) < 8)).bind fun _ => (chk (0 ≤ (Int.tmod x.N 64))).bind fun _ => (chk (0 ≤ (Int.tdiv x.N 64) ∧ (Int.tdiv x.N 64) < 8)).bind fun _ =>
   (some (List.set [W.f0, W.f1, W.f2, W.f3, W.f4, W.f5, W.f6, W.f7] (Int.toNat (Int.tdiv x.N 64)) (u64or (List.getD [W.f0, W.f1, W.f2, W.f3, W.f4, W.f5, W.f6, W.f7] (Int.toNat (Int.tdiv x.N 64)) 0) (u64shl 1 (Int.tmod x.N 64))))).bind fun m5_ =>
   some ((List.getD m5_ 0 0), (List.getD m5_ 1 0), (List.getD m5_ 2 0), (List.getD m5_ 3 0), (List.getD m5_ 4 0), (List.getD m5_ 5 0), (List.getD m5_ 6 0), (List.getD m5_ 7 0))
  else some (W.f0, W.f1, W.f2, W.f3, W.f4, W.f5, W.f6, W.f7) : Option (Int × Int × Int × Int × Int × Int × Int × Int)) = some ((nxtW x W).f0, (nxtW x W).f1, (nxtW x W).f2, (nxtW x W).f3, (nxtW x W).f4, (nxtW x W).f5, (nxtW x W).f6, (nxtW x W).f7) := by
 unfold nxtW
 by_cases q : x.Op = 4
 ·obtain ⟨h0, h1⟩ := hx q
  obtain ⟨k, hk⟩ : ∃ k : Nat, x.N = (k : Int) := ⟨x.N.toNat, by omega⟩
  rw [hk] at h0 h1 ⊢
  have e1 : Int.tdiv (k : Int) 64 = ((k / 64 : Nat) : Int) := by rw [Int.tdiv_eq_ediv_of_nonneg h0]; omega
  have e2 : Int.tmod (k : Int) 64 = ((k % 64 : Nat) : Int) := by rw [Int.tmod_eq_emod_of_nonneg h0]; omega
  have hd : k / 64 < 8 := by omega
  rw [if_pos (by simpa using q), e1, e2, chk_bind ⟨by decide, by omega, by omega⟩, chk_bind (by omega), chk_bind (by omega), chk_bind (by omega), Option.bind_some, if_pos q, Int.toNat_natCast, Int.toNat_natCast]
  rfl
 ·rw [if_neg (by simpa using q), if_neg q]
theorem nxtW_ok {x : I} {W : S8} (h : WOK W) (hx : x.Op = 4 → 0 ≤ x.N ∧ x.N ≤ 511) : WOK (nxtW x W) := by
 unfold nxtW
 split
 ·rename_i q; have := hx q; exact orW_ok h (by omega)
 ·exact h
theorem nxtW_bits {x : I} {W : S8} {σ : Int → Bool} (h : WOK W) (hx : x.Op = 4 → 0 ≤ x.N ∧ x.N ≤ 511) (hb : ∀ n : Int, 0 ≤ n → n ≤ 511 → bitW W n = σ n) : ∀ n : Int, 0 ≤ n → n ≤ 511 → bitW (nxtW x W) n = nxt x σ n := fun n h0 h1 => by
 unfold nxtW nxt
 by_cases q : x.Op = 4
 ·have := hx q
  rw [if_pos q, if_pos q, orW_bit h (by omega) h0 h1, hb n h0 h1]
  congr 1
  rw [decide_eq_decide]; omega
 ·rw [if_neg q, if_neg q, hb n h0 h1]
end Rt.Rc
set_option linter.unusedVariables false
set_option linter.unusedSimpArgs false
open Go Go.SL Go.Proofs Pl
namespace Rt.Rc
theorem wk_cons {len i : Nat} {x : I} {l : List I} {B : AB} {g : Int} : wk len i (x :: l) B g = (stA len i x B g).bind fun r => wk len (i + 1) l r.1 r.2 := rfl
theorem pfar {len i : Nat} {x : I} {L : List PS} {B : AB} {t : PS} {d : Int} {σ : Int → Bool} (h : PR len L B) (hl : len ≤ 2048) (ht : TR t d σ) (hd : 0 ≤ d ∧ d ≤ i + 1) :
  ∃ r, (if (decide (x.Op = 9) || decide (x.Op = 10)) = true then
   if (decide (x.N ≤ (i : Int)) || decide (x.N ≥ (len : Int))) = true then some (Fl.ret (0, false)) else
   (ix L x.N).bind fun x135 => (JN L ((x.N).toNat) t).bind fun x137 => if (!x137.1) = true then some (Fl.ret (0, false)) else some (Fl.go x137.2)
   else some (Fl.go L) : Option (Fl (Int × Bool) (List PS))) = some r ∧ match far len i x B d σ with
   | none => r = Fl.ret (0, false)
   | some B1 => ∃ L1, r = Fl.go L1 ∧ PR len L1 B1 := by
 have hj : (decide (x.Op = 9) || decide (x.Op = 10)) = isJ x := rfl
 rw [hj]
 unfold far
 cases q : isJ x with
 | false => rw [if_neg (by simp), if_neg (by simp)]; exact ⟨_, rfl, L, rfl, h⟩
 | true =>
  rw [if_pos rfl, if_pos rfl]
  by_cases q2 : x.N ≤ i ∨ x.N ≥ len
  ·rw [if_pos (by simpa using q2), if_pos q2]; exact ⟨_, rfl, rfl⟩
  ·rw [if_neg (by simpa using q2), if_neg q2]
   have hk : x.N.toNat < len := by omega
   have hkL : x.N.toNat < L.length := by rw [h.len]; exact hk
   have e : ix L x.N = some L[x.N.toNat] := by unfold ix; rw [if_pos (by omega), List.getElem?_eq_getElem hkL]
   obtain ⟨b, L', e1, e2⟩ := pjoin h hk ht ⟨hd.1, by omega⟩
   rw [e, Option.bind_some, e1, Option.bind_some]
   cases q3 : joinA (B x.N.toNat) d σ with
   | none =>
    rw [q3] at e2
    have e2 : b = false := e2
    rw [e2, if_pos (by simp)]
    exact ⟨_, rfl, rfl⟩
   | some a =>
    rw [q3] at e2
    obtain ⟨e2, e3⟩ := e2
    rw [e2, if_neg (by simp)]
    exact ⟨_, rfl, L', rfl, e3⟩
def PG (c : List I) (i : Nat) (g : Int) (L : List PS) (B : AB) : Prop :=
 ∃ G b, J4 c (c.drop i) i g L = some (Fl.ret (G, b)) ∧ match wk c.length i (c.drop i) B g with
  | some G' => b = true ∧ G = G'
  | none => b = false
set_option maxRecDepth 100000 in
theorem pstep {c : List I} (hc : c.length ≤ 2048) (hS : ∀ x ∈ c, x.S.length ≤ 100000) {i : Nat} {g : Int} {L : List PS} {B : AB} (hlt : i < c.length) (hR : PR c.length L B) (ih : i + 1 < c.length → ∀ g L B, PR c.length L B → PG c (i + 1) g L B) : PG c i g L B := by
 unfold PG at ih ⊢
 obtain ⟨s, hs⟩ : ∃ s, L[i]? = some s := ⟨L[i]'(by rw [hR.len]; exact hlt), List.getElem?_eq_getElem _⟩
 have hsx : ix L (i : Int) = some s := by unfold ix; rw [if_pos (by omega), Int.toNat_natCast]; exact hs
 obtain ⟨r1, r2⟩ := hR.bits i s hs
 rw [List.drop_eq_getElem_cons hlt]
 have hxS := hS c[i] (List.getElem_mem hlt)
 obtain ⟨t, l, e1, e2⟩ := shape_pure (x := c[i]) hxS
 generalize hx : c[i] = x at *
 rw [J4, hsx, Option.bind_some, e1, Option.bind_some, chk_bind (by constructor <;> omega), wk_cons]
 have hlast : decide ((i : Int) = ((c.length : Int) - 1)) = decide (i + 1 = c.length) := by rw [decide_eq_decide]; omega
 rw [hlast]
 have fail : ∀ {o : Option Int}, o = none → ∃ G b, some (Fl.ret (0, false)) = (some (Fl.ret (G, b)) : Option (Fl (Int × Bool) (Int × List PS))) ∧ match o with
  | some G' => b = true ∧ G = G'
  | none => b = false := fun h => ⟨0, false, rfl, by rw [h]⟩
 cases he : eff x with
 | none =>
  rw [if_pos (by simp)]
  exact fail (by simp [stA, he])
 | some tl =>
 obtain ⟨t', l'⟩ := tl
 obtain ⟨rfl, rfl⟩ := e2 t' l' he
 obtain ⟨b1, b2, b3, b4, b5, b6⟩ := eff_bd he
 cases hB : B i with
 | none =>
  rw [hB] at r1
  have r1 : s.reached = false := r1
  rw [if_pos (by simp [r1])]
  exact fail (by simp [stA, he, hB])
 | some p =>
 obtain ⟨d, σ⟩ := p
 rw [hB] at r1
 have r1 : s.reached = true := r1
 obtain ⟨h1, h2, h3, h4, h5⟩ := r2 d σ hB
 by_cases q1 : d < t
 ·rw [if_pos (by simp [h1, q1])]
  exact fail (by simp [stA, he, hB, q1])
 by_cases q2 : (x.Op = 12) ↔ (i + 1 = c.length)
 ·have e : (decide (x.Op = 12) == decide (i + 1 = c.length)) = true := by
   by_cases w2 : i + 1 = c.length
   ·simp [q2.2 w2, w2]
   ·have w1 : ¬ x.Op = 12 := fun w => w2 (q2.1 w)
    simp [w1, w2]
  rw [if_neg (by rw [e]; simp [r1, h1, q1])]
  have hload : (if decide (x.Op = 3) = true then (Jab s x.N).bind fun x77 => some (!x77) else some false) = some (decide (x.Op = 3 ∧ σ x.N = false)) := by
   by_cases w : x.Op = 3
   ·have := b6 (.inl w)
    rw [if_pos (by simpa using w), has_eq h4 this.1 this.2, Option.bind_some, h5 x.N this.1 this.2]
    cases σ x.N <;> simp [w]
   ·rw [if_neg (by simpa using w)]; simp [w]
  rw [hload, Option.bind_some]
  by_cases q3 : x.Op = 3 ∧ σ x.N = false
  ·rw [if_pos (by simpa using q3)]
   exact fail (by simp [stA, he, hB, q3])
  rw [if_neg (by simpa using q3), chk_bind (by simp only; constructor <;> omega), chk_bind (by simp only; constructor <;> omega), pstore (fun w => b6 (.inr w)), Option.bind_some]
  have hd : 0 ≤ d + (l - t) ∧ d + (l - t) ≤ i + 1 := by omega
  have hT : TR ⟨s.reached, s.depth + (l - t), ⟨(nxtW x s.stored).f0, (nxtW x s.stored).f1, (nxtW x s.stored).f2, (nxtW x s.stored).f3, (nxtW x s.stored).f4, (nxtW x s.stored).f5, (nxtW x s.stored).f6, (nxtW x s.stored).f7⟩⟩ (d + (l - t)) (nxt x σ) :=
   ⟨r1, by rw [h1], nxtW_ok h4 (fun w => b6 (.inr w)), nxtW_bits h4 (fun w => b6 (.inr w)) h5⟩
  obtain ⟨r, hr, hr2⟩ := pfar (x := x) hR hc hT hd
  simp only
  rw [hr, Option.bind_some]
  have hst : stA c.length i x B g = if x.Op = 12 then (if d = 0 then some (B, max (max g d) (d + (l - t))) else none) else (far c.length i x B (d + (l - t)) (nxt x σ)).bind fun B1 => (near i x B1 (d + (l - t)) (nxt x σ)).map fun B2 => (B2, max (max g d) (d + (l - t))) := by
   unfold stA
   rw [he, hB]
   simp only
   rw [if_neg]
   rintro (w | w | w)
   ·exact q1 w
   ·exact w q2
   ·exact q3 w
  rw [hst]
  by_cases q4 : i + 1 = c.length
  ·have q12 := q2.2 q4
   obtain ⟨rfl, rfl⟩ := b5 q12
   have hf : far c.length i x B (d + (0 - 0)) (nxt x σ) = some B := by unfold far isJ; rw [if_neg (by simp [q12])]
   rw [hf] at hr2
   obtain ⟨L1, rfl, _⟩ := hr2
   rw [el_go, if_pos (by simpa using q4), if_pos q12, h1]
   refine ⟨_, _, rfl, ?_⟩
   by_cases q5 : d = 0
   ·rw [if_pos q5, Option.bind_some]
    have : List.drop (i + 1) c = [] := List.drop_eq_nil_of_le (by omega)
    simp only
    rw [this]
    simp [wk, q5]
   ·rw [if_neg q5]
    simp [q5]
  ·have q12 : ¬ x.Op = 12 := fun w => q4 (q2.1 w)
   rw [if_neg q12]
   cases hfar : far c.length i x B (d + (l - t)) (nxt x σ) with
   | none =>
    rw [hfar] at hr2
    have hr2 : r = Fl.ret (0, false) := hr2
    rw [hr2, el_ret]
    exact ⟨_, _, rfl, rfl⟩
   | some B1 =>
    rw [hfar] at hr2
    obtain ⟨L1, rfl, hR1⟩ := hr2
    rw [el_go, if_neg (by simpa using q4), Option.bind_some]
    unfold near
    by_cases q9 : x.Op = 9
    ·rw [if_neg (by simpa using q9), if_pos q9]
     simp only [Option.map_some, Option.bind_some]
     have := ih (by omega) (max (max g d) (d + (l - t))) L1 B1 hR1
     rw [h1]
     exact this
    ·rw [if_pos (by simpa using q9), if_neg q9]
     have hk : i + 1 < c.length := by omega
     have hkL : i + 1 < L1.length := by rw [hR1.len]; exact hk
     have e3 : ix L1 ((i : Int) + 1) = some L1[i + 1] := by
      have := ixn (s := L1) hkL
      rw [← this]; congr 1
     obtain ⟨b, L2, e4, e5⟩ := pjoin hR1 hk hT ⟨hd.1, by omega⟩
     have e6 : (((i : Int) + 1)).toNat = i + 1 := by omega
     rw [e3, Option.bind_some, e6, e4, Option.bind_some]
     cases q6 : joinA (B1 (i + 1)) (d + (l - t)) (nxt x σ) with
     | none =>
      rw [q6] at e5
      have e5 : b = false := e5
      rw [e5, if_pos (by simp)]
      exact ⟨_, _, rfl, rfl⟩
     | some a =>
      rw [q6] at e5
      obtain ⟨e5, e7⟩ := e5
      rw [e5, if_neg (by simp)]
      simp only [Option.map_some, Option.bind_some]
      have := ih (by omega) (max (max g d) (d + (l - t))) L2 (updA B1 (i + 1) a) e7
      rw [h1]
      exact this
 ·have e : (decide (x.Op = 12) == decide (i + 1 = c.length)) = false := by
   by_cases w1 : x.Op = 12
   ·by_cases w2 : i + 1 = c.length
    ·exact absurd (by simp [w1, w2]) q2
    ·simp [w1, w2]
   ·by_cases w2 : i + 1 = c.length
    ·simp [w1, w2]
    ·exact absurd (by simp [w1, w2]) q2
  rw [if_pos (by rw [e]; simp)]
  exact fail (by simp [stA, he, hB, q2])
theorem pwalk {c : List I} (hc : c.length ≤ 2048) (hS : ∀ x ∈ c, x.S.length ≤ 100000) : ∀ (m i : Nat) (g : Int) (L : List PS) (B : AB), i + (m + 1) = c.length → PR c.length L B → PG c i g L B
 | 0, i, g, L, B, hi, hR => pstep hc hS (by omega) hR fun h => by omega
 | m + 1, i, g, L, B, hi, hR => pstep hc hS (by omega) hR fun h g L B hR => pwalk hc hS m (i + 1) g L B (by omega) hR
theorem walk_pure {c : List I} (hS : ∀ x ∈ c, x.S.length ≤ 100000) : ∃ G b, JaR c = some (G, b) ∧ match depthOf c with
  | some G' => b = true ∧ G = G'
  | none => b = false := by
 unfold JaR depthOf
 by_cases q : c.length < 1 ∨ c.length > 2048
 ·have e : (decide ((c.length : Int) < 1) || decide ((c.length : Int) > 2048)) = true := by
   simp only [Bool.or_eq_true, decide_eq_true_eq]; omega
  rw [if_pos e, if_pos q]
  exact ⟨_, _, rfl, rfl⟩
 ·have e : (decide ((c.length : Int) < 1) || decide ((c.length : Int) > 2048)) = false := by
   simp only [Bool.or_eq_false_iff, decide_eq_false_iff_not]; omega
  rw [if_neg (by rw [e]; simp), if_neg q]
  obtain ⟨m, hm⟩ : ∃ m, c.length = m + 1 := ⟨c.length - 1, by omega⟩
  have hz : ix (List.replicate (Int.toNat (c.length : Int)) ((⟨false, 0, (⟨0, 0, 0, 0, 0, 0, 0, 0⟩ : JD)⟩ : Je) : Je)) 0 = some ⟨false, 0, ⟨0, 0, 0, 0, 0, 0, 0, 0⟩⟩ := by
   rw [Int.toNat_natCast, hm]; rfl
  rw [chk_bind (by simp only [lim]; omega), hz, Option.bind_some, chk_bind (by simp only [szMax]; omega)]
  have hR : PR c.length ((List.replicate (Int.toNat (c.length : Int)) ((⟨false, 0, (⟨0, 0, 0, 0, 0, 0, 0, 0⟩ : JD)⟩ : Je) : Je)).set ((0 : Int).toNat) ⟨true, 0, ⟨0, 0, 0, 0, 0, 0, 0, 0⟩⟩) B0 := by
   rw [Int.toNat_natCast]
   refine ⟨by simp, fun i s hs => ?_⟩
   rw [show ((0 : Int)).toNat = 0 from rfl] at hs
   unfold B0
   by_cases q0 : i = 0
   ·subst q0
    rw [List.getElem?_set_self (by simp; omega)] at hs
    cases hs
    refine ⟨rfl, fun d σ h => ?_⟩
    simp only [if_true] at h
    cases h
    refine ⟨rfl, by omega, by omega, ?_, fun n _ _ => ?_⟩
    ·have z : W64 0 := ⟨by decide, by decide⟩
     exact ⟨z, z, z, z, z, z, z, z⟩
    ·have : ∀ k, (wl ⟨0, 0, 0, 0, 0, 0, 0, 0⟩).getD k 0 = 0 := fun k => by
      match k with
      | 0 | 1 | 2 | 3 | 4 | 5 | 6 | 7 => rfl
      | k + 8 => simp [wl]
     unfold bitW
     rw [this]
     simp
   ·rw [List.getElem?_set_ne (fun e => q0 e.symm)] at hs
    have := List.mem_of_getElem? hs
    rw [List.mem_replicate] at this
    rw [this.2, if_neg q0]
    exact ⟨rfl, fun d σ h => by cases h⟩
  obtain ⟨G, b, h1, h2⟩ := pwalk (by omega) hS m 0 0 _ B0 (by omega) hR
  rw [List.drop_zero] at h1 h2
  rw [h1, Option.bind_some, el_ret]
  exact ⟨G, b, rfl, h2⟩
theorem Check45_pure {c : List I} (hS : ∀ x ∈ c, x.S.length ≤ 100000) : Jat c = some (if (depthOf c).isSome = true then none else some 2) := by
 obtain ⟨G, b, h1, h2⟩ := walk_pure hS
 unfold Jat
 rw [h1, Option.bind_some]
 cases q : depthOf c with
 | none => rw [q] at h2; have h2 : b = false := h2; rw [h2]; rfl
 | some g => rw [q] at h2; rw [h2.1]; rfl
end Rt.Rc
set_option linter.unusedVariables false
set_option linter.unusedSimpArgs false
open Go Go.SL Go.Proofs Pl
namespace Rt.Rc
abbrev RS := Ji
def Asc (l : List Int) : Prop := l.Pairwise (· < ·)
theorem both_L2 {e : Int} : ∀ (b : List Int) (i : Nat) (y : List Int), Asc b → y.length ≤ 1000000 → JX e b i y = some (if e ∈ b then y ++ [e] else y)
 | [], i, y, _, _ => by simp [JX]
 | a :: b, i, y, h, hy => by
  obtain ⟨h1, h2⟩ := List.pairwise_cons.1 h
  rw [JX]
  by_cases q : e = a
  ·have hn : e ∉ b := fun hb => by have := h1 e hb; omega
   rw [if_pos (by simpa using q), chk_bind (by simp [lim]; omega)]
   have n2 : ∀ (l : List Int) (j : Nat) (z : List Int), (∀ w ∈ l, e < w) → JX e l j z = some z := fun l => by
    induction l with
    | nil => intro j z _; simp [JX]
    | cons w l ih =>
     intro j z hl
     have := hl w (by simp)
     rw [JX, if_neg (by simp; omega)]
     exact ih (j + 1) z fun v hv => hl v (by simp [hv])
   rw [n2 b _ _ fun w hw => by rw [q]; exact h1 w hw, if_pos (by simp [q])]
  ·rw [if_neg (by simpa using q), both_L2 b (i + 1) y h2 hy]
   simp [q]
theorem both_L0 {b : List Int} (hb : Asc b) (hbl : b.length ≤ 100000) : ∀ (a : List Int) (i : Nat) (y : List Int), y.length + a.length ≤ 1000000 → Jaq b a i y = some (y ++ a.filter (fun n => decide (n ∈ b)))
 | [], i, y, _ => by simp [Jaq]
 | e :: a, i, y, h => by
  simp only [List.length_cons] at h
  rw [Jaq, chk_bind (by simp only [szMax]; omega), both_L2 b 0 y hb (by omega), Option.bind_some]
  by_cases q : e ∈ b
  ·rw [if_pos q, both_L0 hb hbl a (i + 1) _ (by simp only [List.length_append, List.length_cons, List.length_nil]; omega)]
   simp [q]
  ·rw [if_neg q, both_L0 hb hbl a (i + 1) _ (by omega)]
   simp [q]
theorem both_eq {a b : List Int} (hb : Asc b) (ha : a.length ≤ 100000) (hbl : b.length ≤ 100000) : Jbb a b = some (a.filter (fun n => decide (n ∈ b))) := by
 unfold Jbb
 rw [chk_bind (by simp only [szMax]; omega), both_L0 hb hbl a 0 [] (by simp; omega), Option.bind_some, List.nil_append]
theorem ints1 {l : List Int} {n : Int} (hl : Asc l) : Jbv (l.filter (fun m => decide (m ∈ [n]))) [n] = some (decide (n ∈ l)) := by
 have e : l.filter (fun m => decide (m ∈ [n])) = if n ∈ l then [n] else [] := by
  induction l with
  | nil => rfl
  | cons a l ih =>
   obtain ⟨h1, h2⟩ := List.pairwise_cons.1 hl
   have ih := ih h2
   by_cases q : a = n
   ·have hn : n ∉ l := fun h => by have := h1 n h; omega
    rw [if_neg hn] at ih
    rw [List.filter_cons, ih]
    simp [q]
   ·have q' : ¬ n = a := fun h => q h.symm
    rw [List.filter_cons, ih]
    simp [q, q']
 rw [e]
 by_cases q : n ∈ l
 ·rw [if_pos q, decide_eq_true q]
  unfold Jbv
  rw [if_neg (by simp), chk_bind (by simp [szMax]), JaO, show ix [n] (((0 : Nat)) : Int) = some n from rfl, Option.bind_some, if_neg (by simp), JaO]
  rfl
 ·rw [if_neg q, decide_eq_false q]
  unfold Jbv
  rw [if_pos (by simp)]
def wth (n : Int) : List Int → List Int
 | [] => [n]
 | e :: l => if n < e then n :: e :: l else if n = e then e :: l else e :: wth n l
theorem wth_mem {n m : Int} : ∀ {l : List Int}, m ∈ wth n l ↔ m = n ∨ m ∈ l
 | [] => by simp [wth]
 | e :: l => by
  rw [wth]
  split
  ·simp
  ·split
   ·rename_i h; subst h; simp
   ·rw [List.mem_cons, wth_mem, List.mem_cons]
    constructor
    ·rintro (h | h | h)
     ·exact .inr (.inl h)
     ·exact .inl h
     ·exact .inr (.inr h)
    ·rintro (h | h | h)
     ·exact .inr (.inl h)
     ·exact .inl h
     ·exact .inr (.inr h)
theorem wth_asc {n : Int} : ∀ {l : List Int}, Asc l → Asc (wth n l)
 | [], _ => by simp [wth, Asc]
 | e :: l, h => by
  obtain ⟨h1, h2⟩ := List.pairwise_cons.1 h
  rw [wth]
  split
  ·rename_i hn
   refine List.pairwise_cons.2 ⟨fun m hm => ?_, h⟩
   rcases List.mem_cons.1 hm with rfl | hm
   ·exact hn
   ·have := h1 m hm; omega
  ·split
   ·exact h
   ·refine List.pairwise_cons.2 ⟨fun m hm => ?_, wth_asc h2⟩
    rcases wth_mem.1 hm with rfl | hm
    ·omega
    ·exact h1 m hm
theorem wth_len {n : Int} : ∀ {l : List Int}, (wth n l).length ≤ l.length + 1
 | [] => by simp [wth]
 | e :: l => by
  rw [wth]
  split
  ·simp
  ·split
   ·simp
   ·have := wth_len (n := n) (l := l)
    simp only [List.length_cons]; omega
theorem with_true {n : Int} : ∀ (l : List Int) (i : Nat) (y : List Int), (∀ m ∈ l, n < m) → y.length + l.length ≤ 1000000 → JR n l i y true = some (y ++ l, true)
 | [], i, y, _, _ => by simp [JR]
 | e :: l, i, y, h, hl => by
  simp only [List.length_cons] at hl
  have := h e (by simp)
  rw [JR, if_neg (by simp), if_pos (by simp; omega), chk_bind (by simp [lim]; omega), with_true l (i + 1) _ (fun m hm => h m (by simp [hm])) (by simp; omega)]
  simp
theorem with_false {n : Int} : ∀ (l : List Int) (i : Nat) (y : List Int), Asc l → y.length + l.length ≤ 100000 → ∃ z b, JR n l i y false = some (z, b) ∧ (if b = true then z else z ++ [n]) = y ++ wth n l ∧ z.length ≤ 1000000
 | [], i, y, _, hl => ⟨y, false, rfl, rfl, by omega⟩
 | e :: l, i, y, h, hl => by
  simp only [List.length_cons] at hl
  obtain ⟨h1, h2⟩ := List.pairwise_cons.1 h
  rw [JR, wth]
  by_cases q : n ≤ e
  ·rw [if_pos (by simpa using q), chk_bind (by simp [lim]; omega)]
   by_cases q2 : e = n
   ·rw [if_neg (by simpa using q2), with_true l (i + 1) _ (fun m hm => by have := h1 m hm; omega) (by simp; omega), if_neg (by omega), if_pos q2.symm]
    exact ⟨_, _, rfl, by simp [q2], by simp; omega⟩
   ·rw [if_pos (by simpa using q2), chk_bind (by simp [lim]; omega), with_true l (i + 1) _ (fun m hm => by have := h1 m hm; omega) (by simp; omega), if_pos (by omega)]
    exact ⟨_, _, rfl, by simp, by simp; omega⟩
  ·rw [if_neg (by simpa using q), if_pos (by simp; omega), chk_bind (by simp [lim]; omega), if_neg (by omega), if_neg (by omega)]
   obtain ⟨z, b, e1, e2, e3⟩ := with_false l (i + 1) (y ++ [e]) h2 (by simp; omega)
   exact ⟨z, b, e1, by rw [e2]; simp, e3⟩
theorem with_eq {l : List Int} {n : Int} (h : Asc l) (hl : l.length ≤ 10000) : Jbl l n = some (wth n l) := by
 unfold Jbl
 obtain ⟨z, b, e1, e2, e3⟩ := with_false (n := n) l 0 [] h (by simp; omega)
 rw [chk_bind (by simp only [szMax]; omega), e1, Option.bind_some]
 cases b with
 | true => rw [if_neg (by simp)]; simpa using e2
 | false => rw [if_pos (by simp), chk_bind (by simp [lim]; omega)]; simpa using e2
structure SL (l : List Int) (σ : Int → Bool) : Prop where
 asc : Asc l
 rng : ∀ n ∈ l, 0 ≤ n ∧ n ≤ 511
 mem : ∀ n : Int, 0 ≤ n → n ≤ 511 → (n ∈ l ↔ σ n = true)
structure RR (len : Nat) (L : List RS) (B : AB) : Prop where
 last : B len = none
 len : L.length = len + 1
 bits : ∀ i s, L[i]? = some s → s.reached = (B i).isSome ∧ ∀ d σ, B i = some (d, σ) → s.depth = d ∧ 0 ≤ d ∧ d ≤ i ∧ s.stored.length ≤ i ∧ SL s.stored σ
theorem SL.both {a b : List Int} {σ τ : Int → Bool} (ha : SL a σ) (hb : SL b τ) : SL (a.filter (fun n => decide (n ∈ b))) (fun n => σ n && τ n) :=
 ⟨ha.asc.filter _, fun n hn => ha.rng n (List.mem_filter.1 hn).1, fun n h0 h1 => by
  rw [List.mem_filter, ha.mem n h0 h1, decide_eq_true_eq, hb.mem n h0 h1]; simp⟩
theorem SL.with {x : I} {l : List Int} {σ : Int → Bool} (h : SL l σ) (q : x.Op = 4) (hx : 0 ≤ x.N ∧ x.N ≤ 511) : SL (wth x.N l) (nxt x σ) :=
 ⟨wth_asc h.asc, fun n hn => by rcases wth_mem.1 hn with rfl | hn; exact hx; exact h.rng n hn, fun n h0 h1 => by
  unfold nxt
  rw [if_pos q, wth_mem, h.mem n h0 h1]; simp⟩
theorem rjoin {len k : Nat} {L : List RS} {B : AB} {l : List Int} {d : Int} {σ : Int → Bool} (h : RR len L B) (hk : k < len) (hl : len ≤ 2048) (ht : SL l σ) (hd : 0 ≤ d ∧ d ≤ k) (hll : l.length ≤ k) :
  ∃ s, ix L (k : Int) = some s ∧ ∃ s' b, Ja0 s d l = some (s', b) ∧ match joinA (B k) d σ with
   | none => b = false
   | some a => b = true ∧ RR len (L.set k s') (updA B k a) := by
 have hk' : k < L.length := by rw [h.len]; omega
 obtain ⟨s, hs⟩ : ∃ s, L[k]? = some s := ⟨L[k], List.getElem?_eq_getElem _⟩
 obtain ⟨h1, h2⟩ := h.bits k s hs
 have up : ∀ (a : AS) (s' : RS), (s'.reached = a.isSome ∧ ∀ d σ, a = some (d, σ) → s'.depth = d ∧ 0 ≤ d ∧ d ≤ k ∧ s'.stored.length ≤ k ∧ SL s'.stored σ) → RR len (L.set k s') (updA B k a) := fun a s' ha =>
  ⟨by unfold updA; rw [if_neg (by omega)]; exact h.last, by rw [List.length_set]; exact h.len, fun i z hz => by
   unfold updA
   by_cases q : i = k
   ·subst q
    rw [List.getElem?_set_self hk'] at hz
    cases hz
    simp only [if_true]
    exact ha
   ·rw [List.getElem?_set_ne (fun e => q e.symm)] at hz
    simp only [if_neg q]
    exact h.bits i z hz⟩
 refine ⟨s, by unfold ix; rw [if_pos (by omega), Int.toNat_natCast]; exact hs, ?_⟩
 unfold Ja0
 cases hB : B k with
 | none =>
  rw [hB] at h1
  have h1 : s.reached = false := h1
  rw [if_pos (by simp [h1])]
  exact ⟨_, _, rfl, rfl, up (some (d, σ)) _ ⟨rfl, fun d' σ' e => by cases e; exact ⟨rfl, hd.1, hd.2, hll, ht⟩⟩⟩
 | some p =>
  obtain ⟨d0, σ0⟩ := p
  rw [hB] at h1
  have h1 : s.reached = true := h1
  obtain ⟨g1, g2, g3, g4, g5⟩ := h2 d0 σ0 hB
  rw [if_neg (by simp [h1]), both_eq ht.asc (by omega) (by omega), Option.bind_some]
  refine ⟨_, _, rfl, ?_⟩
  simp only [joinA]
  by_cases q : d0 = d
  ·rw [if_pos q]
   simp only
   refine ⟨by simp [g1, q], up _ _ ⟨rfl, fun d' σ' e => ?_⟩⟩
   cases e
   refine ⟨q.symm, g2, g3, ?_, g5.both ht⟩
   have := List.length_filter_le (fun n => decide (n ∈ l)) s.stored
   simp only
   omega
  ·rw [if_neg q]
   simp [g1, q]
theorem bsr {α : Type} {o : Option α} : o.bind (fun x => some x) = o := by cases o <;> rfl
theorem far_near {len i : Nat} {x : I} {B : AB} {d : Int} {σ : Int → Bool} : (far len i x B d σ).bind (fun B1 => near i x B1 d σ) = (near i x B d σ).bind (fun B1 => far len i x B1 d σ) := by
 unfold far near
 cases q : isJ x with
 | false =>
  simp only [Bool.false_eq_true, if_false, Option.bind_some]
  exact bsr.symm
 | true =>
  simp only [if_true]
  by_cases q9 : x.Op = 9
  ·simp only [if_pos q9, Option.bind_some]
   exact bsr
  ·simp only [if_neg q9]
   by_cases q2 : x.N ≤ i ∨ x.N ≥ len
   ·simp only [if_pos q2, Option.bind_none]
    cases joinA (B (i + 1)) d σ <;> rfl
   ·simp only [if_neg q2]
    by_cases e : x.N.toNat = i + 1
    ·rw [e]
    ·have e1 : ∀ a, updA B x.N.toNat a (i + 1) = B (i + 1) := fun a => by unfold updA; rw [if_neg (fun h => e h.symm)]
     have e2 : ∀ a, updA B (i + 1) a x.N.toNat = B x.N.toNat := fun a => by unfold updA; rw [if_neg e]
     cases q3 : joinA (B x.N.toNat) d σ with
     | none =>
      cases q4 : joinA (B (i + 1)) d σ with
      | none => rfl
      | some b =>
       simp only [Option.map_some, Option.map_none, Option.bind_some, Option.bind_none]
       rw [e2, q3]; rfl
     | some a =>
      cases q4 : joinA (B (i + 1)) d σ with
      | none =>
       simp only [Option.map_some, Option.map_none, Option.bind_some, Option.bind_none]
       rw [e1, q4]; rfl
      | some b =>
       simp only [Option.map_some, Option.bind_some]
       rw [e1, e2, q3, q4]
       simp only [Option.map_some]
       congr 1
       funext j
       unfold updA
       by_cases w1 : j = i + 1
       ·have : ¬ j = x.N.toNat := fun h => e (by omega)
        simp [w1, show ¬ i + 1 = x.N.toNat from fun h => e h.symm]
       ·simp [w1]
theorem rway {c : List I} {i k : Nat} {x : I} {s0 : RS} {w : Int × Int × Bool} {l ws : List Int} {j : Nat} {L : List RS} {B : AB} {d : Int} {σ : Int → Bool} (h : RR c.length L B) (hc : c.length ≤ 2048) (hi : i < k) (hk : k < c.length) (ht : SL l σ) (hd : (s0.depth - w.1) + w.2.1 = d) (hd0 : 0 ≤ d ∧ d ≤ k) (hll : l.length ≤ k) :
  match joinA (B k) d σ with
   | none => Js i (c.map cv) (cv x) s0 w l ((k : Int) :: ws) j L = some (Fl.ret (0, false))
   | some a => ∃ L', Js i (c.map cv) (cv x) s0 w l ((k : Int) :: ws) j L = Js i (c.map cv) (cv x) s0 w l ws (j + 1) L' ∧ RR c.length L' (updA B k a) := by
 obtain ⟨s, e1, s', b, e2, e3⟩ := rjoin h hk hc ht hd0 hll
 have e : Js i (c.map cv) (cv x) s0 w l ((k : Int) :: ws) j L = if (!b) = true then some (Fl.ret (0, false)) else Js i (c.map cv) (cv x) s0 w l ws (j + 1) (L.set k s') := by
  rw [Js, if_neg (by simp; omega), if_neg (by simp; omega), e1, Option.bind_some, hd, e2, Option.bind_some, Option.bind_some, Int.toNat_natCast]
 cases q : joinA (B k) d σ with
 | none =>
  rw [q] at e3
  have e3 : b = false := e3
  simp only
  rw [e, e3]; rfl
 | some a =>
  rw [q] at e3
  obtain ⟨e3, e4⟩ := e3
  simp only
  refine ⟨_, ?_, e4⟩
  rw [e, e3]; rfl
theorem rbad {c : List I} {i : Nat} {x : I} {s0 : RS} {w : Int × Int × Bool} {l ws : List Int} {j : Nat} {L : List RS} {n : Int} (h : n ≤ i ∨ n ≥ c.length) (hx : x.Op ≠ 12) : Js i (c.map cv) (cv x) s0 w l (n :: ws) j L = some (Fl.ret (0, false)) := by
 rw [Js]
 by_cases q : n ≤ i
 ·rw [if_pos (by simpa using q)]
 ·rw [if_neg (by simpa using q), if_pos]
  have : n ≥ c.length := by omega
  simp [cv, hx, this]
end Rt.Rc
set_option linter.unusedVariables false
set_option linter.unusedSimpArgs false
open Go Go.SL Go.Proofs Pl
namespace Rt.Rc
def RG (c : List I) (i : Nat) (g : Int) (L : List RS) (B : AB) : Prop :=
 ∃ r, Jac (c.map cv) ((c.drop i).map cv) i g L = some r ∧ match wk c.length i (c.drop i) B g with
  | some G => ∃ L', r = Fl.go (G, L')
  | none => r = Fl.ret (0, false)
set_option maxRecDepth 100000 in
theorem rstep {c : List I} (hc : c.length ≤ 2048) (hS : ∀ x ∈ c, x.S.length ≤ 100000) {i : Nat} {g : Int} {L : List RS} {B : AB} (hlt : i < c.length) (hR : RR c.length L B) (ih : ∀ g L B, (i + 1 < c.length → RR c.length L B) → RG c (i + 1) g L B) : RG c i g L B := by
 unfold RG at ih ⊢
 obtain ⟨s, hs⟩ : ∃ s, L[i]? = some s := ⟨L[i]'(by rw [hR.len]; omega), List.getElem?_eq_getElem _⟩
 have hsx : ix L (i : Int) = some s := by unfold ix; rw [if_pos (by omega), Int.toNat_natCast]; exact hs
 obtain ⟨r1, r2⟩ := hR.bits i s hs
 rw [List.drop_eq_getElem_cons hlt, List.map_cons]
 have hxS := hS c[i] (List.getElem_mem hlt)
 obtain ⟨t, l, e1, e2⟩ := effect_pure (x := c[i]) hxS
 generalize hx : c[i] = x at *
 rw [Jac, e1, Option.bind_some, hsx, Option.bind_some, wk_cons]
 have hlast : decide ((i : Int) = (((c.map cv).length : Int) - 1)) = decide (i + 1 = c.length) := by rw [decide_eq_decide, List.length_map]; omega
 rw [hlast, chk_bind (by rw [List.length_map]; constructor <;> omega)]
 have fail : ∀ {o : Option Int}, o = none → ∃ r, some (Fl.ret (0, false)) = (some r : Option (Fl (Int × Bool) (Int × List RS))) ∧ match o with
  | some G => ∃ L', r = Fl.go (G, L')
  | none => r = Fl.ret (0, false) := fun h => ⟨_, rfl, by rw [h]⟩
 cases he : eff x with
 | none =>
  rw [if_pos (by simp), Option.bind_some, if_pos rfl]
  exact fail (by simp [stA, he])
 | some tl =>
 obtain ⟨t', l'⟩ := tl
 obtain ⟨rfl, rfl⟩ := e2 t' l' he
 obtain ⟨b1, b2, b3, b4, b5, b6⟩ := eff_bd he
 cases hB : B i with
 | none =>
  rw [hB] at r1
  have r1 : s.reached = false := r1
  rw [if_pos (by simp [r1]), Option.bind_some, if_pos rfl]
  exact fail (by simp [stA, he, hB])
 | some p =>
 obtain ⟨d, σ⟩ := p
 rw [hB] at r1
 have r1 : s.reached = true := r1
 obtain ⟨h1, h2, h3, h4, h5⟩ := r2 d σ hB
 by_cases q1 : d < t
 ·rw [if_pos (by simp [h1, q1]), Option.bind_some, if_pos rfl]
  exact fail (by simp [stA, he, hB, q1])
 rw [if_neg (by simp [r1, h1, q1]), Option.bind_some]
 have hcv : (cv x).Op = x.Op := rfl
 have hcn : (cv x).N = x.N := rfl
 rw [hcv, hcn]
 by_cases q2 : (x.Op = 12) ↔ (i + 1 = c.length)
 ·have e : (decide (x.Op = 12) == decide (i + 1 = c.length)) = true := by
   by_cases w2 : i + 1 = c.length
   ·simp [q2.2 w2, w2]
   ·have w1 : ¬ x.Op = 12 := fun w => w2 (q2.1 w)
    simp [w1, w2]
  rw [e, if_neg (by simp)]
  by_cases q0 : x.Op = 12 ∧ d > 0
  ·rw [if_pos (by simp [q0.1, h1, q0.2])]
   have hn3 : ¬ x.Op = 3 := by omega
   refine fail ?_
   have : ¬ d = 0 := by omega
   simp [stA, he, hB, q1, q2, q0.1, this, hn3]
  rw [if_neg (by simp [h1]; intro w; omega)]
  have hload : (if decide (x.Op = 3) = true then (Jbb s.stored [x.N]).bind fun x93 => (Jbv x93 [x.N]).bind fun x97 => some (!x97) else some false) = some (decide (x.Op = 3 ∧ σ x.N = false)) := by
   by_cases w : x.Op = 3
   ·have := b6 (.inl w)
    rw [if_pos (by simpa using w), both_eq (by simp [Asc]) (by omega) (by simp), Option.bind_some, ints1 h5.asc, Option.bind_some]
    have hm := h5.mem x.N this.1 this.2
    by_cases w2 : x.N ∈ s.stored
    ·simp [w, w2, hm.1 w2]
    ·have : σ x.N = false := by
      cases q : σ x.N with
      | false => rfl
      | true => exact absurd (hm.2 q) w2
     simp [w, w2, this]
   ·rw [if_neg (by simpa using w)]; simp [w]
  rw [hload, Option.bind_some]
  by_cases q3 : x.Op = 3 ∧ σ x.N = false
  ·rw [if_pos (by simpa using q3)]
   exact fail (by simp [stA, he, hB, q3])
  rw [if_neg (by simpa using q3), chk_bind (by simp only; constructor <;> omega), chk_bind (by simp only; constructor <;> omega)]
  have hst : stA c.length i x B g = if x.Op = 12 then (if d = 0 then some (B, max (max g d) (d + (l - t))) else none) else (far c.length i x B (d + (l - t)) (nxt x σ)).bind fun B1 => (near i x B1 (d + (l - t)) (nxt x σ)).map fun B2 => (B2, max (max g d) (d + (l - t))) := by
   unfold stA
   rw [he, hB]
   simp only
   rw [if_neg]
   rintro (w | w | w)
   ·exact q1 w
   ·exact w q2
   ·exact q3 w
  rw [hst]
  obtain ⟨sl, hsl, hSL, hsll⟩ : ∃ sl, (if decide (x.Op = 4) = true then (Jbl s.stored x.N).bind fun x114 => some x114 else some s.stored : Option (List Int)) = some sl ∧ SL sl (nxt x σ) ∧ sl.length ≤ i + 1 := by
   by_cases w : x.Op = 4
   ·have := b6 (.inr w)
    rw [if_pos (by simpa using w), with_eq h5.asc (by omega), Option.bind_some]
    have hw := wth_len (n := x.N) (l := s.stored)
    exact ⟨_, rfl, h5.with w this, by omega⟩
   ·rw [if_neg (by simpa using w)]
    refine ⟨_, rfl, ?_, by omega⟩
    have : nxt x σ = σ := by unfold nxt; rw [if_neg w]
    rw [this]; exact h5
  rw [hsl, Option.bind_some]
  have hmx : ∀ a b : Int, max (max g s.depth) ((s.depth - t) + l) = max (max g d) (d + (l - t)) := fun _ _ => by rw [h1]; congr 1; omega
  have hdd : (s.depth - t) + l = d + (l - t) := by rw [h1]; omega
  by_cases q12 : x.Op = 12
  ·-- the end
   have q4 := q2.1 q12
   obtain ⟨rfl, rfl⟩ := b5 q12
   have d0 : d = 0 := by omega
   rw [if_pos q12, if_pos d0, if_neg (by simp [q12]), Option.bind_some, if_neg (by simp [q12]), Option.bind_some, chk_bind (by simp [szMax])]
   have hkL : c.length < L.length := by rw [hR.len]; omega
   have hlx : ix L ((i : Int) + 1) = some L[c.length] := by
    have := ixn (s := L) hkL
    rw [← this]; congr 1; omega
   have hz : (L[c.length]).reached = false := by
    have := (hR.bits c.length _ (List.getElem?_eq_getElem hkL)).1
    rw [hR.last] at this; exact this
   rw [Js, if_neg (by simp only [decide_eq_true_eq]; omega), if_neg (by simp [cv, q12]), hlx, Option.bind_some, Ja0, if_pos (by simp [hz]), Option.bind_some, Option.bind_some, if_neg (by simp), Js, Option.bind_some, el_go, Option.bind_some]
   simp only
   rw [hmx 0 0]
   exact ih _ _ B fun h => by omega
  ·have q4 : ¬ i + 1 = c.length := fun w => q12 (q2.2 w)
   rw [if_neg q12, show (far c.length i x B (d + (l - t)) (nxt x σ)).bind (fun B1 => (near i x B1 (d + (l - t)) (nxt x σ)).map fun B2 => (B2, max (max g d) (d + (l - t)))) = ((far c.length i x B (d + (l - t)) (nxt x σ)).bind (fun B1 => near i x B1 (d + (l - t)) (nxt x σ))).map fun B2 => (B2, max (max g d) (d + (l - t))) by
    cases far c.length i x B (d + (l - t)) (nxt x σ) <;> rfl, far_near]
   have fin : ∀ (o : Option (List RS)) (a : Option AB), (match a with | none => o = none | some B' => ∃ L', o = some L' ∧ RR c.length L' B') → ∃ r, ((match o with | none => some (Fl.ret (0, false)) | some L' => some (Fl.go L') : Option (Fl (Int × Bool) (List RS))).bind fun s2 => s2.el (fun r => some (Fl.ret r)) fun t2 => Jac (c.map cv) ((c.drop (i + 1)).map cv) (i + 1) (max (max g s.depth) ((s.depth - t) + l)) t2) = some r ∧ match (a.map fun B2 => (B2, max (max g d) (d + (l - t)))).bind fun r => wk c.length (i + 1) (c.drop (i + 1)) r.1 r.2 with
     | some G => ∃ L', r = Fl.go (G, L')
     | none => r = Fl.ret (0, false) := fun o a h => by
    cases a with
    | none =>
     have h : o = none := h
     subst h
     exact ⟨_, rfl, rfl⟩
    | some B' =>
     obtain ⟨L', rfl, hR'⟩ := h
     simp only [Option.bind_some, el_go, Option.map_some]
     rw [hmx 0 0]
     exact ih _ L' B' fun _ => hR'
   by_cases q9 : x.Op = 9
   ·-- a jump
    have hj : isJ x = true := by simp [isJ, q9]
    rw [if_pos (by simpa using q9), Option.bind_some, if_neg (by simp [q9]), Option.bind_some, chk_bind (by simp [szMax])]
    have hnear : near i x B (d + (l - t)) (nxt x σ) = some B := by unfold near; rw [if_pos q9]
    rw [hnear, Option.bind_some]
    unfold far
    rw [if_pos hj]
    by_cases q5 : x.N ≤ i ∨ x.N ≥ c.length
    ·rw [if_pos q5, rbad q5 q12]
     exact fin none none rfl
    ·rw [if_neg q5]
     obtain ⟨k, hk⟩ : ∃ k : Nat, x.N = (k : Int) := ⟨x.N.toNat, by omega⟩
     have hw := rway (x := x) (s0 := s) (w := (t, l, (some (t, l)).isSome)) (ws := []) (j := 0) hR hc (show i < k by omega) (show k < c.length by omega) hSL hdd ⟨by omega, by omega⟩ (by omega)
     rw [hk, Int.toNat_natCast]
     cases q6 : joinA (B k) (d + (l - t)) (nxt x σ) with
     | none =>
      rw [q6] at hw
      simp only at hw
      rw [hw]
      exact fin none none rfl
     | some a =>
      rw [q6] at hw
      obtain ⟨L', w1, w2⟩ := hw
      rw [w1, Js]
      exact fin (some L') (some (updA B k a)) ⟨L', rfl, w2⟩
   ·rw [if_neg (by simpa using q9), Option.bind_some]
    have hw := rway (x := x) (s0 := s) (w := (t, l, (some (t, l)).isSome)) (ws := if x.Op = 10 then [x.N] else []) (j := 0) hR hc (show i < i + 1 by omega) (show i + 1 < c.length by omega) hSL hdd ⟨by omega, by omega⟩ hsll
    have hws : (if decide (x.Op = 10) = true then (chk (([((i : Int) + 1)] : List Int).length + [x.N].length ≤ lim)).bind fun _ => some ([((i : Int) + 1)] ++ [x.N]) else some [((i : Int) + 1)] : Option (List Int)) = some (((i + 1 : Nat) : Int) :: if x.Op = 10 then [x.N] else []) := by
     by_cases w : x.Op = 10
     ·rw [if_pos (by simpa using w), chk_bind (by simp [lim]), if_pos w]; rfl
     ·rw [if_neg (by simpa using w), if_neg w]; rfl
    rw [hws, Option.bind_some, chk_bind (by split <;> simp [szMax])]
    unfold near
    rw [if_neg q9]
    cases q6 : joinA (B (i + 1)) (d + (l - t)) (nxt x σ) with
    | none =>
     rw [q6] at hw
     simp only at hw
     rw [hw]
     exact fin none none rfl
    | some a =>
     rw [q6] at hw
     obtain ⟨L', w1, w2⟩ := hw
     rw [w1]
     simp only [Option.map_some, Option.bind_some]
     unfold far
     by_cases q10 : x.Op = 10
     ·have hj : isJ x = true := by simp [isJ, q10]
      rw [if_pos q10, if_pos hj]
      by_cases q5 : x.N ≤ i ∨ x.N ≥ c.length
      ·rw [if_pos q5, rbad q5 q12]
       exact fin none none rfl
      ·rw [if_neg q5]
       obtain ⟨k, hk⟩ : ∃ k : Nat, x.N = (k : Int) := ⟨x.N.toNat, by omega⟩
       have hw2 := rway (x := x) (s0 := s) (w := (t, l, (some (t, l)).isSome)) (ws := []) (j := 1) w2 hc (show i < k by omega) (show k < c.length by omega) hSL hdd ⟨by omega, by omega⟩ (by omega)
       rw [hk, Int.toNat_natCast]
       cases q7 : joinA (updA B (i + 1) a k) (d + (l - t)) (nxt x σ) with
       | none =>
        rw [q7] at hw2
        simp only at hw2
        rw [hw2]
        exact fin none none rfl
       | some a2 =>
        rw [q7] at hw2
        obtain ⟨L2, v1, v2⟩ := hw2
        rw [v1, Js]
        exact fin (some L2) (some (updA (updA B (i + 1) a) k a2)) ⟨L2, rfl, v2⟩
     ·have hj : isJ x = false := by simp [isJ, q9, q10]
      rw [if_neg q10, if_neg (by simp [hj]), Js]
      exact fin (some L') (some (updA B (i + 1) a)) ⟨L', rfl, w2⟩
 ·have e : (decide (x.Op = 12) == decide (i + 1 = c.length)) = false := by
   by_cases w1 : x.Op = 12
   ·by_cases w2 : i + 1 = c.length
    ·exact absurd (by simp [w1, w2]) q2
    ·simp [w1, w2]
   ·by_cases w2 : i + 1 = c.length
    ·simp [w1, w2]
    ·exact absurd (by simp [w1, w2]) q2
  rw [e, if_pos (by simp)]
  exact fail (by simp [stA, he, hB, q2])
theorem rwalk {c : List I} (hc : c.length ≤ 2048) (hS : ∀ x ∈ c, x.S.length ≤ 100000) : ∀ (m i : Nat) (g : Int) (L : List RS) (B : AB), i + m = c.length → (i < c.length → RR c.length L B) → RG c i g L B
 | 0, i, g, L, B, hi, _ => by
  unfold RG
  rw [List.drop_eq_nil_of_le (by omega)]
  exact ⟨_, rfl, L, rfl⟩
 | m + 1, i, g, L, B, hi, hR => rstep hc hS (by omega) (hR (by omega)) fun g L B hR => rwalk hc hS m (i + 1) g L B (by omega) hR
theorem Depth_pure {c : List I} (hS : ∀ x ∈ c, x.S.length ≤ 100000) : Jbw (c.map cv) = some (match depthOf c with
  | some G => (G, true)
  | none => (0, false)) := by
 unfold Jbw depthOf
 rw [List.length_map]
 by_cases q : c.length < 1 ∨ c.length > 2048
 ·have e : (decide ((c.length : Int) < 1) || decide ((c.length : Int) > 2048)) = true := by
   simp only [Bool.or_eq_true, decide_eq_true_eq]; omega
  rw [if_pos e, if_pos q]
 ·have e : (decide ((c.length : Int) < 1) || decide ((c.length : Int) > 2048)) = false := by
   simp only [Bool.or_eq_false_iff, decide_eq_false_iff_not]; omega
  rw [if_neg (by rw [e]; simp), if_neg q]
  have hn : Int.toNat ((c.length : Int) + 1) = c.length + 1 := by omega
  have hz : ix (List.replicate (Int.toNat ((c.length : Int) + 1)) ((⟨false, 0, []⟩ : Ji) : Ji)) 0 = some ⟨false, 0, []⟩ := by
   rw [hn]; rfl
  rw [chk_bind (by constructor <;> omega), chk_bind (by simp only [lim]; omega), hz, Option.bind_some, chk_bind (by simp only [szMax]; omega)]
  have hR : RR c.length ((List.replicate (Int.toNat ((c.length : Int) + 1)) ((⟨false, 0, []⟩ : Ji) : Ji)).set ((0 : Int).toNat) ⟨true, 0, []⟩) B0 := by
   rw [hn]
   refine ⟨by unfold B0; rw [if_neg (by omega)], by simp, fun i s hs => ?_⟩
   rw [show ((0 : Int)).toNat = 0 from rfl] at hs
   unfold B0
   by_cases q0 : i = 0
   ·subst q0
    rw [List.getElem?_set_self (by simp)] at hs
    cases hs
    refine ⟨rfl, fun d σ h => ?_⟩
    simp only [if_true] at h
    cases h
    exact ⟨rfl, by omega, by omega, by simp, by simp [Asc], fun n hn => (by cases hn), fun n _ _ => by simp⟩
   ·rw [List.getElem?_set_ne (fun e => q0 e.symm)] at hs
    have := List.mem_of_getElem? hs
    rw [List.mem_replicate] at this
    rw [this.2, if_neg q0]
    exact ⟨rfl, fun d σ h => by cases h⟩
  obtain ⟨r, h1, h2⟩ := rwalk (by omega) hS c.length 0 0 _ B0 (by omega) fun _ => hR
  rw [List.drop_zero] at h1 h2
  simp only
  rw [h1, Option.bind_some]
  cases q3 : wk c.length 0 c B0 0 with
  | none => rw [q3] at h2; have h2 : r = Fl.ret (0, false) := h2; rw [h2, el_ret]
  | some G => rw [q3] at h2; obtain ⟨L', rfl⟩ := h2; rw [el_go]
end Rt.Rc
set_option linter.unusedVariables false
set_option linter.unusedSimpArgs false
open Go Go.SL Go.Proofs Pl
namespace Rt.Rc
def uncv (x : I2) : I := ⟨x.Op, x.N, x.S⟩
theorem map_cv_uncv (l : List I2) : (l.map uncv).map cv = l := by
 rw [List.map_map, show cv ∘ uncv = id from rfl, List.map_id]
def SmI (x : I2) : Prop := x.S.length ≤ 536870912
theorem large_L0 : ∀ (l : List I2) (i : Nat) (y : Int), (∀ x ∈ l, SmI x) → 0 ≤ y → y + 40000000 * l.length ≤ 4000000000000000000 → ∃ z, Jas l i y = some z ∧ y ≤ z ∧ ∀ x ∈ l, (x.S.length : Int) ≤ 16 * (z - y) + 15
 | [], i, y, _, _, _ => ⟨y, rfl, Int.le_refl _, fun x hx => by cases hx⟩
 | e :: l, i, y, h, h0, hb => by
  simp only [List.length_cons] at hb
  have he : e.S.length ≤ 536870912 := h e (by simp)
  have et : Int.tdiv (e.S.length : Int) 16 = ((e.S.length / 16 : Nat) : Int) := by rw [Int.tdiv_eq_ediv_of_nonneg (by omega)]; omega
  rw [Jas, et, chk_bind ⟨by decide, by omega, by omega⟩]
  have hw : IntKind.i64.wrap (y + ((e.S.length / 16 : Nat) : Int)) = y + ((e.S.length / 16 : Nat) : Int) := wrap_in (by simp only [InK]; omega)
  rw [hw]
  obtain ⟨z, hz, z1, z2⟩ := large_L0 l (i + 1) (y + ((e.S.length / 16 : Nat) : Int)) (fun x hx => h x (by simp [hx])) (by omega) (by omega)
  refine ⟨z, hz, by omega, fun x hx => ?_⟩
  rcases List.mem_cons.1 hx with rfl | hx
  ·omega
  ·have := z2 x hx; omega
theorem large_eq {l : List I2} (hl : l.length ≤ 536870912) (h : ∀ x ∈ l, SmI x) : ∃ b, Ja5 l = some b ∧ (b = false → l.length ≤ 2500 ∧ ∀ x ∈ l, x.S.length ≤ 40100) := by
 unfold Ja5
 obtain ⟨z, hz, z1, z2⟩ := large_L0 l 0 (l.length : Int) h (by omega) (by omega)
 rw [chk_bind (by simp only [szMax]; omega), hz, Option.bind_some]
 refine ⟨_, rfl, fun hb => ?_⟩
 have : ¬ z > 2500 := of_decide_eq_false hb
 exact ⟨by omega, fun x hx => by have := z2 x hx; omega⟩
theorem code_L0 : ∀ (l : List I2) (i : Nat) (y : List I), y.length + l.length ≤ 1000000 → Jar l i y = some (y ++ l.map uncv)
 | [], i, y, _ => by simp [Jar]
 | e :: l, i, y, h => by
  simp only [List.length_cons] at h
  rw [Jar, chk_bind (by simp only [List.length_cons, List.length_nil, lim]; omega), code_L0 l (i + 1) _ (by simp only [List.length_append, List.length_cons, List.length_nil]; omega)]
  simp [uncv]
theorem code_eq {l : List I2} (h : l.length ≤ 1000000) : Jbm l = some (l.map uncv) := by
 unfold Jbm
 rw [chk_bind (by simp only [szMax]; omega), code_L0 l 0 [] (by simpa using h), Option.bind_some, List.nil_append]
theorem Depth45_pure {c : List I} (hS : ∀ x ∈ c, x.S.length ≤ 100000) : JaY c = some (match depthOf c with
  | some G => (G, none)
  | none => (0, some 2)) := by
 obtain ⟨G, b, h1, h2⟩ := walk_pure hS
 unfold JaY
 rw [h1, Option.bind_some]
 cases q : depthOf c with
 | none => rw [q] at h2; have h2 : b = false := h2; rw [h2]; rfl
 | some g => rw [q] at h2; rw [h2.1, h2.2]; rfl
theorem is_eq (e : Err) (w : Int) : Jb1 e w = some (decide (e.getD 0 = w) && decide (w ≠ 0)) := by
 unfold Jb1
 rw [num_eq, Option.bind_some]
end Rt.Rc
