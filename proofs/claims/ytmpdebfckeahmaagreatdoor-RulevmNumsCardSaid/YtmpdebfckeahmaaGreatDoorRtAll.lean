import Derived.Test.YtmpdebfckeahmaaGreatDoorR
import Derived.Test.YtmpdebfckeahmaaGreatDoorPlain
import Derived.Test.YtmpdebfckeahmaaGreatDoorG2
import Derived.Test.YtmpdebfckeahmaaGreatDoorLS
set_option linter.unusedVariables false
set_option linter.unusedSimpArgs false
open Go Go.SL Go.Proofs Pl
namespace Rt
theorem el_go {ρ σ γ : Type} {y : σ} {f : ρ → Option γ} {g : σ → Option γ} : (Fl.go y : Fl ρ σ).el f g = g y := rfl
theorem el_ret {ρ σ γ : Type} {y : ρ} {f : ρ → Option γ} {g : σ → Option γ} : (Fl.ret y : Fl ρ σ).el f g = f y := rfl
theorem ix_ok {α : Type} {s : List α} {i : Int} (h0 : 0 ≤ i) (h1 : i < (s.length : Int)) : ∃ x, ix s i = some x := by
 unfold ix
 rw [if_pos h0]
 exact ⟨s[i.toNat]'(by omega), List.getElem?_eq_getElem (by omega)⟩
theorem prefix_ok (s p : Str) : Jy s p = some (decide ((s.length : Int) ≥ (p.length : Int)) && decide (subL s (0 : Int) (p.length : Int) = p)) := by
 unfold Jy Jz
 by_cases h : (s.length : Int) ≥ (p.length : Int)
 ·rw [if_pos (by simpa using h), chk_bind (by omega)]; simp [h]
 ·rw [if_neg (by simpa using h)]
  have : ¬ p.length ≤ s.length := by omega
  simp [this]
end Rt
set_option linter.unusedVariables false
set_option linter.unusedSimpArgs false
open Go Go.SL Go.Proofs Pl
namespace Rt
end Rt
set_option linter.unusedVariables false
set_option linter.unusedSimpArgs false
open Go Go.SL Go.Proofs Pl
namespace Rt
end Rt
set_option linter.unusedVariables false
set_option linter.unusedSimpArgs false
open Go Go.SL Go.Proofs Pl
namespace Rt
end Rt
set_option linter.unusedVariables false
set_option linter.unusedSimpArgs false
open Go Go.SL Go.Proofs Pl
namespace Rt
inductive A2 {α β : Type} (P : α → β → Prop) : List α → List β → Prop
 | nil : A2 P [] []
 | cons {a : α} {b : β} {l : List α} {k : List β} : P a b → A2 P l k → A2 P (a :: l) (b :: k)
theorem A2.len {α β : Type} {P : α → β → Prop} {l : List α} {k : List β} (h : A2 P l k) : k.length = l.length := by
 induction h with
 | nil => rfl
 | cons _ _ ih => simp [ih]
theorem A2.mem {α β : Type} {P : α → β → Prop} {l : List α} {k : List β} (h : A2 P l k) : ∀ b ∈ k, ∃ a ∈ l, P a b := by
 induction h with
 | nil => intro b hb; cases hb
 | cons hp _ ih =>
  intro b hb
  rcases List.mem_cons.1 hb with rfl | hb
  ·exact ⟨_, by simp, hp⟩
  ·obtain ⟨a, ha, q⟩ := ih b hb; exact ⟨a, by simp [ha], q⟩
end Rt
set_option linter.unusedVariables false
set_option linter.unusedSimpArgs false
open Go Go.SL Go.Proofs Pl
namespace Rt
def pre (s : Str) : Bool := ((decide (s = ([109, 101, 116, 104, 111, 100] : Str)) || decide (s = ([104, 111, 115, 116] : Str))) || decide (s = ([112, 97, 116, 104] : Str))) || decide (s = ([113, 117, 101, 114, 121] : Str))
end Rt
set_option linter.unusedVariables false
set_option linter.unusedSimpArgs false
open Go Go.SL Go.Proofs Pl
namespace Rt
end Rt
set_option linter.unusedVariables false
set_option linter.unusedSimpArgs false
open Go Go.SL Go.Proofs Pl
namespace Rt
theorem ixn {α : Type} {s : List α} {i : Nat} (h : i < s.length) : ix s (i : Int) = some s[i] := by
 unfold ix; rw [if_pos (by omega)]; exact List.getElem?_eq_getElem h
end Rt
set_option linter.unusedVariables false
set_option linter.unusedSimpArgs false
open Go Go.SL Go.Proofs Pl
namespace Rt
end Rt
set_option linter.unusedVariables false
set_option linter.unusedSimpArgs false
open Go Go.SL Go.Proofs Pl
namespace Rt
def prt (s : Str) : Bool := s.all fun c => !(decide ((c.toNat : Int) < 32) || decide ((c.toNat : Int) > 126))
theorem prt_cons (c : UInt8) (s : Str) : prt (c :: s) = (!(decide ((c.toNat : Int) < 32) || decide ((c.toNat : Int) > 126)) && prt s) := by simp [prt]
theorem prt_cond (c : UInt8) : (if decide ((c.toNat : Int) < 32) = true then some true else some (decide ((c.toNat : Int) > 126))) = some (decide ((c.toNat : Int) < 32) || decide ((c.toNat : Int) > 126)) := by
 cases decide ((c.toNat : Int) < 32) <;> simp
theorem esc_cond (c : UInt8) : (if decide ((c.toNat : Int) = 34) = true then some true else some (decide ((c.toNat : Int) = 92))) = some (decide ((c.toNat : Int) = 34) || decide ((c.toNat : Int) = 92)) := by
 cases decide ((c.toNat : Int) = 34) <;> simp
theorem quote_L0_eq : ∀ (s : Str) (i : Nat) (y : Str), y.length + 2 * s.length ≤ 1000000 → ∃ r, JW s i y = some r ∧ (prt s = true → ∃ z, r = Fl.go z ∧ z.length ≤ 1000000) ∧ (prt s = false → r = Fl.ret ([], some 2))
 | [], i, y, h => ⟨_, rfl, fun _ => ⟨_, rfl, by simpa using h⟩, fun h => (by simp [prt] at h)⟩
 | c :: s, i, y, h => by
  simp only [List.length_cons] at h
  rw [JW, prt_cond, Option.bind_some, prt_cons]
  cases q : (decide ((c.toNat : Int) < 32) || decide ((c.toNat : Int) > 126)) with
  | true => exact ⟨_, if_pos rfl, fun h => (by simp at h), fun _ => rfl⟩
  | false =>
   rw [if_neg (by simp), esc_cond, Option.bind_some, Bool.not_false, Bool.true_and]
   cases q2 : (decide ((c.toNat : Int) = 34) || decide ((c.toNat : Int) = 92)) with
   | true =>
    rw [if_pos rfl, chk_bind (by simp only [lim, List.length_cons, List.length_nil]; omega), chk_bind (by simp only [lim, List.length_append, List.length_cons, List.length_nil]; omega)]
    exact quote_L0_eq s (i + 1) _ (by simp only [List.length_append, List.length_cons, List.length_nil]; omega)
   | false =>
    rw [if_neg (by simp), chk_bind (by simp only [lim, List.length_cons, List.length_nil]; omega)]
    exact quote_L0_eq s (i + 1) _ (by simp only [List.length_append, List.length_cons, List.length_nil]; omega)
end Rt
set_option linter.unusedVariables false
set_option linter.unusedSimpArgs false
open Go Go.SL Go.Proofs Pl
namespace Rt
end Rt
set_option linter.unusedVariables false
set_option linter.unusedSimpArgs false
open Go Go.SL Go.Proofs Pl
namespace Rt
end Rt
set_option linter.unusedVariables false
set_option linter.unusedSimpArgs false
open Go Go.SL Go.Proofs Pl
namespace Rt
theorem A2.ix {α β : Type} {P : α → β → Prop} {l : List α} {k : List β} (h : A2 P l k) {i : Int} (h0 : 0 ≤ i) (h1 : i < (l.length : Int)) : ∃ a b, ix l i = some a ∧ ix k i = some b ∧ P a b ∧ a ∈ l := by
 induction h generalizing i with
 | nil => simp at h1; omega
 | cons hp _ ih =>
  rename_i a b l k _
  simp only [List.length_cons] at h1
  by_cases q : i = 0
  ·subst q
   exact ⟨a, b, rfl, rfl, hp, by simp⟩
  ·obtain ⟨a', b', e1, e2, e3, e4⟩ := ih (i := i - 1) (by omega) (by omega)
   have st : ∀ {α : Type} (x : α) (t : List α), Go.SL.ix (x :: t) i = Go.SL.ix t (i - 1) := fun x t => by
    unfold Go.SL.ix
    rw [if_pos h0, if_pos (by omega), show i.toNat = (i - 1).toNat + 1 from by omega, List.getElem?_cons_succ]
   exact ⟨a', b', by rw [st, e1], by rw [st, e2], e3, by simp [e4]⟩
end Rt
set_option linter.unusedVariables false
set_option linter.unusedSimpArgs false
open Go Go.SL Go.Proofs Pl
namespace Rt
abbrev Env := Str → Int
def ext (ρ : Env) (s : Str) (t : Int) : Env := fun q => if s = q then t else ρ q
end Rt
set_option linter.unusedVariables false
set_option linter.unusedSimpArgs false
open Go Go.SL Go.Proofs Pl
namespace Rt
end Rt
set_option linter.unusedVariables false
set_option linter.unusedSimpArgs false
open Go Go.SL Go.Proofs Pl
namespace Rt
def Ty (t : Int) : Prop := t = 1 ∨ t = 2 ∨ t = 3
def Rg (ρ : Env) : Prop := ∀ s, ρ s = 0 ∨ Ty (ρ s)
theorem Rg.ext {ρ : Env} (h : Rg ρ) (s : Str) {t : Int} (ht : Ty t) : Rg (ext ρ s t) := fun q => by
 unfold Rt.ext
 split
 ·exact .inr ht
 ·exact h q
def QQ (o : Option Int) : Prop := ∀ t, o = some t → t = 0 ∨ Ty t
theorem QQ.bind {α : Type} {o : Option α} {f : α → Option Int} (h : ∀ a, QQ (f a)) : QQ (o.bind f) := fun t ht => by
 cases o with
 | none => cases ht
 | some a => exact h a t ht
theorem QQ.z : QQ (some 0) := fun t h => by cases h; exact .inl rfl
theorem QQ.t2 : QQ (some 2) := fun t h => by cases h; exact .inr (.inr (.inl rfl))
end Rt
set_option linter.unusedVariables false
set_option linter.unusedSimpArgs false
open Go Go.SL Go.Proofs Pl
namespace Rt
end Rt
set_option linter.unusedVariables false
set_option linter.unusedSimpArgs false
open Go Go.SL Go.Proofs Pl
namespace Rt
def hd0 : List Int → Int
 | [] => 0
 | s :: _ => s
end Rt
set_option linter.unusedVariables false
set_option linter.unusedSimpArgs false
open Go Go.SL Go.Proofs Pl
namespace Rt
end Rt
set_option linter.unusedVariables false
set_option linter.unusedSimpArgs false
open Go Go.SL Go.Proofs Pl
namespace Rt
end Rt
set_option linter.unusedVariables false
set_option linter.unusedSimpArgs false
open Go Go.SL Go.Proofs Pl
namespace Rt.Rc
abbrev I := Je
abbrev Sg := Str → Option Int
end Rt.Rc
set_option linter.unusedVariables false
set_option linter.unusedSimpArgs false
open Go Go.SL Go.Proofs Pl
namespace Rt.Rc
def upd (σ : Sg) (s : Str) (k : Int) : Sg := fun q => if s = q then some k else σ q
end Rt.Rc
set_option linter.unusedVariables false
set_option linter.unusedSimpArgs false
open Go Go.SL Go.Proofs Pl
namespace Rt.Rc
def isJ (i : I) : Bool := decide (i.Op = 9) || decide (i.Op = 10)
end Rt.Rc
set_option linter.unusedVariables false
set_option linter.unusedSimpArgs false
open Go Go.SL Go.Proofs Pl
namespace Rt.Rc
abbrev I2 := Jw
def cv (i : I) : I2 := ⟨i.Op, i.N, i.S⟩
def InV (vis : List Int) (names : List Str) : Prop := ∀ i ∈ vis, 0 ≤ i ∧ i < names.length
structure Cov (ρ : Env) (σ : Sg) : Prop where
 known : ∀ s, ρ s ≠ 0 → pre s = false → (σ s).isSome = true
 fixed : ∀ s, pre s = true → σ s = none ∧ ρ s ≠ 0
theorem Cov.let {ρ : Env} {σ : Sg} (h : Cov ρ σ) {s : Str} (hs : ρ s = 0) (t k : Int) : Cov (ext ρ s t) (upd σ s k) := by
 have hp : pre s = false := by
  cases q : pre s with
  | false => rfl
  | true => exact absurd hs (h.fixed s q).2
 refine ⟨fun q hq hn => ?_, fun q hq => ?_⟩
 ·unfold upd
  by_cases e : s = q
  ·rw [if_pos e]; rfl
  ·rw [if_neg e]
   refine h.known q ?_ hn
   unfold ext at hq
   rw [if_neg e] at hq
   exact hq
 ·have e : s ≠ q := fun e => by rw [e, hq] at hp; cases hp
  unfold upd ext
  rw [if_neg e, if_neg e]
  exact h.fixed q hq
end Rt.Rc
set_option linter.unusedVariables false
set_option linter.unusedSimpArgs false
open Go Go.SL Go.Proofs Pl
namespace Rt.Rc
theorem InV.more {vis : List Int} {names : List Str} (hv : InV vis names) (more : List Str) : InV vis (names ++ more) := fun i hi => by
 have := hv i hi
 rw [List.length_append]; omega
theorem InV.let {vis : List Int} {names : List Str} (hv : InV vis names) (s : Str) : InV (vis ++ [(names.length : Int)]) (names ++ [s]) := fun i hi => by
 rw [List.length_append, List.length_singleton]
 rcases List.mem_append.1 hi with h | h
 ·have := hv i h; omega
 ·rw [List.mem_singleton.1 h]; omega
end Rt.Rc
set_option linter.unusedVariables false
set_option linter.unusedSimpArgs false
open Go Go.SL Go.Proofs Pl
namespace Rt.Rc
end Rt.Rc
set_option linter.unusedVariables false
set_option linter.unusedSimpArgs false
open Go Go.SL Go.Proofs Pl
namespace Rt.Rc
abbrev S8 := JC
abbrev PS := Jc
def wl (W : S8) : List Int := [W.f0, W.f1, W.f2, W.f3, W.f4, W.f5, W.f6, W.f7]
def W64 (x : Int) : Prop := 0 ≤ x ∧ x < 18446744073709551616
def WOK (W : S8) : Prop := W64 W.f0 ∧ W64 W.f1 ∧ W64 W.f2 ∧ W64 W.f3 ∧ W64 W.f4 ∧ W64 W.f5 ∧ W64 W.f6 ∧ W64 W.f7
def bitW (W : S8) (n : Int) : Bool := ((wl W).getD (n.toNat / 64) 0).toNat.testBit (n.toNat % 64)
theorem ofInt_nat {x : Int} (h : W64 x) : (BitVec.ofInt 64 x).toNat = x.toNat := by
 obtain ⟨h0, h1⟩ := h
 rw [BitVec.toNat_ofInt]
 rw [Int.emod_eq_of_lt h0 (by simpa using h1)]
theorem w64n {n : Nat} (h : n < 18446744073709551616) : W64 (n : Int) := ⟨by omega, by omega⟩
theorem u64and_eq {x y : Int} (hx : W64 x) (hy : W64 y) : u64and x y = ((x.toNat &&& y.toNat : Nat) : Int) := by
 unfold u64and
 rw [BitVec.toNat_and, ofInt_nat hx, ofInt_nat hy]
theorem u64or_eq {x y : Int} (hx : W64 x) (hy : W64 y) : u64or x y = ((x.toNat ||| y.toNat : Nat) : Int) := by
 unfold u64or
 rw [BitVec.toNat_or, ofInt_nat hx, ofInt_nat hy]
theorem u64and_ok {x y : Int} (hx : W64 x) (hy : W64 y) : W64 (u64and x y) := by
 rw [u64and_eq hx hy]
 obtain ⟨h0, h1⟩ := hx
 have : x.toNat &&& y.toNat ≤ x.toNat := Nat.and_le_left
 exact ⟨by omega, by omega⟩
theorem u64or_ok {x y : Int} : W64 (u64or x y) := by
 unfold u64or
 have := (BitVec.ofInt 64 x ||| BitVec.ofInt 64 y).isLt
 exact ⟨by omega, by omega⟩
theorem shl_ok {k : Nat} (h : k < 64) : u64shl 1 (k : Int) = ((2 ^ k : Nat) : Int) := by
 have : ∀ k : Nat, k < 64 → u64shl 1 (k : Int) = ((2 ^ k : Nat) : Int) := by decide
 exact this k h
theorem pow_lt {k : Nat} (h : k < 64) : W64 ((2 ^ k : Nat) : Int) := by
 have : ∀ k : Nat, k < 64 → (2 ^ k : Nat) < 18446744073709551616 := by decide
 exact w64n (this k h)
theorem shr_eq {x : Int} (hx : W64 x) {k : Nat} (h : k < 64) : u64shr x (k : Int) = ((x.toNat >>> k : Nat) : Int) := by
 unfold u64shr
 rw [Int.toNat_natCast, Nat.min_eq_left (by omega), Nat.shiftRight_eq_div_pow]
 obtain ⟨h0, h1⟩ := hx
 have e : x = (x.toNat : Int) := by omega
 have e2 : ((2 : Int) ^ k) = ((2 ^ k : Nat) : Int) := by simp
 rw [e2]
 conv => lhs; rw [e]
 rw [Int.fdiv_eq_ediv_of_nonneg _ (Int.natCast_nonneg _)]
 exact (Int.natCast_ediv _ _).symm
theorem bit_eq {x : Int} (hx : W64 x) {k : Nat} (h : k < 64) : decide (u64and (u64shr x (k : Int)) 1 = 1) = x.toNat.testBit k := by
 have h2 : W64 (u64shr x (k : Int)) := by
  rw [shr_eq hx h]
  obtain ⟨h0, h1⟩ := hx
  have : x.toNat >>> k ≤ x.toNat := by rw [Nat.shiftRight_eq_div_pow]; exact Nat.div_le_self _ _
  refine w64n (Nat.lt_of_le_of_lt this ?_)
  omega
 have e : (u64and (u64shr x (k : Int)) 1 = 1) ↔ (x.toNat >>> k) % 2 = 1 := by
  rw [u64and_eq h2 ⟨by decide, by decide⟩, shr_eq hx h, Int.toNat_natCast, show ((1 : Int)).toNat = 1 from rfl, Nat.and_one_is_mod]
  generalize (x.toNat >>> k) % 2 = q
  omega
 rw [show decide (u64and (u64shr x (k : Int)) 1 = 1) = decide ((x.toNat >>> k) % 2 = 1) from decide_eq_decide.2 e, Nat.testBit, Nat.and_comm, Nat.and_one_is_mod]
 have : (x.toNat >>> k) % 2 < 2 := Nat.mod_lt _ (by omega)
 rcases (show (x.toNat >>> k) % 2 = 0 ∨ (x.toNat >>> k) % 2 = 1 by omega) with e | e <;> simp [e]
theorem wl_ok {W : S8} (h : WOK W) (i : Nat) : W64 ((wl W).getD i 0) := by
 obtain ⟨h0, h1, h2, h3, h4, h5, h6, h7⟩ := h
 have hz : W64 0 := ⟨by decide, by decide⟩
 match i with
 | 0 => exact h0
 | 1 => exact h1
 | 2 => exact h2
 | 3 => exact h3
 | 4 => exact h4
 | 5 => exact h5
 | 6 => exact h6
 | 7 => exact h7
 | i + 8 => simpa [wl] using hz
theorem has_eq {s : PS} {n : Int} (h : WOK s.stored) (h0 : 0 ≤ n) (h1 : n ≤ 511) : J8 s n = some (bitW s.stored n) := by
 obtain ⟨k, rfl⟩ : ∃ k : Nat, n = (k : Int) := ⟨n.toNat, by omega⟩
 have e1 : Int.tdiv (k : Int) 64 = ((k / 64 : Nat) : Int) := by rw [Int.tdiv_eq_ediv_of_nonneg h0]; omega
 have e2 : Int.tmod (k : Int) 64 = ((k % 64 : Nat) : Int) := by rw [Int.tmod_eq_emod_of_nonneg h0]; omega
 have hk : k / 64 < 8 := by omega
 unfold J8
 rw [e1, e2, chk_bind ⟨by decide, by omega, by omega⟩, chk_bind (by omega), chk_bind (by omega)]
 rw [Int.toNat_natCast]
 have := bit_eq (wl_ok h (k / 64)) (k := k % 64) (by omega)
 unfold bitW
 rw [Int.toNat_natCast, ← this]
 rfl
def andW (A B : S8) : S8 := ⟨u64and A.f0 B.f0, u64and A.f1 B.f1, u64and A.f2 B.f2, u64and A.f3 B.f3, u64and A.f4 B.f4, u64and A.f5 B.f5, u64and A.f6 B.f6, u64and A.f7 B.f7⟩
theorem andW_ok {A B : S8} (hA : WOK A) (hB : WOK B) : WOK (andW A B) := by
 obtain ⟨a0, a1, a2, a3, a4, a5, a6, a7⟩ := hA
 obtain ⟨b0, b1, b2, b3, b4, b5, b6, b7⟩ := hB
 exact ⟨u64and_ok a0 b0, u64and_ok a1 b1, u64and_ok a2 b2, u64and_ok a3 b3, u64and_ok a4 b4, u64and_ok a5 b5, u64and_ok a6 b6, u64and_ok a7 b7⟩
theorem andW_wl {A B : S8} (i : Nat) : (wl (andW A B)).getD i 0 = if i < 8 then u64and ((wl A).getD i 0) ((wl B).getD i 0) else 0 := by
 match i with
 | 0 | 1 | 2 | 3 | 4 | 5 | 6 | 7 => rfl
 | i + 8 => rw [if_neg (by omega)]; simp [wl]
theorem andW_bit {A B : S8} (hA : WOK A) (hB : WOK B) {n : Int} (h0 : 0 ≤ n) (h1 : n ≤ 511) : bitW (andW A B) n = (bitW A n && bitW B n) := by
 unfold bitW
 rw [andW_wl, if_pos (by omega), u64and_eq (wl_ok hA _) (wl_ok hB _), Int.toNat_natCast, Nat.testBit_and]
theorem jstep0 {l : List PS} {k n : Nat} {e t : PS} (h : l[k]? = some e) : Jh k t (n + 1) 0 l = Jh k t n 1 (l.set k ⟨e.reached, e.depth, ⟨u64and e.stored.f0 t.stored.f0, e.stored.f1, e.stored.f2, e.stored.f3, e.stored.f4, e.stored.f5, e.stored.f6, e.stored.f7⟩⟩) := by
 rw [Jh, chk_bind (by decide), h, Option.bind_some, chk_bind (by decide), chk_bind (by decide), Option.bind_some]
 rfl
theorem jstep1 {l : List PS} {k n : Nat} {e t : PS} (h : l[k]? = some e) : Jh k t (n + 1) 1 l = Jh k t n 2 (l.set k ⟨e.reached, e.depth, ⟨e.stored.f0, u64and e.stored.f1 t.stored.f1, e.stored.f2, e.stored.f3, e.stored.f4, e.stored.f5, e.stored.f6, e.stored.f7⟩⟩) := by
 rw [Jh, chk_bind (by decide), h, Option.bind_some, chk_bind (by decide), chk_bind (by decide), Option.bind_some]
 rfl
theorem jstep2 {l : List PS} {k n : Nat} {e t : PS} (h : l[k]? = some e) : Jh k t (n + 1) 2 l = Jh k t n 3 (l.set k ⟨e.reached, e.depth, ⟨e.stored.f0, e.stored.f1, u64and e.stored.f2 t.stored.f2, e.stored.f3, e.stored.f4, e.stored.f5, e.stored.f6, e.stored.f7⟩⟩) := by
 rw [Jh, chk_bind (by decide), h, Option.bind_some, chk_bind (by decide), chk_bind (by decide), Option.bind_some]
 rfl
theorem jstep3 {l : List PS} {k n : Nat} {e t : PS} (h : l[k]? = some e) : Jh k t (n + 1) 3 l = Jh k t n 4 (l.set k ⟨e.reached, e.depth, ⟨e.stored.f0, e.stored.f1, e.stored.f2, u64and e.stored.f3 t.stored.f3, e.stored.f4, e.stored.f5, e.stored.f6, e.stored.f7⟩⟩) := by
 rw [Jh, chk_bind (by decide), h, Option.bind_some, chk_bind (by decide), chk_bind (by decide), Option.bind_some]
 rfl
theorem jstep4 {l : List PS} {k n : Nat} {e t : PS} (h : l[k]? = some e) : Jh k t (n + 1) 4 l = Jh k t n 5 (l.set k ⟨e.reached, e.depth, ⟨e.stored.f0, e.stored.f1, e.stored.f2, e.stored.f3, u64and e.stored.f4 t.stored.f4, e.stored.f5, e.stored.f6, e.stored.f7⟩⟩) := by
 rw [Jh, chk_bind (by decide), h, Option.bind_some, chk_bind (by decide), chk_bind (by decide), Option.bind_some]
 rfl
theorem jstep5 {l : List PS} {k n : Nat} {e t : PS} (h : l[k]? = some e) : Jh k t (n + 1) 5 l = Jh k t n 6 (l.set k ⟨e.reached, e.depth, ⟨e.stored.f0, e.stored.f1, e.stored.f2, e.stored.f3, e.stored.f4, u64and e.stored.f5 t.stored.f5, e.stored.f6, e.stored.f7⟩⟩) := by
 rw [Jh, chk_bind (by decide), h, Option.bind_some, chk_bind (by decide), chk_bind (by decide), Option.bind_some]
 rfl
theorem jstep6 {l : List PS} {k n : Nat} {e t : PS} (h : l[k]? = some e) : Jh k t (n + 1) 6 l = Jh k t n 7 (l.set k ⟨e.reached, e.depth, ⟨e.stored.f0, e.stored.f1, e.stored.f2, e.stored.f3, e.stored.f4, e.stored.f5, u64and e.stored.f6 t.stored.f6, e.stored.f7⟩⟩) := by
 rw [Jh, chk_bind (by decide), h, Option.bind_some, chk_bind (by decide), chk_bind (by decide), Option.bind_some]
 rfl
theorem jstep7 {l : List PS} {k n : Nat} {e t : PS} (h : l[k]? = some e) : Jh k t (n + 1) 7 l = Jh k t n 8 (l.set k ⟨e.reached, e.depth, ⟨e.stored.f0, e.stored.f1, e.stored.f2, e.stored.f3, e.stored.f4, e.stored.f5, e.stored.f6, u64and e.stored.f7 t.stored.f7⟩⟩) := by
 rw [Jh, chk_bind (by decide), h, Option.bind_some, chk_bind (by decide), chk_bind (by decide), Option.bind_some]
 rfl
theorem jel {l : List PS} {k : Nat} {s t : PS} (h : l[k]? = some s) : Jh k t 8 0 l = some (l.set k ⟨s.reached, s.depth, andW s.stored t.stored⟩) := by
 have hk : k < l.length := (List.getElem?_eq_some_iff.1 h).1
 have hs : ∀ z : PS, (l.set k z)[k]? = some z := fun z => by simp [hk]
 rw [jstep0 h, jstep1 (hs _), List.set_set, jstep2 (hs _), List.set_set, jstep3 (hs _), List.set_set, jstep4 (hs _), List.set_set, jstep5 (hs _), List.set_set, jstep6 (hs _), List.set_set, jstep7 (hs _), List.set_set, Jh]
 rfl
def orW (W : S8) (k : Nat) : S8 :=
 let m := (wl W).set (k / 64) (u64or ((wl W).getD (k / 64) 0) (u64shl 1 ((k % 64 : Nat) : Int)))
 ⟨m.getD 0 0, m.getD 1 0, m.getD 2 0, m.getD 3 0, m.getD 4 0, m.getD 5 0, m.getD 6 0, m.getD 7 0⟩
theorem orW_wl {W : S8} {k i : Nat} (hk : k < 512) (hi : i < 8) : (wl (orW W k)).getD i 0 = if i = k / 64 then u64or ((wl W).getD (k / 64) 0) (u64shl 1 ((k % 64 : Nat) : Int)) else (wl W).getD i 0 := by
 have hl : (wl W).length = 8 := rfl
 have key : (wl (orW W k)).getD i 0 = ((wl W).set (k / 64) (u64or ((wl W).getD (k / 64) 0) (u64shl 1 ((k % 64 : Nat) : Int)))).getD i 0 := by
  match i, hi with
  | 0, _ | 1, _ | 2, _ | 3, _ | 4, _ | 5, _ | 6, _ | 7, _ => rfl
  | i + 8, h => omega
 rw [key, List.getD_eq_getElem?_getD, List.getElem?_set]
 by_cases q : k / 64 = i
 ·rw [if_pos q, if_pos (by omega), if_pos q.symm]; rfl
 ·rw [if_neg q, if_neg (by omega), ← List.getD_eq_getElem?_getD]
theorem orW_ok {W : S8} (h : WOK W) {k : Nat} (hk : k < 512) : WOK (orW W k) := by
 have key : ∀ i, i < 8 → W64 ((wl (orW W k)).getD i 0) := fun i hi => by
  rw [orW_wl hk hi]
  split
  ·exact u64or_ok
  ·exact wl_ok h i
 exact ⟨key 0 (by omega), key 1 (by omega), key 2 (by omega), key 3 (by omega), key 4 (by omega), key 5 (by omega), key 6 (by omega), key 7 (by omega)⟩
theorem orW_bit {W : S8} (h : WOK W) {k : Nat} (hk : k < 512) {n : Int} (h0 : 0 ≤ n) (h1 : n ≤ 511) : bitW (orW W k) n = (decide (n = (k : Int)) || bitW W n) := by
 unfold bitW
 rw [orW_wl hk (by omega)]
 by_cases q : n.toNat / 64 = k / 64
 ·rw [if_pos q, shl_ok (by omega), u64or_eq (wl_ok h _) (pow_lt (by omega)), Int.toNat_natCast, Int.toNat_natCast, Nat.testBit_or, Nat.testBit_two_pow, q, Bool.or_comm]
  congr 1
  rw [decide_eq_decide]
  omega
 ·rw [if_neg q, decide_eq_false (by omega), Bool.false_or]
end Rt.Rc
set_option linter.unusedVariables false
set_option linter.unusedSimpArgs false
open Go Go.SL Go.Proofs Pl
namespace Rt.Rc
def acts1 : List Str := [[112, 97, 116, 104], [113, 117, 101, 114, 121], [116, 97, 103], [116, 116, 108], [100, 101, 110, 121]]
def acts0 : List Str := [[112, 97, 115, 115], [116, 111, 107, 101, 110]]
def sHeader : Str := [104, 101, 97, 100, 101, 114, 58]
def sVary : Str := [118, 97, 114, 121, 58]
def hp (s p : Str) : Bool := decide (s.length ≥ p.length) && decide (s.take p.length = p)
def actK (s : Str) : Option Int :=
 if s ∈ acts1 then some 1 else if s ∈ acts0 then some 0 else if hp s sHeader = true then (if prt s = true then some 1 else none) else if (hp s sVary && prt s) = true then some 0 else none
def eff (x : I) : Option (Int × Int) :=
 if x.Op = 1 then (if x.S = [] ∧ 0 ≤ x.N ∧ x.N ≤ 999999999 then some (0, 1) else none)
 else if x.Op = 2 then (if x.N = 0 ∧ prt x.S = true then some (0, 1) else none)
 else if x.Op = 3 then (if x.S = [] ∧ 0 ≤ x.N ∧ x.N ≤ 511 then some (0, 1) else none)
 else if x.Op = 4 then (if x.S = [] ∧ 0 ≤ x.N ∧ x.N ≤ 511 then some (1, 0) else none)
 else if x.Op = 5 then (if x.N = 0 ∧ x.S ∈ Jm then some (0, 1) else none)
 else if x.Op = 6 then (if x.N = 0 ∧ x.S ∈ Jr then some (1, 1) else none)
 else if x.Op = 7 then (if x.N = 0 ∧ x.S ∈ Jn then some (2, 1) else none)
 else if x.Op = 8 then (if x.N = 0 ∧ x.S = [] then some (1, 1) else none)
 else if x.Op = 9 then (if x.S = [] then some (0, 0) else none)
 else if x.Op = 10 then (if x.S = [] then some (1, 0) else none)
 else if x.Op = 11 then (if x.N = 0 then (actK x.S).map fun t => (t, 0) else none)
 else if x.Op = 12 then (if x.N = 0 ∧ x.S = [] then some (0, 0) else none)
 else none
def Ef (x : I) (r : Option (Int × Int × Bool)) : Prop := ∃ t l, r = some (t, l, (eff x).isSome) ∧ ∀ a b, eff x = some (a, b) → t = a ∧ l = b
theorem Ef.mk' {x : I} {t l : Int} {b : Bool} {c : Prop} [Decidable c] (he : eff x = if c then some (t, l) else none) (hb : b = decide c) : Ef x (some (t, l, b)) := by
 refine ⟨t, l, ?_, fun a b h => ?_⟩
 ·rw [he, hb]
  by_cases q : c
  ·simp [q]
  ·simp [q]
 ·rw [he] at h
  split at h <;> cases h
  exact ⟨rfl, rfl⟩
theorem rprint {s : Str} (h : s.length ≤ 100000) : JQ s = some (prt s) := by
 obtain ⟨r, hr, g1, g2⟩ := quote_L0_eq s 0 [34] (by simp <;> omega)
 unfold JQ Jbc
 rw [chk_bind (by simp only [szMax]; omega), hr, Option.bind_some]
 cases q : prt s with
 | false => rw [g2 q, el_ret]; rfl
 | true =>
  obtain ⟨z, rfl, hz⟩ := g1 q
  rw [el_go, chk_bind (by simp only [lim, List.length_cons, List.length_nil]; omega)]; rfl
theorem prt2_L0 : ∀ (s : Str) (i : Nat), Jao s i = some (if prt s = true then Fl.go () else Fl.ret false)
 | [], i => by simp [Jao, prt]
 | c :: s, i => by
  rw [Jao, prt_cond, Option.bind_some, prt_cons]
  cases q : (decide ((c.toNat : Int) < 32) || decide ((c.toNat : Int) > 126)) with
  | true => rw [if_pos rfl]; rfl
  | false => rw [if_neg (by simp), prt2_L0 s (i + 1)]; rfl
theorem prt2_eq {s : Str} (h : s.length ≤ 100000) : JaX s = some (prt s) := by
 unfold JaX
 rw [chk_bind (by simp only [szMax]; omega), prt2_L0, Option.bind_some]
 cases prt s <;> rfl
theorem cont_L0 (v : Str) : ∀ (l : List Str) (i : Nat), ∃ r, JE v l i = some r ∧ (v ∈ l → ∃ j : Nat, r = Fl.ret (j : Int)) ∧ (v ∉ l → r = Fl.go ())
 | [], i => ⟨_, rfl, fun h => (by cases h), fun _ => rfl⟩
 | a :: l, i => by
  rw [JE]
  by_cases q : v = a
  ·rw [if_pos (by simpa using q)]
   exact ⟨_, rfl, fun _ => ⟨i, rfl⟩, fun h => absurd (by simp [q]) h⟩
  ·rw [if_neg (by simpa using q)]
   obtain ⟨r, hr, h1, h2⟩ := cont_L0 v l (i + 1)
   exact ⟨r, hr, fun h => h1 (by simpa [q] using h), fun h => h2 (by simpa [q] using h)⟩
theorem cont_eq {l : List Str} {v : Str} (h : l.length ≤ 1000) : Jv l v = some (decide (v ∈ l)) := by
 unfold Jv Jav
 obtain ⟨r, hr, h1, h2⟩ := cont_L0 v l 0
 rw [chk_bind (by simp only [szMax]; omega), hr, Option.bind_some]
 by_cases q : v ∈ l
 ·obtain ⟨j, rfl⟩ := h1 q
  rw [el_ret, Option.bind_some, decide_eq_true q, decide_eq_true (by omega)]
 ·rw [h2 q, el_go, Option.bind_some, decide_eq_false q]; rfl
theorem has_L0 (v : Str) : ∀ (l : List Str) (i : Nat), Ja6 v l i = some (if v ∈ l then Fl.ret true else Fl.go ())
 | [], i => by simp [Ja6]
 | a :: l, i => by
  rw [Ja6]
  by_cases q : a = v
  ·rw [if_pos (by simpa using q), if_pos (by simp [q])]
  ·rw [if_neg (by simpa using q), has_L0 v l (i + 1)]
   have : v ≠ a := fun h => q h.symm
   simp [this]
theorem has2_eq {l : List Str} {v : Str} (h : l.length ≤ 1000) : Ja7 v l = some (decide (v ∈ l)) := by
 unfold Ja7
 rw [chk_bind (by simp only [szMax]; omega), has_L0, Option.bind_some]
 by_cases q : v ∈ l
 ·rw [if_pos q, el_ret, decide_eq_true q]
 ·rw [if_neg q, el_go, decide_eq_false q]
theorem sub0 (s : Str) (k : Nat) : subL s (0 : Int) (k : Int) = s.take k := by
 unfold subL
 simp
theorem hp_eq (s p : Str) : (decide ((s.length : Int) ≥ (p.length : Int)) && decide (subL s (0 : Int) (p.length : Int) = p)) = hp s p := by
 rw [sub0]
 unfold hp
 congr 1
 rw [decide_eq_decide]; omega
theorem hp_app {s p : Str} (h : hp s p = true) : s = p ++ s.drop p.length := by
 simp only [hp, Bool.and_eq_true, decide_eq_true_eq] at h
 conv => lhs; rw [← List.take_append_drop p.length s, h.2]
theorem prt_append (a b : Str) : prt (a ++ b) = (prt a && prt b) := by simp [prt]
theorem begins_eq {s p : Str} (h : s.length ≤ 100000) : JaQ s p = some (hp s p && prt s) := by
 unfold JaQ
 by_cases q : (s.length : Int) ≥ (p.length : Int)
 ·rw [if_pos (by simpa using q), chk_bind (by omega), Option.bind_some]
  have e : decide (subL s (0 : Int) (p.length : Int) = p) = hp s p := by rw [← hp_eq, decide_eq_true q, Bool.true_and]
  rw [e]
  cases hp s p with
  | true => rw [if_pos rfl, prt2_eq h, Option.bind_some, Option.bind_some, Bool.true_and]
  | false => rw [if_neg (by simp), Option.bind_some, Bool.false_and]
 ·rw [if_neg (by simpa using q), Option.bind_some, if_neg (by simp), Option.bind_some]
  have : hp s p = false := by rw [← hp_eq, decide_eq_false q, Bool.false_and]
  rw [this, Bool.false_and]
theorem cut_eq (s p : Str) : Jah s p = some (if hp s p = true then (s.drop p.length, true) else (s, false)) := by
 unfold Jah JL
 have h0 := prefix_ok s p
 unfold Jy at h0
 rw [hp_eq] at h0
 have h1 : Jz s p = some (hp s p) := by simpa using h0
 rw [h1, Option.bind_some]
 cases q : hp s p with
 | false => rw [if_pos (by simp), Option.bind_some, if_neg (by simp)]
 | true =>
  have hl : p.length ≤ s.length := by
   simp only [hp, Bool.and_eq_true, decide_eq_true_eq] at q
   exact q.1
  rw [if_neg (by simp), chk_bind (by omega), Option.bind_some, if_pos rfl]
  unfold subL
  rw [Int.toNat_natCast, List.take_of_length_le (by rw [List.length_drop]; omega)]
theorem act_pure {s : Str} (h : s.length ≤ 100000) : ∃ t b, Ja3 s = some (t, b) ∧ b = (actK s).isSome ∧ ∀ k, actK s = some k → t = k := by
 have key : ∀ (t : Int) (b : Bool), (actK s = if b = true then some t else none) → b = (actK s).isSome ∧ ∀ k, actK s = some k → t = k := fun t b h => by
  rw [h]
  cases b with
  | true => exact ⟨rfl, fun k hk => by cases hk; rfl⟩
  | false => exact ⟨rfl, fun k hk => by cases hk⟩
 unfold Ja3
 by_cases q1 : s = [112, 97, 116, 104]
 ·subst q1; exact ⟨_, _, rfl, key _ _ (by decide)⟩
 rw [if_neg (by simpa using q1)]
 by_cases q2 : s = [113, 117, 101, 114, 121]
 ·subst q2; exact ⟨_, _, rfl, key _ _ (by decide)⟩
 rw [if_neg (by simpa using q2)]
 by_cases q3 : s = [116, 97, 103]
 ·subst q3; exact ⟨_, _, rfl, key _ _ (by decide)⟩
 rw [if_neg (by simpa using q3)]
 by_cases q4 : s = [116, 116, 108]
 ·subst q4; exact ⟨_, _, rfl, key _ _ (by decide)⟩
 rw [if_neg (by simpa using q4)]
 by_cases q5 : s = [100, 101, 110, 121]
 ·subst q5; exact ⟨_, _, rfl, key _ _ (by decide)⟩
 rw [if_neg (by simpa using q5)]
 by_cases q6 : s = [112, 97, 115, 115]
 ·subst q6; exact ⟨_, _, rfl, key _ _ (by decide)⟩
 rw [if_neg (by simpa using q6)]
 by_cases q7 : s = [116, 111, 107, 101, 110]
 ·subst q7; exact ⟨_, _, rfl, key _ _ (by decide)⟩
 rw [if_neg (by simpa using q7)]
 have n1 : s ∉ acts1 := by simp [acts1, q1, q2, q3, q4, q5]
 have n0 : s ∉ acts0 := by simp [acts0, q6, q7]
 have hd : ∀ p : Str, hp s p = true → prt p = true → prt (s.drop p.length) = prt s := fun p h hpp => by
  conv => rhs; rw [hp_app h]
  rw [prt_append, hpp, Bool.true_and]
 rw [show ([104, 101, 97, 100, 101, 114, 58] : Str) = sHeader from rfl, show ([118, 97, 114, 121, 58] : Str) = sVary from rfl, cut_eq, Option.bind_some]
 cases q8 : hp s sHeader with
 | true =>
  rw [if_pos rfl, if_pos rfl, rprint (by rw [List.length_drop]; omega), Option.bind_some, hd _ q8 (by decide)]
  exact ⟨_, _, rfl, key _ _ (by unfold actK; rw [if_neg n1, if_neg n0, if_pos q8])⟩
 | false =>
  rw [if_neg (by simp), cut_eq, Option.bind_some]
  cases q9 : hp s sVary with
  | true =>
   rw [if_pos rfl, if_pos rfl, rprint (by rw [List.length_drop]; omega), Option.bind_some, Option.bind_some, hd _ q9 (by decide)]
   exact ⟨_, _, rfl, key _ _ (by unfold actK; rw [if_neg n1, if_neg n0, if_neg (by simp [q8]), q9, Bool.true_and])⟩
  | false =>
   rw [if_neg (by simp), Option.bind_some]
   exact ⟨_, _, rfl, key _ _ (by unfold actK; rw [if_neg n1, if_neg n0, if_neg (by simp [q8]), q9, Bool.false_and])⟩
theorem ifb {c : Bool} {o : Option Bool} {v : Bool} (h : o = some v) : (if c = true then o.bind (fun x => some x) else some false) = some (c && v) := by
 cases c with
 | true => rw [if_pos rfl, h, Option.bind_some, Bool.true_and]
 | false => rw [if_neg (by simp), Bool.false_and]
theorem shape_pure {x : I} (h : x.S.length ≤ 100000) : Ef x (JaH x) := by
 unfold JaH
 by_cases q1 : x.Op = 1
 ·rw [if_pos (by simpa using q1)]; exact Ef.mk' (by unfold eff; rw [if_pos q1]) (by simp [Bool.and_assoc])
 by_cases q2 : x.Op = 2
 ·rw [if_neg (by simpa using q1), if_pos (by simpa using q2), ifb (rprint h), Option.bind_some]; exact Ef.mk' (by unfold eff; rw [if_neg q1, if_pos q2]) (by simp)
 by_cases q3 : x.Op = 3
 ·rw [if_neg (by simpa using q1), if_neg (by simpa using q2), if_pos (by simpa using q3)]; exact Ef.mk' (by unfold eff; rw [if_neg q1, if_neg q2, if_pos q3]) (by simp [Bool.and_assoc])
 by_cases q4 : x.Op = 4
 ·rw [if_neg (by simpa using q1), if_neg (by simpa using q2), if_neg (by simpa using q3), if_pos (by simpa using q4)]; exact Ef.mk' (by unfold eff; rw [if_neg q1, if_neg q2, if_neg q3, if_pos q4]) (by simp [Bool.and_assoc])
 rw [if_neg (by simpa using q1), if_neg (by simpa using q2), if_neg (by simpa using q3), if_neg (by simpa using q4)]
 by_cases q5 : x.Op = 5
 ·rw [if_pos (by simpa using q5), ifb (cont_eq (by decide)), Option.bind_some]; exact Ef.mk' (by unfold eff; rw [if_neg q1, if_neg q2, if_neg q3, if_neg q4, if_pos q5]) (by simp)
 by_cases q6 : x.Op = 6
 ·rw [if_neg (by simpa using q5), if_pos (by simpa using q6), ifb (cont_eq (by decide)), Option.bind_some]; exact Ef.mk' (by unfold eff; rw [if_neg q1, if_neg q2, if_neg q3, if_neg q4, if_neg q5, if_pos q6]) (by simp)
 by_cases q7 : x.Op = 7
 ·rw [if_neg (by simpa using q5), if_neg (by simpa using q6), if_pos (by simpa using q7), ifb (cont_eq (by decide)), Option.bind_some]; exact Ef.mk' (by unfold eff; rw [if_neg q1, if_neg q2, if_neg q3, if_neg q4, if_neg q5, if_neg q6, if_pos q7]) (by simp)
 rw [if_neg (by simpa using q5), if_neg (by simpa using q6), if_neg (by simpa using q7)]
 by_cases q8 : x.Op = 8
 ·rw [if_pos (by simpa using q8)]; exact Ef.mk' (by unfold eff; rw [if_neg q1, if_neg q2, if_neg q3, if_neg q4, if_neg q5, if_neg q6, if_neg q7, if_pos q8]) (by simp)
 by_cases q9 : x.Op = 9
 ·rw [if_neg (by simpa using q8), if_pos (by simpa using q9)]; exact Ef.mk' (by unfold eff; rw [if_neg q1, if_neg q2, if_neg q3, if_neg q4, if_neg q5, if_neg q6, if_neg q7, if_neg q8, if_pos q9]) (by simp)
 by_cases q10 : x.Op = 10
 ·rw [if_neg (by simpa using q8), if_neg (by simpa using q9), if_pos (by simpa using q10)]; exact Ef.mk' (by unfold eff; rw [if_neg q1, if_neg q2, if_neg q3, if_neg q4, if_neg q5, if_neg q6, if_neg q7, if_neg q8, if_neg q9, if_pos q10]) (by simp)
 rw [if_neg (by simpa using q8), if_neg (by simpa using q9), if_neg (by simpa using q10)]
 by_cases q11 : x.Op = 11
 ·obtain ⟨t, b, e1, e2, e3⟩ := act_pure h
  rw [if_pos (by simpa using q11), e1, Option.bind_some]
  have ee : eff x = if x.N = 0 then (actK x.S).map fun t => (t, 0) else none := by unfold eff; rw [if_neg q1, if_neg q2, if_neg q3, if_neg q4, if_neg q5, if_neg q6, if_neg q7, if_neg q8, if_neg q9, if_neg q10, if_pos q11]
  refine ⟨t, 0, ?_, fun a c hc => ?_⟩
  ·rw [ee, e2]
   by_cases q : x.N = 0
   ·rw [if_pos q, decide_eq_true q, Bool.true_and, Option.isSome_map]
   ·rw [if_neg q, decide_eq_false q, Bool.false_and]; rfl
  ·rw [ee] at hc
   by_cases q : x.N = 0
   ·rw [if_pos q] at hc
    obtain ⟨k, hk, hk2⟩ := Option.map_eq_some_iff.1 hc
    cases hk2
    exact ⟨e3 _ hk, rfl⟩
   ·rw [if_neg q] at hc; cases hc
 by_cases q12 : x.Op = 12
 ·rw [if_neg (by simpa using q11), if_pos (by simpa using q12)]; exact Ef.mk' (by unfold eff; rw [if_neg q1, if_neg q2, if_neg q3, if_neg q4, if_neg q5, if_neg q6, if_neg q7, if_neg q8, if_neg q9, if_neg q10, if_neg q11, if_pos q12]) (by simp)
 ·rw [if_neg (by simpa using q11), if_neg (by simpa using q12)]
  have ee : eff x = none := by unfold eff; rw [if_neg q1, if_neg q2, if_neg q3, if_neg q4, if_neg q5, if_neg q6, if_neg q7, if_neg q8, if_neg q9, if_neg q10, if_neg q11, if_neg q12]
  exact ⟨0, 0, by rw [ee]; rfl, fun a b h => by rw [ee] at h; cases h⟩
end Rt.Rc
set_option linter.unusedVariables false
set_option linter.unusedSimpArgs false
open Go Go.SL Go.Proofs Pl
namespace Rt.Rc
theorem hp_ne {s p q : Str} (h : hp s p = true) (hn : ∀ t, hp (p ++ t) q = false) : hp s q = false := by
 rw [hp_app h]; exact hn _
theorem hdvary (s : Str) (h : hp s sVary = true) : hp s sHeader = false := by
 refine hp_ne h fun t => ?_
 unfold hp sVary sHeader
 simp
theorem a1vary {s : Str} (h : hp s sVary = true) : s ∉ acts1 := by
 intro hs
 have : ∀ w ∈ acts1, hp w sVary = false := by decide
 rw [this s hs] at h; cases h
theorem acts10 {s : Str} (h : s ∈ acts0) : s ∉ acts1 := by
 intro hs
 have : ∀ w ∈ acts0, w ∉ acts1 := by decide
 exact this s h hs
theorem orb {c : Bool} {o : Option Bool} {v : Bool} (h : o = some v) : (if c = true then some true else o.bind (fun x => some x)) = some (c || v) := by
 cases c with
 | true => rw [if_pos rfl, Bool.true_or]
 | false => rw [if_neg (by simp), h, Option.bind_some, Bool.false_or]
theorem fn_iff0 (s : Str) : ∃ a b, Jbn s = some (a, b, decide (s ∈ Jr)) := by
 unfold Jbn Jr
 by_cases q1 : s = [104, 101, 97, 100, 101, 114]; · subst q1; exact ⟨_, _, rfl⟩
 by_cases q2 : s = [97, 114, 103]; · subst q2; exact ⟨_, _, rfl⟩
 by_cases q3 : s = [108, 111, 119, 101, 114]; · subst q3; exact ⟨_, _, rfl⟩
 by_cases q4 : s = [104, 97, 115]; · subst q4; exact ⟨_, _, rfl⟩
 by_cases q5 : s = [108, 101, 110]; · subst q5; exact ⟨_, _, rfl⟩
 by_cases q6 : s = [110, 117, 109, 98, 101, 114]; · subst q6; exact ⟨_, _, rfl⟩
 by_cases q7 : s = [112, 97, 114, 116]; · subst q7; exact ⟨_, _, rfl⟩
 by_cases q8 : s = [116, 101, 120, 116]; · subst q8; exact ⟨_, _, rfl⟩
 exact ⟨0, 0, by simp [q1, q2, q3, q4, q5, q6, q7, q8]⟩
set_option maxHeartbeats 1000000 in
theorem effect_pure {x : I} (h : x.S.length ≤ 100000) : Ef x (Ja8 (cv x)) := by
 unfold Ja8 cv
 dsimp only
 by_cases q1 : x.Op = 1
 ·rw [if_pos (by simpa using q1)]; exact Ef.mk' (by unfold eff; rw [if_pos q1]) (by simp [Bool.and_assoc])
 by_cases q2 : x.Op = 2
 ·rw [if_neg (by simpa using q1), if_pos (by simpa using q2), ifb (prt2_eq h), Option.bind_some]; exact Ef.mk' (by unfold eff; rw [if_neg q1, if_pos q2]) (by simp)
 by_cases q3 : x.Op = 3
 ·rw [if_neg (by simpa using q1), if_neg (by simpa using q2), if_pos (by simpa using q3)]
  refine Ef.mk' (by unfold eff; rw [if_neg q1, if_neg q2, if_pos q3]) ?_
  have : decide (x.N < 512) = decide (x.N ≤ 511) := by rw [decide_eq_decide]; omega
  simp [this, Bool.and_assoc]
 by_cases q4 : x.Op = 4
 ·rw [if_neg (by simpa using q1), if_neg (by simpa using q2), if_neg (by simpa using q3), if_pos (by simpa using q4)]
  refine Ef.mk' (by unfold eff; rw [if_neg q1, if_neg q2, if_neg q3, if_pos q4]) ?_
  have : decide (x.N < 512) = decide (x.N ≤ 511) := by rw [decide_eq_decide]; omega
  simp [this, Bool.and_assoc]
 rw [if_neg (by simpa using q1), if_neg (by simpa using q2), if_neg (by simpa using q3), if_neg (by simpa using q4)]
 by_cases q5 : x.Op = 5
 ·have hp : Ja1 x.S = some (decide (x.S ∈ Jm)) := by
   unfold Ja1 Jm
   simp [Bool.or_assoc]
  rw [if_pos (by simpa using q5), ifb hp, Option.bind_some]; exact Ef.mk' (by unfold eff; rw [if_neg q1, if_neg q2, if_neg q3, if_neg q4, if_pos q5]) (by simp)
 by_cases q6 : x.Op = 6
 ·obtain ⟨fa, fb, hf⟩ := fn_iff0 x.S
  rw [if_neg (by simpa using q5), if_pos (by simpa using q6), hf, Option.bind_some]; exact Ef.mk' (by unfold eff; rw [if_neg q1, if_neg q2, if_neg q3, if_neg q4, if_neg q5, if_pos q6]) (by simp)
 by_cases q7 : x.Op = 7
 ·have hl : Ja7 x.S ([([43] : Str), ([45] : Str), ([42] : Str), ([61, 61] : Str), ([33, 61] : Str), ([60] : Str), ([60, 61] : Str), ([115, 116, 97, 114, 116, 115] : Str), ([101, 110, 100, 115] : Str), ([99, 111, 110, 116, 97, 105, 110, 115] : Str)]) = some (decide (x.S ∈ Jn)) := has2_eq (by decide)
  rw [if_neg (by simpa using q5), if_neg (by simpa using q6), if_pos (by simpa using q7), ifb hl, Option.bind_some]; exact Ef.mk' (by unfold eff; rw [if_neg q1, if_neg q2, if_neg q3, if_neg q4, if_neg q5, if_neg q6, if_pos q7]) (by simp)
 rw [if_neg (by simpa using q5), if_neg (by simpa using q6), if_neg (by simpa using q7)]
 by_cases q8 : x.Op = 8
 ·rw [if_pos (by simpa using q8)]; exact Ef.mk' (by unfold eff; rw [if_neg q1, if_neg q2, if_neg q3, if_neg q4, if_neg q5, if_neg q6, if_neg q7, if_pos q8]) (by simp [Bool.and_comm])
 by_cases q9 : x.Op = 9
 ·rw [if_neg (by simpa using q8), if_pos (by simpa using q9)]; exact Ef.mk' (by unfold eff; rw [if_neg q1, if_neg q2, if_neg q3, if_neg q4, if_neg q5, if_neg q6, if_neg q7, if_neg q8, if_pos q9]) (by simp)
 by_cases q10 : x.Op = 10
 ·rw [if_neg (by simpa using q8), if_neg (by simpa using q9), if_pos (by simpa using q10)]; exact Ef.mk' (by unfold eff; rw [if_neg q1, if_neg q2, if_neg q3, if_neg q4, if_neg q5, if_neg q6, if_neg q7, if_neg q8, if_neg q9, if_pos q10]) (by simp)
 rw [if_neg (by simpa using q8), if_neg (by simpa using q9), if_neg (by simpa using q10)]
 by_cases q11 : x.Op = 11
 ·have ee : eff x = if x.N = 0 then (actK x.S).map fun t => (t, 0) else none := by unfold eff; rw [if_neg q1, if_neg q2, if_neg q3, if_neg q4, if_neg q5, if_neg q6, if_neg q7, if_neg q8, if_neg q9, if_neg q10, if_pos q11]
  have e0 : Ja7 x.S [([112, 97, 115, 115] : Str), ([116, 111, 107, 101, 110] : Str)] = some (decide (x.S ∈ acts0)) := has2_eq (by decide)
  have e1 : Ja7 x.S [([112, 97, 116, 104] : Str), ([113, 117, 101, 114, 121] : Str), ([116, 97, 103] : Str), ([116, 116, 108] : Str), ([100, 101, 110, 121] : Str)] = some (decide (x.S ∈ acts1)) := has2_eq (by decide)
  have bv : JaQ x.S [118, 97, 114, 121, 58] = some (hp x.S sVary && prt x.S) := begins_eq h
  have bh : JaQ x.S [104, 101, 97, 100, 101, 114, 58] = some (hp x.S sHeader && prt x.S) := begins_eq h
  rw [if_pos (by simpa using q11), e0, Option.bind_some, orb bv, Option.bind_some]
  cases qz : (decide (x.S ∈ acts0) || (hp x.S sVary && prt x.S)) with
  | true =>
   rw [if_pos rfl]
   have ha : actK x.S = some 0 := by
    unfold actK
    simp only [Bool.or_eq_true, decide_eq_true_eq, Bool.and_eq_true] at qz
    rcases qz with qz | ⟨q1, q2⟩
    ·rw [if_neg (acts10 qz), if_pos qz]
    ·rw [if_neg (a1vary q1)]
     by_cases m0 : x.S ∈ acts0
     ·rw [if_pos m0]
     ·rw [if_neg m0, if_neg (by rw [hdvary _ q1]; simp), q1, q2]; rfl
   exact Ef.mk' (c := x.N = 0) (by rw [ee, ha]; rfl) rfl
  | false =>
   rw [if_neg (by simp)]
   simp only [Bool.or_eq_false_iff, decide_eq_false_iff_not] at qz
   have ha : actK x.S = if (decide (x.S ∈ acts1) || (hp x.S sHeader && prt x.S)) = true then some 1 else none := by
    unfold actK
    by_cases m1 : x.S ∈ acts1
    ·rw [if_pos m1, decide_eq_true m1]; rfl
    ·rw [if_neg m1, if_neg qz.1, qz.2, decide_eq_false m1, Bool.false_or]
     cases hp x.S sHeader with
     | true => simp
     | false => simp
   by_cases n0 : x.N = 0
   ·rw [if_pos (by simpa using n0), e1, Option.bind_some, orb bh, Option.bind_some]
    exact Ef.mk' (c := (decide (x.S ∈ acts1) || (hp x.S sHeader && prt x.S)) = true) (by rw [ee, if_pos n0, ha]; split <;> rfl) (by simp)
   ·rw [if_neg (by simpa using n0)]
    exact Ef.mk' (c := False) (by rw [ee, if_neg n0]; rfl) (by simp)
 by_cases q12 : x.Op = 12
 ·rw [if_neg (by simpa using q11), if_pos (by simpa using q12)]; exact Ef.mk' (by unfold eff; rw [if_neg q1, if_neg q2, if_neg q3, if_neg q4, if_neg q5, if_neg q6, if_neg q7, if_neg q8, if_neg q9, if_neg q10, if_neg q11, if_pos q12]) (by simp [Bool.and_comm])
 ·rw [if_neg (by simpa using q11), if_neg (by simpa using q12)]
  have ee : eff x = none := by unfold eff; rw [if_neg q1, if_neg q2, if_neg q3, if_neg q4, if_neg q5, if_neg q6, if_neg q7, if_neg q8, if_neg q9, if_neg q10, if_neg q11, if_neg q12]
  exact ⟨0, 0, by rw [ee]; rfl, fun a b h => by rw [ee] at h; cases h⟩
end Rt.Rc
set_option linter.unusedVariables false
set_option linter.unusedSimpArgs false
open Go Go.SL Go.Proofs Pl
namespace Rt.Rc
abbrev AS := Option (Int × (Int → Bool))
abbrev AB := Nat → AS
def joinA (a : AS) (d : Int) (σ : Int → Bool) : Option AS := match a with
 | none => some (some (d, σ))
 | some (d0, σ0) => if d0 = d then some (some (d0, fun n => σ0 n && σ n)) else none
def updA (B : AB) (i : Nat) (a : AS) : AB := fun j => if j = i then a else B j
def nxt (x : I) (σ : Int → Bool) : Int → Bool := if x.Op = 4 then (fun n => decide (n = x.N) || σ n) else σ
def far (len i : Nat) (x : I) (B : AB) (d : Int) (σ : Int → Bool) : Option AB :=
 if isJ x = true then (if x.N ≤ i ∨ x.N ≥ len then none else (joinA (B x.N.toNat) d σ).map fun a => updA B x.N.toNat a) else some B
def near (i : Nat) (x : I) (B : AB) (d : Int) (σ : Int → Bool) : Option AB :=
 if x.Op = 9 then some B else (joinA (B (i + 1)) d σ).map fun a => updA B (i + 1) a
def stA (len i : Nat) (x : I) (B : AB) (g : Int) : Option (AB × Int) :=
 match eff x, B i with
 | some (t, l), some (d, σ) =>
  if d < t ∨ ¬ ((x.Op = 12) ↔ (i + 1 = len)) ∨ (x.Op = 3 ∧ σ x.N = false) then none
  else if x.Op = 12 then (if d = 0 then some (B, max (max g d) (d + (l - t))) else none)
  else (far len i x B (d + (l - t)) (nxt x σ)).bind fun B1 => (near i x B1 (d + (l - t)) (nxt x σ)).map fun B2 => (B2, max (max g d) (d + (l - t)))
 | _, _ => none
def wk (len : Nat) : Nat → List I → AB → Int → Option Int
 | _, [], _, g => some g
 | i, x :: l, B, g => (stA len i x B g).bind fun r => wk len (i + 1) l r.1 r.2
def B0 : AB := fun i => if i = 0 then some (0, fun _ => false) else none
def depthOf (c : List I) : Option Int := if c.length < 1 ∨ c.length > 2048 then none else wk c.length 0 c B0 0
structure PR (len : Nat) (L : List PS) (B : AB) : Prop where
 len : L.length = len
 bits : ∀ i s, L[i]? = some s → s.reached = (B i).isSome ∧ ∀ d σ, B i = some (d, σ) → s.depth = d ∧ 0 ≤ d ∧ d ≤ i ∧ WOK s.stored ∧ ∀ n : Int, 0 ≤ n → n ≤ 511 → bitW s.stored n = σ n
structure TR (t : PS) (d : Int) (σ : Int → Bool) : Prop where
 reached : t.reached = true
 depth : t.depth = d
 ok : WOK t.stored
 bits : ∀ n : Int, 0 ≤ n → n ≤ 511 → bitW t.stored n = σ n
theorem pjoin {len k : Nat} {L : List PS} {B : AB} {t : PS} {d : Int} {σ : Int → Bool} (h : PR len L B) (hk : k < len) (ht : TR t d σ) (hd : 0 ≤ d ∧ d ≤ k) :
  ∃ b L', JF L k t = some (b, L') ∧ match joinA (B k) d σ with
   | none => b = false
   | some a => b = true ∧ PR len L' (updA B k a) := by
 obtain ⟨s, hs⟩ : ∃ s, L[k]? = some s := ⟨L[k]'(by rw [h.len]; exact hk), List.getElem?_eq_getElem _⟩
 obtain ⟨h1, h2⟩ := h.bits k s hs
 have hk' : k < L.length := by rw [h.len]; exact hk
 have up : ∀ (a : AS) (s' : PS), (s'.reached = a.isSome ∧ ∀ d σ, a = some (d, σ) → s'.depth = d ∧ 0 ≤ d ∧ d ≤ k ∧ WOK s'.stored ∧ ∀ n : Int, 0 ≤ n → n ≤ 511 → bitW s'.stored n = σ n) → PR len (L.set k s') (updA B k a) := fun a s' ha =>
  ⟨by rw [List.length_set]; exact h.len, fun i z hz => by
   unfold updA
   by_cases q : i = k
   ·subst q
    rw [List.getElem?_set_self hk'] at hz
    cases hz
    simp only [if_true]
    exact ha
   ·rw [List.getElem?_set_ne (fun e => q e.symm)] at hz
    simp only [if_neg q]
    exact h.bits i z hz⟩
 unfold JF
 rw [hs, Option.bind_some]
 cases hB : B k with
 | none =>
  rw [hB] at h1
  have h1 : s.reached = false := h1
  rw [if_pos (by simp [h1])]
  refine ⟨_, _, rfl, rfl, ?_⟩
  have := up (some (d, σ)) t ⟨ht.reached, fun d' σ' e => by cases e; exact ⟨ht.depth, hd.1, hd.2, ht.ok, ht.bits⟩⟩
  exact this
 | some p =>
  obtain ⟨d0, σ0⟩ := p
  rw [hB] at h1
  have h1 : s.reached = true := h1
  obtain ⟨g1, g2, g3, g4, g5⟩ := h2 d0 σ0 hB
  rw [if_neg (by simp [h1]), chk_bind (by decide), show ((8 : Int)).toNat = 8 from rfl, jel hs, Option.bind_some, List.getElem?_set_self hk', Option.bind_some]
  refine ⟨_, _, rfl, ?_⟩
  simp only [joinA]
  by_cases q : d0 = d
  ·rw [if_pos q]
   simp only
   refine ⟨by simp [g1, q, ht.depth], up _ _ ⟨h1, fun d' σ' e => ?_⟩⟩
   cases e
   exact ⟨g1, g2, g3, andW_ok g4 ht.ok, fun n n0 n1 => by rw [andW_bit g4 ht.ok n0 n1, g5 n n0 n1, ht.bits n n0 n1]⟩
  ·rw [if_neg q]
   simp [g1, ht.depth, q]
theorem eff_bd {x : I} {t l : Int} (h : eff x = some (t, l)) : 0 ≤ t ∧ t ≤ 2 ∧ 0 ≤ l ∧ l ≤ 1 ∧ (x.Op = 12 → t = 0 ∧ l = 0) ∧ ((x.Op = 3 ∨ x.Op = 4) → 0 ≤ x.N ∧ x.N ≤ 511) := by
 unfold eff at h
 have go : ∀ {c : Prop} [Decidable c] {a b : Int}, (if c then some (a, b) else none) = some (t, l) → c ∧ a = t ∧ b = l := fun {c} _ {a b} h => by
  split at h
  ·rename_i hc; cases h; exact ⟨hc, rfl, rfl⟩
  ·cases h
 by_cases q1 : x.Op = 1
 ·rw [if_pos q1] at h; obtain ⟨_, rfl, rfl⟩ := go h; exact ⟨by omega, by omega, by omega, by omega, fun h => by omega, fun h => by omega⟩
 rw [if_neg q1] at h
 by_cases q2 : x.Op = 2
 ·rw [if_pos q2] at h; obtain ⟨_, rfl, rfl⟩ := go h; exact ⟨by omega, by omega, by omega, by omega, fun h => by omega, fun h => by omega⟩
 rw [if_neg q2] at h
 by_cases q3 : x.Op = 3
 ·rw [if_pos q3] at h; obtain ⟨hc, rfl, rfl⟩ := go h; exact ⟨by omega, by omega, by omega, by omega, fun h => by omega, fun _ => hc.2⟩
 rw [if_neg q3] at h
 by_cases q4 : x.Op = 4
 ·rw [if_pos q4] at h; obtain ⟨hc, rfl, rfl⟩ := go h; exact ⟨by omega, by omega, by omega, by omega, fun h => by omega, fun _ => hc.2⟩
 rw [if_neg q4] at h
 have no : ¬ (x.Op = 3 ∨ x.Op = 4) := by omega
 by_cases q5 : x.Op = 5
 ·rw [if_pos q5] at h; obtain ⟨_, rfl, rfl⟩ := go h; exact ⟨by omega, by omega, by omega, by omega, fun h => by omega, fun h => absurd h no⟩
 rw [if_neg q5] at h
 by_cases q6 : x.Op = 6
 ·rw [if_pos q6] at h; obtain ⟨_, rfl, rfl⟩ := go h; exact ⟨by omega, by omega, by omega, by omega, fun h => by omega, fun h => absurd h no⟩
 rw [if_neg q6] at h
 by_cases q7 : x.Op = 7
 ·rw [if_pos q7] at h; obtain ⟨_, rfl, rfl⟩ := go h; exact ⟨by omega, by omega, by omega, by omega, fun h => by omega, fun h => absurd h no⟩
 rw [if_neg q7] at h
 by_cases q8 : x.Op = 8
 ·rw [if_pos q8] at h; obtain ⟨_, rfl, rfl⟩ := go h; exact ⟨by omega, by omega, by omega, by omega, fun h => by omega, fun h => absurd h no⟩
 rw [if_neg q8] at h
 by_cases q9 : x.Op = 9
 ·rw [if_pos q9] at h; obtain ⟨_, rfl, rfl⟩ := go h; exact ⟨by omega, by omega, by omega, by omega, fun h => by omega, fun h => absurd h no⟩
 rw [if_neg q9] at h
 by_cases q10 : x.Op = 10
 ·rw [if_pos q10] at h; obtain ⟨_, rfl, rfl⟩ := go h; exact ⟨by omega, by omega, by omega, by omega, fun h => by omega, fun h => absurd h no⟩
 rw [if_neg q10] at h
 by_cases q11 : x.Op = 11
 ·rw [if_pos q11] at h
  split at h
  ·obtain ⟨k, hk, e⟩ := Option.map_eq_some_iff.1 h
   cases e
   have : t = 0 ∨ t = 1 := by
    unfold actK at hk
    split at hk
    ·cases hk; simp
    ·split at hk
     ·cases hk; simp
     ·split at hk
      ·split at hk
       ·cases hk; simp
       ·cases hk
      ·split at hk
       ·cases hk; simp
       ·cases hk
   exact ⟨by omega, by omega, by omega, by omega, fun h => by omega, fun h => absurd h no⟩
  ·cases h
 rw [if_neg q11] at h
 by_cases q12 : x.Op = 12
 ·rw [if_pos q12] at h; obtain ⟨_, rfl, rfl⟩ := go h; exact ⟨by omega, by omega, by omega, by omega, fun h => ⟨rfl, rfl⟩, fun h => absurd h no⟩
 rw [if_neg q12] at h
 cases h
def nxtW (x : I) (W : S8) : S8 := if x.Op = 4 then orW W x.N.toNat else W
theorem pstore {x : I} {W : S8} (hx : x.Op = 4 → 0 ≤ x.N ∧ x.N ≤ 511) :
  (if decide (x.Op = 4) = true then
   (chk ((64 : Int) ≠ 0 ∧ InI (Int.tdiv x.N 64))).bind fun _ => (chk (0 ≤ (Int.tdiv x.N 64) ∧ (Int.tdiv x.N 64) < 8)).bind fun _ => (chk (0 ≤ (Int.tmod x.N 64))).bind fun _ => (chk (0 ≤ (Int.tdiv x.N 64) ∧ (Int.tdiv x.N 64) < 8)).bind fun _ =>
   (some (List.set [W.f0, W.f1, W.f2, W.f3, W.f4, W.f5, W.f6, W.f7] (Int.toNat (Int.tdiv x.N 64)) (u64or (List.getD [W.f0, W.f1, W.f2, W.f3, W.f4, W.f5, W.f6, W.f7] (Int.toNat (Int.tdiv x.N 64)) 0) (u64shl 1 (Int.tmod x.N 64))))).bind fun m5_ =>
   some ((List.getD m5_ 0 0), (List.getD m5_ 1 0), (List.getD m5_ 2 0), (List.getD m5_ 3 0), (List.getD m5_ 4 0), (List.getD m5_ 5 0), (List.getD m5_ 6 0), (List.getD m5_ 7 0))
  else some (W.f0, W.f1, W.f2, W.f3, W.f4, W.f5, W.f6, W.f7) : Option (Int × Int × Int × Int × Int × Int × Int × Int)) = some ((nxtW x W).f0, (nxtW x W).f1, (nxtW x W).f2, (nxtW x W).f3, (nxtW x W).f4, (nxtW x W).f5, (nxtW x W).f6, (nxtW x W).f7) := by
 unfold nxtW
 by_cases q : x.Op = 4
 ·obtain ⟨h0, h1⟩ := hx q
  obtain ⟨k, hk⟩ : ∃ k : Nat, x.N = (k : Int) := ⟨x.N.toNat, by omega⟩
  rw [hk] at h0 h1 ⊢
  have e1 : Int.tdiv (k : Int) 64 = ((k / 64 : Nat) : Int) := by rw [Int.tdiv_eq_ediv_of_nonneg h0]; omega
  have e2 : Int.tmod (k : Int) 64 = ((k % 64 : Nat) : Int) := by rw [Int.tmod_eq_emod_of_nonneg h0]; omega
  have hd : k / 64 < 8 := by omega
  rw [if_pos (by simpa using q), e1, e2, chk_bind ⟨by decide, by omega, by omega⟩, chk_bind (by omega), chk_bind (by omega), chk_bind (by omega), Option.bind_some, if_pos q, Int.toNat_natCast, Int.toNat_natCast]
  rfl
 ·rw [if_neg (by simpa using q), if_neg q]
theorem nxtW_ok {x : I} {W : S8} (h : WOK W) (hx : x.Op = 4 → 0 ≤ x.N ∧ x.N ≤ 511) : WOK (nxtW x W) := by
 unfold nxtW
 split
 ·rename_i q; have := hx q; exact orW_ok h (by omega)
 ·exact h
theorem nxtW_bits {x : I} {W : S8} {σ : Int → Bool} (h : WOK W) (hx : x.Op = 4 → 0 ≤ x.N ∧ x.N ≤ 511) (hb : ∀ n : Int, 0 ≤ n → n ≤ 511 → bitW W n = σ n) : ∀ n : Int, 0 ≤ n → n ≤ 511 → bitW (nxtW x W) n = nxt x σ n := fun n h0 h1 => by
 unfold nxtW nxt
 by_cases q : x.Op = 4
 ·have := hx q
  rw [if_pos q, if_pos q, orW_bit h (by omega) h0 h1, hb n h0 h1]
  congr 1
  rw [decide_eq_decide]; omega
 ·rw [if_neg q, if_neg q, hb n h0 h1]
end Rt.Rc
set_option linter.unusedVariables false
set_option linter.unusedSimpArgs false
open Go Go.SL Go.Proofs Pl
namespace Rt.Rc
theorem wk_cons {len i : Nat} {x : I} {l : List I} {B : AB} {g : Int} : wk len i (x :: l) B g = (stA len i x B g).bind fun r => wk len (i + 1) l r.1 r.2 := rfl
theorem pfar {len i : Nat} {x : I} {L : List PS} {B : AB} {t : PS} {d : Int} {σ : Int → Bool} (h : PR len L B) (hl : len ≤ 2048) (ht : TR t d σ) (hd : 0 ≤ d ∧ d ≤ i + 1) :
  ∃ r, (if (decide (x.Op = 9) || decide (x.Op = 10)) = true then
   if (decide (x.N ≤ (i : Int)) || decide (x.N ≥ (len : Int))) = true then some (Fl.ret (0, false)) else
   (ix L x.N).bind fun x135 => (JF L ((x.N).toNat) t).bind fun x137 => if (!x137.1) = true then some (Fl.ret (0, false)) else some (Fl.go x137.2)
   else some (Fl.go L) : Option (Fl (Int × Bool) (List PS))) = some r ∧ match far len i x B d σ with
   | none => r = Fl.ret (0, false)
   | some B1 => ∃ L1, r = Fl.go L1 ∧ PR len L1 B1 := by
 have hj : (decide (x.Op = 9) || decide (x.Op = 10)) = isJ x := rfl
 rw [hj]
 unfold far
 cases q : isJ x with
 | false => rw [if_neg (by simp), if_neg (by simp)]; exact ⟨_, rfl, L, rfl, h⟩
 | true =>
  rw [if_pos rfl, if_pos rfl]
  by_cases q2 : x.N ≤ i ∨ x.N ≥ len
  ·rw [if_pos (by simpa using q2), if_pos q2]; exact ⟨_, rfl, rfl⟩
  ·rw [if_neg (by simpa using q2), if_neg q2]
   have hk : x.N.toNat < len := by omega
   have hkL : x.N.toNat < L.length := by rw [h.len]; exact hk
   have e : ix L x.N = some L[x.N.toNat] := by unfold ix; rw [if_pos (by omega), List.getElem?_eq_getElem hkL]
   obtain ⟨b, L', e1, e2⟩ := pjoin h hk ht ⟨hd.1, by omega⟩
   rw [e, Option.bind_some, e1, Option.bind_some]
   cases q3 : joinA (B x.N.toNat) d σ with
   | none =>
    rw [q3] at e2
    have e2 : b = false := e2
    rw [e2, if_pos (by simp)]
    exact ⟨_, rfl, rfl⟩
   | some a =>
    rw [q3] at e2
    obtain ⟨e2, e3⟩ := e2
    rw [e2, if_neg (by simp)]
    exact ⟨_, rfl, L', rfl, e3⟩
def PG (c : List I) (i : Nat) (g : Int) (L : List PS) (B : AB) : Prop :=
 ∃ G b, JX c (c.drop i) i g L = some (Fl.ret (G, b)) ∧ match wk c.length i (c.drop i) B g with
  | some G' => b = true ∧ G = G'
  | none => b = false
set_option maxRecDepth 100000 in
theorem pstep {c : List I} (hc : c.length ≤ 2048) (hS : ∀ x ∈ c, x.S.length ≤ 100000) {i : Nat} {g : Int} {L : List PS} {B : AB} (hlt : i < c.length) (hR : PR c.length L B) (ih : i + 1 < c.length → ∀ g L B, PR c.length L B → PG c (i + 1) g L B) : PG c i g L B := by
 unfold PG at ih ⊢
 obtain ⟨s, hs⟩ : ∃ s, L[i]? = some s := ⟨L[i]'(by rw [hR.len]; exact hlt), List.getElem?_eq_getElem _⟩
 have hsx : ix L (i : Int) = some s := by unfold ix; rw [if_pos (by omega), Int.toNat_natCast]; exact hs
 obtain ⟨r1, r2⟩ := hR.bits i s hs
 rw [List.drop_eq_getElem_cons hlt]
 have hxS := hS c[i] (List.getElem_mem hlt)
 obtain ⟨t, l, e1, e2⟩ := shape_pure (x := c[i]) hxS
 generalize hx : c[i] = x at *
 rw [JX, hsx, Option.bind_some, e1, Option.bind_some, chk_bind (by constructor <;> omega), wk_cons]
 have hlast : decide ((i : Int) = ((c.length : Int) - 1)) = decide (i + 1 = c.length) := by rw [decide_eq_decide]; omega
 rw [hlast]
 have fail : ∀ {o : Option Int}, o = none → ∃ G b, some (Fl.ret (0, false)) = (some (Fl.ret (G, b)) : Option (Fl (Int × Bool) (Int × List PS))) ∧ match o with
  | some G' => b = true ∧ G = G'
  | none => b = false := fun h => ⟨0, false, rfl, by rw [h]⟩
 cases he : eff x with
 | none =>
  rw [if_pos (by simp)]
  exact fail (by simp [stA, he])
 | some tl =>
 obtain ⟨t', l'⟩ := tl
 obtain ⟨rfl, rfl⟩ := e2 t' l' he
 obtain ⟨b1, b2, b3, b4, b5, b6⟩ := eff_bd he
 cases hB : B i with
 | none =>
  rw [hB] at r1
  have r1 : s.reached = false := r1
  rw [if_pos (by simp [r1])]
  exact fail (by simp [stA, he, hB])
 | some p =>
 obtain ⟨d, σ⟩ := p
 rw [hB] at r1
 have r1 : s.reached = true := r1
 obtain ⟨h1, h2, h3, h4, h5⟩ := r2 d σ hB
 by_cases q1 : d < t
 ·rw [if_pos (by simp [h1, q1])]
  exact fail (by simp [stA, he, hB, q1])
 by_cases q2 : (x.Op = 12) ↔ (i + 1 = c.length)
 ·have e : (decide (x.Op = 12) == decide (i + 1 = c.length)) = true := by
   by_cases w2 : i + 1 = c.length
   ·simp [q2.2 w2, w2]
   ·have w1 : ¬ x.Op = 12 := fun w => w2 (q2.1 w)
    simp [w1, w2]
  rw [if_neg (by rw [e]; simp [r1, h1, q1])]
  have hload : (if decide (x.Op = 3) = true then (J8 s x.N).bind fun x77 => some (!x77) else some false) = some (decide (x.Op = 3 ∧ σ x.N = false)) := by
   by_cases w : x.Op = 3
   ·have := b6 (.inl w)
    rw [if_pos (by simpa using w), has_eq h4 this.1 this.2, Option.bind_some, h5 x.N this.1 this.2]
    cases σ x.N <;> simp [w]
   ·rw [if_neg (by simpa using w)]; simp [w]
  rw [hload, Option.bind_some]
  by_cases q3 : x.Op = 3 ∧ σ x.N = false
  ·rw [if_pos (by simpa using q3)]
   exact fail (by simp [stA, he, hB, q3])
  rw [if_neg (by simpa using q3), chk_bind (by simp only; constructor <;> omega), chk_bind (by simp only; constructor <;> omega), pstore (fun w => b6 (.inr w)), Option.bind_some]
  have hd : 0 ≤ d + (l - t) ∧ d + (l - t) ≤ i + 1 := by omega
  have hT : TR ⟨s.reached, s.depth + (l - t), ⟨(nxtW x s.stored).f0, (nxtW x s.stored).f1, (nxtW x s.stored).f2, (nxtW x s.stored).f3, (nxtW x s.stored).f4, (nxtW x s.stored).f5, (nxtW x s.stored).f6, (nxtW x s.stored).f7⟩⟩ (d + (l - t)) (nxt x σ) :=
   ⟨r1, by rw [h1], nxtW_ok h4 (fun w => b6 (.inr w)), nxtW_bits h4 (fun w => b6 (.inr w)) h5⟩
  obtain ⟨r, hr, hr2⟩ := pfar (x := x) hR hc hT hd
  simp only
  rw [hr, Option.bind_some]
  have hst : stA c.length i x B g = if x.Op = 12 then (if d = 0 then some (B, max (max g d) (d + (l - t))) else none) else (far c.length i x B (d + (l - t)) (nxt x σ)).bind fun B1 => (near i x B1 (d + (l - t)) (nxt x σ)).map fun B2 => (B2, max (max g d) (d + (l - t))) := by
   unfold stA
   rw [he, hB]
   simp only
   rw [if_neg]
   rintro (w | w | w)
   ·exact q1 w
   ·exact w q2
   ·exact q3 w
  rw [hst]
  by_cases q4 : i + 1 = c.length
  ·have q12 := q2.2 q4
   obtain ⟨rfl, rfl⟩ := b5 q12
   have hf : far c.length i x B (d + (0 - 0)) (nxt x σ) = some B := by unfold far isJ; rw [if_neg (by simp [q12])]
   rw [hf] at hr2
   obtain ⟨L1, rfl, _⟩ := hr2
   rw [el_go, if_pos (by simpa using q4), if_pos q12, h1]
   refine ⟨_, _, rfl, ?_⟩
   by_cases q5 : d = 0
   ·rw [if_pos q5, Option.bind_some]
    have : List.drop (i + 1) c = [] := List.drop_eq_nil_of_le (by omega)
    simp only
    rw [this]
    simp [wk, q5]
   ·rw [if_neg q5]
    simp [q5]
  ·have q12 : ¬ x.Op = 12 := fun w => q4 (q2.1 w)
   rw [if_neg q12]
   cases hfar : far c.length i x B (d + (l - t)) (nxt x σ) with
   | none =>
    rw [hfar] at hr2
    have hr2 : r = Fl.ret (0, false) := hr2
    rw [hr2, el_ret]
    exact ⟨_, _, rfl, rfl⟩
   | some B1 =>
    rw [hfar] at hr2
    obtain ⟨L1, rfl, hR1⟩ := hr2
    rw [el_go, if_neg (by simpa using q4), Option.bind_some]
    unfold near
    by_cases q9 : x.Op = 9
    ·rw [if_neg (by simpa using q9), if_pos q9]
     simp only [Option.map_some, Option.bind_some]
     have := ih (by omega) (max (max g d) (d + (l - t))) L1 B1 hR1
     rw [h1]
     exact this
    ·rw [if_pos (by simpa using q9), if_neg q9]
     have hk : i + 1 < c.length := by omega
     have hkL : i + 1 < L1.length := by rw [hR1.len]; exact hk
     have e3 : ix L1 ((i : Int) + 1) = some L1[i + 1] := by
      have := ixn (s := L1) hkL
      rw [← this]; congr 1
     obtain ⟨b, L2, e4, e5⟩ := pjoin hR1 hk hT ⟨hd.1, by omega⟩
     have e6 : (((i : Int) + 1)).toNat = i + 1 := by omega
     rw [e3, Option.bind_some, e6, e4, Option.bind_some]
     cases q6 : joinA (B1 (i + 1)) (d + (l - t)) (nxt x σ) with
     | none =>
      rw [q6] at e5
      have e5 : b = false := e5
      rw [e5, if_pos (by simp)]
      exact ⟨_, _, rfl, rfl⟩
     | some a =>
      rw [q6] at e5
      obtain ⟨e5, e7⟩ := e5
      rw [e5, if_neg (by simp)]
      simp only [Option.map_some, Option.bind_some]
      have := ih (by omega) (max (max g d) (d + (l - t))) L2 (updA B1 (i + 1) a) e7
      rw [h1]
      exact this
 ·have e : (decide (x.Op = 12) == decide (i + 1 = c.length)) = false := by
   by_cases w1 : x.Op = 12
   ·by_cases w2 : i + 1 = c.length
    ·exact absurd (by simp [w1, w2]) q2
    ·simp [w1, w2]
   ·by_cases w2 : i + 1 = c.length
    ·simp [w1, w2]
    ·exact absurd (by simp [w1, w2]) q2
  rw [if_pos (by rw [e]; simp)]
  exact fail (by simp [stA, he, hB, q2])
theorem pwalk {c : List I} (hc : c.length ≤ 2048) (hS : ∀ x ∈ c, x.S.length ≤ 100000) : ∀ (m i : Nat) (g : Int) (L : List PS) (B : AB), i + (m + 1) = c.length → PR c.length L B → PG c i g L B
 | 0, i, g, L, B, hi, hR => pstep hc hS (by omega) hR fun h => by omega
 | m + 1, i, g, L, B, hi, hR => pstep hc hS (by omega) hR fun h g L B hR => pwalk hc hS m (i + 1) g L B (by omega) hR
theorem walk_pure {c : List I} (hS : ∀ x ∈ c, x.S.length ≤ 100000) : ∃ G b, JaS c = some (G, b) ∧ match depthOf c with
  | some G' => b = true ∧ G = G'
  | none => b = false := by
 unfold JaS depthOf
 by_cases q : c.length < 1 ∨ c.length > 2048
 ·have e : (decide ((c.length : Int) < 1) || decide ((c.length : Int) > 2048)) = true := by
   simp only [Bool.or_eq_true, decide_eq_true_eq]; omega
  rw [if_pos e, if_pos q]
  exact ⟨_, _, rfl, rfl⟩
 ·have e : (decide ((c.length : Int) < 1) || decide ((c.length : Int) > 2048)) = false := by
   simp only [Bool.or_eq_false_iff, decide_eq_false_iff_not]; omega
  rw [if_neg (by rw [e]; simp), if_neg q]
  obtain ⟨m, hm⟩ : ∃ m, c.length = m + 1 := ⟨c.length - 1, by omega⟩
  have hz : ix (List.replicate (Int.toNat (c.length : Int)) ((⟨false, 0, (⟨0, 0, 0, 0, 0, 0, 0, 0⟩ : JC)⟩ : Jc) : Jc)) 0 = some ⟨false, 0, ⟨0, 0, 0, 0, 0, 0, 0, 0⟩⟩ := by
   rw [Int.toNat_natCast, hm]; rfl
  rw [chk_bind (by simp only [lim]; omega), hz, Option.bind_some, chk_bind (by simp only [szMax]; omega)]
  have hR : PR c.length ((List.replicate (Int.toNat (c.length : Int)) ((⟨false, 0, (⟨0, 0, 0, 0, 0, 0, 0, 0⟩ : JC)⟩ : Jc) : Jc)).set ((0 : Int).toNat) ⟨true, 0, ⟨0, 0, 0, 0, 0, 0, 0, 0⟩⟩) B0 := by
   rw [Int.toNat_natCast]
   refine ⟨by simp, fun i s hs => ?_⟩
   rw [show ((0 : Int)).toNat = 0 from rfl] at hs
   unfold B0
   by_cases q0 : i = 0
   ·subst q0
    rw [List.getElem?_set_self (by simp; omega)] at hs
    cases hs
    refine ⟨rfl, fun d σ h => ?_⟩
    simp only [if_true] at h
    cases h
    refine ⟨rfl, by omega, by omega, ?_, fun n _ _ => ?_⟩
    ·have z : W64 0 := ⟨by decide, by decide⟩
     exact ⟨z, z, z, z, z, z, z, z⟩
    ·have : ∀ k, (wl ⟨0, 0, 0, 0, 0, 0, 0, 0⟩).getD k 0 = 0 := fun k => by
      match k with
      | 0 | 1 | 2 | 3 | 4 | 5 | 6 | 7 => rfl
      | k + 8 => simp [wl]
     unfold bitW
     rw [this]
     simp
   ·rw [List.getElem?_set_ne (fun e => q0 e.symm)] at hs
    have := List.mem_of_getElem? hs
    rw [List.mem_replicate] at this
    rw [this.2, if_neg q0]
    exact ⟨rfl, fun d σ h => by cases h⟩
  obtain ⟨G, b, h1, h2⟩ := pwalk (by omega) hS m 0 0 _ B0 (by omega) hR
  rw [List.drop_zero] at h1 h2
  rw [h1, Option.bind_some, el_ret]
  exact ⟨G, b, rfl, h2⟩
theorem Check45_pure {c : List I} (hS : ∀ x ∈ c, x.S.length ≤ 100000) : JaI c = some (if (depthOf c).isSome = true then none else some 2) := by
 obtain ⟨G, b, h1, h2⟩ := walk_pure hS
 unfold JaI
 rw [h1, Option.bind_some]
 cases q : depthOf c with
 | none => rw [q] at h2; have h2 : b = false := h2; rw [h2]; rfl
 | some g => rw [q] at h2; rw [h2.1]; rfl
end Rt.Rc
set_option linter.unusedVariables false
set_option linter.unusedSimpArgs false
open Go Go.SL Go.Proofs Pl
namespace Rt.Rc
abbrev RS := Jx
def Asc (l : List Int) : Prop := l.Pairwise (· < ·)
theorem both_L2 {e : Int} : ∀ (b : List Int) (i : Nat) (y : List Int), Asc b → y.length ≤ 1000000 → Jac e b i y = some (if e ∈ b then y ++ [e] else y)
 | [], i, y, _, _ => by simp [Jac]
 | a :: b, i, y, h, hy => by
  obtain ⟨h1, h2⟩ := List.pairwise_cons.1 h
  rw [Jac]
  by_cases q : e = a
  ·have hn : e ∉ b := fun hb => by have := h1 e hb; omega
   rw [if_pos (by simpa using q), chk_bind (by simp [lim]; omega)]
   have n2 : ∀ (l : List Int) (j : Nat) (z : List Int), (∀ w ∈ l, e < w) → Jac e l j z = some z := fun l => by
    induction l with
    | nil => intro j z _; simp [Jac]
    | cons w l ih =>
     intro j z hl
     have := hl w (by simp)
     rw [Jac, if_neg (by simp; omega)]
     exact ih (j + 1) z fun v hv => hl v (by simp [hv])
   rw [n2 b _ _ fun w hw => by rw [q]; exact h1 w hw, if_pos (by simp [q])]
  ·rw [if_neg (by simpa using q), both_L2 b (i + 1) y h2 hy]
   simp [q]
theorem both_L0 {b : List Int} (hb : Asc b) (hbl : b.length ≤ 100000) : ∀ (a : List Int) (i : Nat) (y : List Int), y.length + a.length ≤ 1000000 → JaY b a i y = some (y ++ a.filter (fun n => decide (n ∈ b)))
 | [], i, y, _ => by simp [JaY]
 | e :: a, i, y, h => by
  simp only [List.length_cons] at h
  rw [JaY, chk_bind (by simp only [szMax]; omega), both_L2 b 0 y hb (by omega), Option.bind_some]
  by_cases q : e ∈ b
  ·rw [if_pos q, both_L0 hb hbl a (i + 1) _ (by simp only [List.length_append, List.length_cons, List.length_nil]; omega)]
   simp [q]
  ·rw [if_neg q, both_L0 hb hbl a (i + 1) _ (by omega)]
   simp [q]
theorem both_eq {a b : List Int} (hb : Asc b) (ha : a.length ≤ 100000) (hbl : b.length ≤ 100000) : Jbt a b = some (a.filter (fun n => decide (n ∈ b))) := by
 unfold Jbt
 rw [chk_bind (by simp only [szMax]; omega), both_L0 hb hbl a 0 [] (by simp; omega), Option.bind_some, List.nil_append]
theorem ints1 {l : List Int} {n : Int} (hl : Asc l) : JbK (l.filter (fun m => decide (m ∈ [n]))) [n] = some (decide (n ∈ l)) := by
 have e : l.filter (fun m => decide (m ∈ [n])) = if n ∈ l then [n] else [] := by
  induction l with
  | nil => rfl
  | cons a l ih =>
   obtain ⟨h1, h2⟩ := List.pairwise_cons.1 hl
   have ih := ih h2
   by_cases q : a = n
   ·have hn : n ∉ l := fun h => by have := h1 n h; omega
    rw [if_neg hn] at ih
    rw [List.filter_cons, ih]
    simp [q]
   ·have q' : ¬ n = a := fun h => q h.symm
    rw [List.filter_cons, ih]
    simp [q, q']
 rw [e]
 by_cases q : n ∈ l
 ·rw [if_pos q, decide_eq_true q]
  unfold JbK
  rw [if_neg (by simp), chk_bind (by simp [szMax]), Jbj, show ix [n] (((0 : Nat)) : Int) = some n from rfl, Option.bind_some, if_neg (by simp), Jbj]
  rfl
 ·rw [if_neg q, decide_eq_false q]
  unfold JbK
  rw [if_pos (by simp)]
def wth (n : Int) : List Int → List Int
 | [] => [n]
 | e :: l => if n < e then n :: e :: l else if n = e then e :: l else e :: wth n l
theorem wth_mem {n m : Int} : ∀ {l : List Int}, m ∈ wth n l ↔ m = n ∨ m ∈ l
 | [] => by simp [wth]
 | e :: l => by
  rw [wth]
  split
  ·simp
  ·split
   ·rename_i h; subst h; simp
   ·rw [List.mem_cons, wth_mem, List.mem_cons]
    constructor
    ·rintro (h | h | h)
     ·exact .inr (.inl h)
     ·exact .inl h
     ·exact .inr (.inr h)
    ·rintro (h | h | h)
     ·exact .inr (.inl h)
     ·exact .inl h
     ·exact .inr (.inr h)
theorem wth_asc {n : Int} : ∀ {l : List Int}, Asc l → Asc (wth n l)
 | [], _ => by simp [wth, Asc]
 | e :: l, h => by
  obtain ⟨h1, h2⟩ := List.pairwise_cons.1 h
  rw [wth]
  split
  ·rename_i hn
   refine List.pairwise_cons.2 ⟨fun m hm => ?_, h⟩
   rcases List.mem_cons.1 hm with rfl | hm
   ·exact hn
   ·have := h1 m hm; omega
  ·split
   ·exact h
   ·refine List.pairwise_cons.2 ⟨fun m hm => ?_, wth_asc h2⟩
    rcases wth_mem.1 hm with rfl | hm
    ·omega
    ·exact h1 m hm
theorem wth_len {n : Int} : ∀ {l : List Int}, (wth n l).length ≤ l.length + 1
 | [] => by simp [wth]
 | e :: l => by
  rw [wth]
  split
  ·simp
  ·split
   ·simp
   ·have := wth_len (n := n) (l := l)
    simp only [List.length_cons]; omega
theorem with_true {n : Int} : ∀ (l : List Int) (i : Nat) (y : List Int), (∀ m ∈ l, n < m) → y.length + l.length ≤ 1000000 → J6 n l i y true = some (y ++ l, true)
 | [], i, y, _, _ => by simp [J6]
 | e :: l, i, y, h, hl => by
  simp only [List.length_cons] at hl
  have := h e (by simp)
  rw [J6, if_neg (by simp), if_pos (by simp; omega), chk_bind (by simp [lim]; omega), with_true l (i + 1) _ (fun m hm => h m (by simp [hm])) (by simp; omega)]
  simp
theorem with_false {n : Int} : ∀ (l : List Int) (i : Nat) (y : List Int), Asc l → y.length + l.length ≤ 100000 → ∃ z b, J6 n l i y false = some (z, b) ∧ (if b = true then z else z ++ [n]) = y ++ wth n l ∧ z.length ≤ 1000000
 | [], i, y, _, hl => ⟨y, false, rfl, rfl, by omega⟩
 | e :: l, i, y, h, hl => by
  simp only [List.length_cons] at hl
  obtain ⟨h1, h2⟩ := List.pairwise_cons.1 h
  rw [J6, wth]
  by_cases q : n ≤ e
  ·rw [if_pos (by simpa using q), chk_bind (by simp [lim]; omega)]
   by_cases q2 : e = n
   ·rw [if_neg (by simpa using q2), with_true l (i + 1) _ (fun m hm => by have := h1 m hm; omega) (by simp; omega), if_neg (by omega), if_pos q2.symm]
    exact ⟨_, _, rfl, by simp [q2], by simp; omega⟩
   ·rw [if_pos (by simpa using q2), chk_bind (by simp [lim]; omega), with_true l (i + 1) _ (fun m hm => by have := h1 m hm; omega) (by simp; omega), if_pos (by omega)]
    exact ⟨_, _, rfl, by simp, by simp; omega⟩
  ·rw [if_neg (by simpa using q), if_pos (by simp; omega), chk_bind (by simp [lim]; omega), if_neg (by omega), if_neg (by omega)]
   obtain ⟨z, b, e1, e2, e3⟩ := with_false l (i + 1) (y ++ [e]) h2 (by simp; omega)
   exact ⟨z, b, e1, by rw [e2]; simp, e3⟩
theorem with_eq {l : List Int} {n : Int} (h : Asc l) (hl : l.length ≤ 10000) : JbM l n = some (wth n l) := by
 unfold JbM
 obtain ⟨z, b, e1, e2, e3⟩ := with_false (n := n) l 0 [] h (by simp; omega)
 rw [chk_bind (by simp only [szMax]; omega), e1, Option.bind_some]
 cases b with
 | true => rw [if_neg (by simp)]; simpa using e2
 | false => rw [if_pos (by simp), chk_bind (by simp [lim]; omega)]; simpa using e2
structure SL (l : List Int) (σ : Int → Bool) : Prop where
 asc : Asc l
 rng : ∀ n ∈ l, 0 ≤ n ∧ n ≤ 511
 mem : ∀ n : Int, 0 ≤ n → n ≤ 511 → (n ∈ l ↔ σ n = true)
structure RR (len : Nat) (L : List RS) (B : AB) : Prop where
 last : B len = none
 len : L.length = len + 1
 bits : ∀ i s, L[i]? = some s → s.reached = (B i).isSome ∧ ∀ d σ, B i = some (d, σ) → s.depth = d ∧ 0 ≤ d ∧ d ≤ i ∧ s.stored.length ≤ i ∧ SL s.stored σ
theorem SL.both {a b : List Int} {σ τ : Int → Bool} (ha : SL a σ) (hb : SL b τ) : SL (a.filter (fun n => decide (n ∈ b))) (fun n => σ n && τ n) :=
 ⟨ha.asc.filter _, fun n hn => ha.rng n (List.mem_filter.1 hn).1, fun n h0 h1 => by
  rw [List.mem_filter, ha.mem n h0 h1, decide_eq_true_eq, hb.mem n h0 h1]; simp⟩
theorem SL.with {x : I} {l : List Int} {σ : Int → Bool} (h : SL l σ) (q : x.Op = 4) (hx : 0 ≤ x.N ∧ x.N ≤ 511) : SL (wth x.N l) (nxt x σ) :=
 ⟨wth_asc h.asc, fun n hn => by rcases wth_mem.1 hn with rfl | hn; exact hx; exact h.rng n hn, fun n h0 h1 => by
  unfold nxt
  rw [if_pos q, wth_mem, h.mem n h0 h1]; simp⟩
theorem rjoin {len k : Nat} {L : List RS} {B : AB} {l : List Int} {d : Int} {σ : Int → Bool} (h : RR len L B) (hk : k < len) (hl : len ≤ 2048) (ht : SL l σ) (hd : 0 ≤ d ∧ d ≤ k) (hll : l.length ≤ k) :
  ∃ s, ix L (k : Int) = some s ∧ ∃ s' b, Jbk s d l = some (s', b) ∧ match joinA (B k) d σ with
   | none => b = false
   | some a => b = true ∧ RR len (L.set k s') (updA B k a) := by
 have hk' : k < L.length := by rw [h.len]; omega
 obtain ⟨s, hs⟩ : ∃ s, L[k]? = some s := ⟨L[k], List.getElem?_eq_getElem _⟩
 obtain ⟨h1, h2⟩ := h.bits k s hs
 have up : ∀ (a : AS) (s' : RS), (s'.reached = a.isSome ∧ ∀ d σ, a = some (d, σ) → s'.depth = d ∧ 0 ≤ d ∧ d ≤ k ∧ s'.stored.length ≤ k ∧ SL s'.stored σ) → RR len (L.set k s') (updA B k a) := fun a s' ha =>
  ⟨by unfold updA; rw [if_neg (by omega)]; exact h.last, by rw [List.length_set]; exact h.len, fun i z hz => by
   unfold updA
   by_cases q : i = k
   ·subst q
    rw [List.getElem?_set_self hk'] at hz
    cases hz
    simp only [if_true]
    exact ha
   ·rw [List.getElem?_set_ne (fun e => q e.symm)] at hz
    simp only [if_neg q]
    exact h.bits i z hz⟩
 refine ⟨s, by unfold ix; rw [if_pos (by omega), Int.toNat_natCast]; exact hs, ?_⟩
 unfold Jbk
 cases hB : B k with
 | none =>
  rw [hB] at h1
  have h1 : s.reached = false := h1
  rw [if_pos (by simp [h1])]
  exact ⟨_, _, rfl, rfl, up (some (d, σ)) _ ⟨rfl, fun d' σ' e => by cases e; exact ⟨rfl, hd.1, hd.2, hll, ht⟩⟩⟩
 | some p =>
  obtain ⟨d0, σ0⟩ := p
  rw [hB] at h1
  have h1 : s.reached = true := h1
  obtain ⟨g1, g2, g3, g4, g5⟩ := h2 d0 σ0 hB
  rw [if_neg (by simp [h1]), both_eq ht.asc (by omega) (by omega), Option.bind_some]
  refine ⟨_, _, rfl, ?_⟩
  simp only [joinA]
  by_cases q : d0 = d
  ·rw [if_pos q]
   simp only
   refine ⟨by simp [g1, q], up _ _ ⟨rfl, fun d' σ' e => ?_⟩⟩
   cases e
   refine ⟨q.symm, g2, g3, ?_, g5.both ht⟩
   have := List.length_filter_le (fun n => decide (n ∈ l)) s.stored
   simp only
   omega
  ·rw [if_neg q]
   simp [g1, q]
theorem bsr {α : Type} {o : Option α} : o.bind (fun x => some x) = o := by cases o <;> rfl
theorem far_near {len i : Nat} {x : I} {B : AB} {d : Int} {σ : Int → Bool} : (far len i x B d σ).bind (fun B1 => near i x B1 d σ) = (near i x B d σ).bind (fun B1 => far len i x B1 d σ) := by
 unfold far near
 cases q : isJ x with
 | false =>
  simp only [Bool.false_eq_true, if_false, Option.bind_some]
  exact bsr.symm
 | true =>
  simp only [if_true]
  by_cases q9 : x.Op = 9
  ·simp only [if_pos q9, Option.bind_some]
   exact bsr
  ·simp only [if_neg q9]
   by_cases q2 : x.N ≤ i ∨ x.N ≥ len
   ·simp only [if_pos q2, Option.bind_none]
    cases joinA (B (i + 1)) d σ <;> rfl
   ·simp only [if_neg q2]
    by_cases e : x.N.toNat = i + 1
    ·rw [e]
    ·have e1 : ∀ a, updA B x.N.toNat a (i + 1) = B (i + 1) := fun a => by unfold updA; rw [if_neg (fun h => e h.symm)]
     have e2 : ∀ a, updA B (i + 1) a x.N.toNat = B x.N.toNat := fun a => by unfold updA; rw [if_neg e]
     cases q3 : joinA (B x.N.toNat) d σ with
     | none =>
      cases q4 : joinA (B (i + 1)) d σ with
      | none => rfl
      | some b =>
       simp only [Option.map_some, Option.map_none, Option.bind_some, Option.bind_none]
       rw [e2, q3]; rfl
     | some a =>
      cases q4 : joinA (B (i + 1)) d σ with
      | none =>
       simp only [Option.map_some, Option.map_none, Option.bind_some, Option.bind_none]
       rw [e1, q4]; rfl
      | some b =>
       simp only [Option.map_some, Option.bind_some]
       rw [e1, e2, q3, q4]
       simp only [Option.map_some]
       congr 1
       funext j
       unfold updA
       by_cases w1 : j = i + 1
       ·have : ¬ j = x.N.toNat := fun h => e (by omega)
        simp [w1, show ¬ i + 1 = x.N.toNat from fun h => e h.symm]
       ·simp [w1]
theorem rway {c : List I} {i k : Nat} {x : I} {s0 : RS} {w : Int × Int × Bool} {l ws : List Int} {j : Nat} {L : List RS} {B : AB} {d : Int} {σ : Int → Bool} (h : RR c.length L B) (hc : c.length ≤ 2048) (hi : i < k) (hk : k < c.length) (ht : SL l σ) (hd : (s0.depth - w.1) + w.2.1 = d) (hd0 : 0 ≤ d ∧ d ≤ k) (hll : l.length ≤ k) :
  match joinA (B k) d σ with
   | none => JB i (c.map cv) (cv x) s0 w l ((k : Int) :: ws) j L = some (Fl.ret (0, false))
   | some a => ∃ L', JB i (c.map cv) (cv x) s0 w l ((k : Int) :: ws) j L = JB i (c.map cv) (cv x) s0 w l ws (j + 1) L' ∧ RR c.length L' (updA B k a) := by
 obtain ⟨s, e1, s', b, e2, e3⟩ := rjoin h hk hc ht hd0 hll
 have e : JB i (c.map cv) (cv x) s0 w l ((k : Int) :: ws) j L = if (!b) = true then some (Fl.ret (0, false)) else JB i (c.map cv) (cv x) s0 w l ws (j + 1) (L.set k s') := by
  rw [JB, if_neg (by simp; omega), if_neg (by simp; omega), e1, Option.bind_some, hd, e2, Option.bind_some, Option.bind_some, Int.toNat_natCast]
 cases q : joinA (B k) d σ with
 | none =>
  rw [q] at e3
  have e3 : b = false := e3
  simp only
  rw [e, e3]; rfl
 | some a =>
  rw [q] at e3
  obtain ⟨e3, e4⟩ := e3
  simp only
  refine ⟨_, ?_, e4⟩
  rw [e, e3]; rfl
theorem rbad {c : List I} {i : Nat} {x : I} {s0 : RS} {w : Int × Int × Bool} {l ws : List Int} {j : Nat} {L : List RS} {n : Int} (h : n ≤ i ∨ n ≥ c.length) (hx : x.Op ≠ 12) : JB i (c.map cv) (cv x) s0 w l (n :: ws) j L = some (Fl.ret (0, false)) := by
 rw [JB]
 by_cases q : n ≤ i
 ·rw [if_pos (by simpa using q)]
 ·rw [if_neg (by simpa using q), if_pos]
  have : n ≥ c.length := by omega
  simp [cv, hx, this]
end Rt.Rc
set_option linter.unusedVariables false
set_option linter.unusedSimpArgs false
open Go Go.SL Go.Proofs Pl
namespace Rt.Rc
def RG (c : List I) (i : Nat) (g : Int) (L : List RS) (B : AB) : Prop :=
 ∃ r, JaN (c.map cv) ((c.drop i).map cv) i g L = some r ∧ match wk c.length i (c.drop i) B g with
  | some G => ∃ L', r = Fl.go (G, L')
  | none => r = Fl.ret (0, false)
set_option maxRecDepth 100000 in
theorem rstep {c : List I} (hc : c.length ≤ 2048) (hS : ∀ x ∈ c, x.S.length ≤ 100000) {i : Nat} {g : Int} {L : List RS} {B : AB} (hlt : i < c.length) (hR : RR c.length L B) (ih : ∀ g L B, (i + 1 < c.length → RR c.length L B) → RG c (i + 1) g L B) : RG c i g L B := by
 unfold RG at ih ⊢
 obtain ⟨s, hs⟩ : ∃ s, L[i]? = some s := ⟨L[i]'(by rw [hR.len]; omega), List.getElem?_eq_getElem _⟩
 have hsx : ix L (i : Int) = some s := by unfold ix; rw [if_pos (by omega), Int.toNat_natCast]; exact hs
 obtain ⟨r1, r2⟩ := hR.bits i s hs
 rw [List.drop_eq_getElem_cons hlt, List.map_cons]
 have hxS := hS c[i] (List.getElem_mem hlt)
 obtain ⟨t, l, e1, e2⟩ := effect_pure (x := c[i]) hxS
 generalize hx : c[i] = x at *
 rw [JaN, e1, Option.bind_some, hsx, Option.bind_some, wk_cons]
 have hlast : decide ((i : Int) = (((c.map cv).length : Int) - 1)) = decide (i + 1 = c.length) := by rw [decide_eq_decide, List.length_map]; omega
 rw [hlast, chk_bind (by rw [List.length_map]; constructor <;> omega)]
 have fail : ∀ {o : Option Int}, o = none → ∃ r, some (Fl.ret (0, false)) = (some r : Option (Fl (Int × Bool) (Int × List RS))) ∧ match o with
  | some G => ∃ L', r = Fl.go (G, L')
  | none => r = Fl.ret (0, false) := fun h => ⟨_, rfl, by rw [h]⟩
 cases he : eff x with
 | none =>
  rw [if_pos (by simp), Option.bind_some, if_pos rfl]
  exact fail (by simp [stA, he])
 | some tl =>
 obtain ⟨t', l'⟩ := tl
 obtain ⟨rfl, rfl⟩ := e2 t' l' he
 obtain ⟨b1, b2, b3, b4, b5, b6⟩ := eff_bd he
 cases hB : B i with
 | none =>
  rw [hB] at r1
  have r1 : s.reached = false := r1
  rw [if_pos (by simp [r1]), Option.bind_some, if_pos rfl]
  exact fail (by simp [stA, he, hB])
 | some p =>
 obtain ⟨d, σ⟩ := p
 rw [hB] at r1
 have r1 : s.reached = true := r1
 obtain ⟨h1, h2, h3, h4, h5⟩ := r2 d σ hB
 by_cases q1 : d < t
 ·rw [if_pos (by simp [h1, q1]), Option.bind_some, if_pos rfl]
  exact fail (by simp [stA, he, hB, q1])
 rw [if_neg (by simp [r1, h1, q1]), Option.bind_some]
 have hcv : (cv x).Op = x.Op := rfl
 have hcn : (cv x).N = x.N := rfl
 rw [hcv, hcn]
 by_cases q2 : (x.Op = 12) ↔ (i + 1 = c.length)
 ·have e : (decide (x.Op = 12) == decide (i + 1 = c.length)) = true := by
   by_cases w2 : i + 1 = c.length
   ·simp [q2.2 w2, w2]
   ·have w1 : ¬ x.Op = 12 := fun w => w2 (q2.1 w)
    simp [w1, w2]
  rw [e, if_neg (by simp)]
  by_cases q0 : x.Op = 12 ∧ d > 0
  ·rw [if_pos (by simp [q0.1, h1, q0.2])]
   have hn3 : ¬ x.Op = 3 := by omega
   refine fail ?_
   have : ¬ d = 0 := by omega
   simp [stA, he, hB, q1, q2, q0.1, this, hn3]
  rw [if_neg (by simp [h1]; intro w; omega)]
  have hload : (if decide (x.Op = 3) = true then (Jbt s.stored [x.N]).bind fun x93 => (JbK x93 [x.N]).bind fun x97 => some (!x97) else some false) = some (decide (x.Op = 3 ∧ σ x.N = false)) := by
   by_cases w : x.Op = 3
   ·have := b6 (.inl w)
    rw [if_pos (by simpa using w), both_eq (by simp [Asc]) (by omega) (by simp), Option.bind_some, ints1 h5.asc, Option.bind_some]
    have hm := h5.mem x.N this.1 this.2
    by_cases w2 : x.N ∈ s.stored
    ·simp [w, w2, hm.1 w2]
    ·have : σ x.N = false := by
      cases q : σ x.N with
      | false => rfl
      | true => exact absurd (hm.2 q) w2
     simp [w, w2, this]
   ·rw [if_neg (by simpa using w)]; simp [w]
  rw [hload, Option.bind_some]
  by_cases q3 : x.Op = 3 ∧ σ x.N = false
  ·rw [if_pos (by simpa using q3)]
   exact fail (by simp [stA, he, hB, q3])
  rw [if_neg (by simpa using q3), chk_bind (by simp only; constructor <;> omega), chk_bind (by simp only; constructor <;> omega)]
  have hst : stA c.length i x B g = if x.Op = 12 then (if d = 0 then some (B, max (max g d) (d + (l - t))) else none) else (far c.length i x B (d + (l - t)) (nxt x σ)).bind fun B1 => (near i x B1 (d + (l - t)) (nxt x σ)).map fun B2 => (B2, max (max g d) (d + (l - t))) := by
   unfold stA
   rw [he, hB]
   simp only
   rw [if_neg]
   rintro (w | w | w)
   ·exact q1 w
   ·exact w q2
   ·exact q3 w
  rw [hst]
  obtain ⟨sl, hsl, hSL, hsll⟩ : ∃ sl, (if decide (x.Op = 4) = true then (JbM s.stored x.N).bind fun x114 => some x114 else some s.stored : Option (List Int)) = some sl ∧ SL sl (nxt x σ) ∧ sl.length ≤ i + 1 := by
   by_cases w : x.Op = 4
   ·have := b6 (.inr w)
    rw [if_pos (by simpa using w), with_eq h5.asc (by omega), Option.bind_some]
    have hw := wth_len (n := x.N) (l := s.stored)
    exact ⟨_, rfl, h5.with w this, by omega⟩
   ·rw [if_neg (by simpa using w)]
    refine ⟨_, rfl, ?_, by omega⟩
    have : nxt x σ = σ := by unfold nxt; rw [if_neg w]
    rw [this]; exact h5
  rw [hsl, Option.bind_some]
  have hmx : ∀ a b : Int, max (max g s.depth) ((s.depth - t) + l) = max (max g d) (d + (l - t)) := fun _ _ => by rw [h1]; congr 1; omega
  have hdd : (s.depth - t) + l = d + (l - t) := by rw [h1]; omega
  by_cases q12 : x.Op = 12
  ·-- the end
   have q4 := q2.1 q12
   obtain ⟨rfl, rfl⟩ := b5 q12
   have d0 : d = 0 := by omega
   rw [if_pos q12, if_pos d0, if_neg (by simp [q12]), Option.bind_some, if_neg (by simp [q12]), Option.bind_some, chk_bind (by simp [szMax])]
   have hkL : c.length < L.length := by rw [hR.len]; omega
   have hlx : ix L ((i : Int) + 1) = some L[c.length] := by
    have := ixn (s := L) hkL
    rw [← this]; congr 1; omega
   have hz : (L[c.length]).reached = false := by
    have := (hR.bits c.length _ (List.getElem?_eq_getElem hkL)).1
    rw [hR.last] at this; exact this
   rw [JB, if_neg (by simp only [decide_eq_true_eq]; omega), if_neg (by simp [cv, q12]), hlx, Option.bind_some, Jbk, if_pos (by simp [hz]), Option.bind_some, Option.bind_some, if_neg (by simp), JB, Option.bind_some, el_go, Option.bind_some]
   simp only
   rw [hmx 0 0]
   exact ih _ _ B fun h => by omega
  ·have q4 : ¬ i + 1 = c.length := fun w => q12 (q2.2 w)
   rw [if_neg q12, show (far c.length i x B (d + (l - t)) (nxt x σ)).bind (fun B1 => (near i x B1 (d + (l - t)) (nxt x σ)).map fun B2 => (B2, max (max g d) (d + (l - t)))) = ((far c.length i x B (d + (l - t)) (nxt x σ)).bind (fun B1 => near i x B1 (d + (l - t)) (nxt x σ))).map fun B2 => (B2, max (max g d) (d + (l - t))) by
    cases far c.length i x B (d + (l - t)) (nxt x σ) <;> rfl, far_near]
   have fin : ∀ (o : Option (List RS)) (a : Option AB), (match a with | none => o = none | some B' => ∃ L', o = some L' ∧ RR c.length L' B') → ∃ r, ((match o with | none => some (Fl.ret (0, false)) | some L' => some (Fl.go L') : Option (Fl (Int × Bool) (List RS))).bind fun s2 => s2.el (fun r => some (Fl.ret r)) fun t2 => JaN (c.map cv) ((c.drop (i + 1)).map cv) (i + 1) (max (max g s.depth) ((s.depth - t) + l)) t2) = some r ∧ match (a.map fun B2 => (B2, max (max g d) (d + (l - t)))).bind fun r => wk c.length (i + 1) (c.drop (i + 1)) r.1 r.2 with
     | some G => ∃ L', r = Fl.go (G, L')
     | none => r = Fl.ret (0, false) := fun o a h => by
    cases a with
    | none =>
     have h : o = none := h
     subst h
     exact ⟨_, rfl, rfl⟩
    | some B' =>
     obtain ⟨L', rfl, hR'⟩ := h
     simp only [Option.bind_some, el_go, Option.map_some]
     rw [hmx 0 0]
     exact ih _ L' B' fun _ => hR'
   by_cases q9 : x.Op = 9
   ·-- a jump
    have hj : isJ x = true := by simp [isJ, q9]
    rw [if_pos (by simpa using q9), Option.bind_some, if_neg (by simp [q9]), Option.bind_some, chk_bind (by simp [szMax])]
    have hnear : near i x B (d + (l - t)) (nxt x σ) = some B := by unfold near; rw [if_pos q9]
    rw [hnear, Option.bind_some]
    unfold far
    rw [if_pos hj]
    by_cases q5 : x.N ≤ i ∨ x.N ≥ c.length
    ·rw [if_pos q5, rbad q5 q12]
     exact fin none none rfl
    ·rw [if_neg q5]
     obtain ⟨k, hk⟩ : ∃ k : Nat, x.N = (k : Int) := ⟨x.N.toNat, by omega⟩
     have hw := rway (x := x) (s0 := s) (w := (t, l, (some (t, l)).isSome)) (ws := []) (j := 0) hR hc (show i < k by omega) (show k < c.length by omega) hSL hdd ⟨by omega, by omega⟩ (by omega)
     rw [hk, Int.toNat_natCast]
     cases q6 : joinA (B k) (d + (l - t)) (nxt x σ) with
     | none =>
      rw [q6] at hw
      simp only at hw
      rw [hw]
      exact fin none none rfl
     | some a =>
      rw [q6] at hw
      obtain ⟨L', w1, w2⟩ := hw
      rw [w1, JB]
      exact fin (some L') (some (updA B k a)) ⟨L', rfl, w2⟩
   ·rw [if_neg (by simpa using q9), Option.bind_some]
    have hw := rway (x := x) (s0 := s) (w := (t, l, (some (t, l)).isSome)) (ws := if x.Op = 10 then [x.N] else []) (j := 0) hR hc (show i < i + 1 by omega) (show i + 1 < c.length by omega) hSL hdd ⟨by omega, by omega⟩ hsll
    have hws : (if decide (x.Op = 10) = true then (chk (([((i : Int) + 1)] : List Int).length + [x.N].length ≤ lim)).bind fun _ => some ([((i : Int) + 1)] ++ [x.N]) else some [((i : Int) + 1)] : Option (List Int)) = some (((i + 1 : Nat) : Int) :: if x.Op = 10 then [x.N] else []) := by
     by_cases w : x.Op = 10
     ·rw [if_pos (by simpa using w), chk_bind (by simp [lim]), if_pos w]; rfl
     ·rw [if_neg (by simpa using w), if_neg w]; rfl
    rw [hws, Option.bind_some, chk_bind (by split <;> simp [szMax])]
    unfold near
    rw [if_neg q9]
    cases q6 : joinA (B (i + 1)) (d + (l - t)) (nxt x σ) with
    | none =>
     rw [q6] at hw
     simp only at hw
     rw [hw]
     exact fin none none rfl
    | some a =>
     rw [q6] at hw
     obtain ⟨L', w1, w2⟩ := hw
     rw [w1]
     simp only [Option.map_some, Option.bind_some]
     unfold far
     by_cases q10 : x.Op = 10
     ·have hj : isJ x = true := by simp [isJ, q10]
      rw [if_pos q10, if_pos hj]
      by_cases q5 : x.N ≤ i ∨ x.N ≥ c.length
      ·rw [if_pos q5, rbad q5 q12]
       exact fin none none rfl
      ·rw [if_neg q5]
       obtain ⟨k, hk⟩ : ∃ k : Nat, x.N = (k : Int) := ⟨x.N.toNat, by omega⟩
       have hw2 := rway (x := x) (s0 := s) (w := (t, l, (some (t, l)).isSome)) (ws := []) (j := 1) w2 hc (show i < k by omega) (show k < c.length by omega) hSL hdd ⟨by omega, by omega⟩ (by omega)
       rw [hk, Int.toNat_natCast]
       cases q7 : joinA (updA B (i + 1) a k) (d + (l - t)) (nxt x σ) with
       | none =>
        rw [q7] at hw2
        simp only at hw2
        rw [hw2]
        exact fin none none rfl
       | some a2 =>
        rw [q7] at hw2
        obtain ⟨L2, v1, v2⟩ := hw2
        rw [v1, JB]
        exact fin (some L2) (some (updA (updA B (i + 1) a) k a2)) ⟨L2, rfl, v2⟩
     ·have hj : isJ x = false := by simp [isJ, q9, q10]
      rw [if_neg q10, if_neg (by simp [hj]), JB]
      exact fin (some L') (some (updA B (i + 1) a)) ⟨L', rfl, w2⟩
 ·have e : (decide (x.Op = 12) == decide (i + 1 = c.length)) = false := by
   by_cases w1 : x.Op = 12
   ·by_cases w2 : i + 1 = c.length
    ·exact absurd (by simp [w1, w2]) q2
    ·simp [w1, w2]
   ·by_cases w2 : i + 1 = c.length
    ·simp [w1, w2]
    ·exact absurd (by simp [w1, w2]) q2
  rw [e, if_pos (by simp)]
  exact fail (by simp [stA, he, hB, q2])
theorem rwalk {c : List I} (hc : c.length ≤ 2048) (hS : ∀ x ∈ c, x.S.length ≤ 100000) : ∀ (m i : Nat) (g : Int) (L : List RS) (B : AB), i + m = c.length → (i < c.length → RR c.length L B) → RG c i g L B
 | 0, i, g, L, B, hi, _ => by
  unfold RG
  rw [List.drop_eq_nil_of_le (by omega)]
  exact ⟨_, rfl, L, rfl⟩
 | m + 1, i, g, L, B, hi, hR => rstep hc hS (by omega) (hR (by omega)) fun g L B hR => rwalk hc hS m (i + 1) g L B (by omega) hR
theorem Depth_pure {c : List I} (hS : ∀ x ∈ c, x.S.length ≤ 100000) : JbS (c.map cv) = some (match depthOf c with
  | some G => (G, true)
  | none => (0, false)) := by
 unfold JbS depthOf
 rw [List.length_map]
 by_cases q : c.length < 1 ∨ c.length > 2048
 ·have e : (decide ((c.length : Int) < 1) || decide ((c.length : Int) > 2048)) = true := by
   simp only [Bool.or_eq_true, decide_eq_true_eq]; omega
  rw [if_pos e, if_pos q]
 ·have e : (decide ((c.length : Int) < 1) || decide ((c.length : Int) > 2048)) = false := by
   simp only [Bool.or_eq_false_iff, decide_eq_false_iff_not]; omega
  rw [if_neg (by rw [e]; simp), if_neg q]
  have hn : Int.toNat ((c.length : Int) + 1) = c.length + 1 := by omega
  have hz : ix (List.replicate (Int.toNat ((c.length : Int) + 1)) ((⟨false, 0, []⟩ : Jx) : Jx)) 0 = some ⟨false, 0, []⟩ := by
   rw [hn]; rfl
  rw [chk_bind (by constructor <;> omega), chk_bind (by simp only [lim]; omega), hz, Option.bind_some, chk_bind (by simp only [szMax]; omega)]
  have hR : RR c.length ((List.replicate (Int.toNat ((c.length : Int) + 1)) ((⟨false, 0, []⟩ : Jx) : Jx)).set ((0 : Int).toNat) ⟨true, 0, []⟩) B0 := by
   rw [hn]
   refine ⟨by unfold B0; rw [if_neg (by omega)], by simp, fun i s hs => ?_⟩
   rw [show ((0 : Int)).toNat = 0 from rfl] at hs
   unfold B0
   by_cases q0 : i = 0
   ·subst q0
    rw [List.getElem?_set_self (by simp)] at hs
    cases hs
    refine ⟨rfl, fun d σ h => ?_⟩
    simp only [if_true] at h
    cases h
    exact ⟨rfl, by omega, by omega, by simp, by simp [Asc], fun n hn => (by cases hn), fun n _ _ => by simp⟩
   ·rw [List.getElem?_set_ne (fun e => q0 e.symm)] at hs
    have := List.mem_of_getElem? hs
    rw [List.mem_replicate] at this
    rw [this.2, if_neg q0]
    exact ⟨rfl, fun d σ h => by cases h⟩
  obtain ⟨r, h1, h2⟩ := rwalk (by omega) hS c.length 0 0 _ B0 (by omega) fun _ => hR
  rw [List.drop_zero] at h1 h2
  simp only
  rw [h1, Option.bind_some]
  cases q3 : wk c.length 0 c B0 0 with
  | none => rw [q3] at h2; have h2 : r = Fl.ret (0, false) := h2; rw [h2, el_ret]
  | some G => rw [q3] at h2; obtain ⟨L', rfl⟩ := h2; rw [el_go]
end Rt.Rc
set_option linter.unusedVariables false
set_option linter.unusedSimpArgs false
open Go Go.SL Go.Proofs Pl
namespace Rt.Rc
end Rt.Rc
set_option linter.unusedVariables false
set_option linter.unusedSimpArgs false
open Go Go.SL Go.Proofs Pl
namespace Rt.Rc
theorem stA_inv {len i : Nat} {x : I} {B : AB} {g : Int} {r : AB × Int} (h : stA len i x B g = some r) : ∃ t l d σ, eff x = some (t, l) ∧ B i = some (d, σ) ∧ t ≤ d ∧ ((x.Op = 12) ↔ (i + 1 = len)) ∧ (x.Op = 3 → σ x.N = true) ∧ (x.Op = 12 → d = 0 ∧ r.1 = B) ∧
  (x.Op ≠ 12 → ∃ B1, far len i x B (d + (l - t)) (nxt x σ) = some B1 ∧ near i x B1 (d + (l - t)) (nxt x σ) = some r.1 ∧ r.2 = max (max g d) (d + (l - t))) := by
 unfold stA at h
 cases he : eff x with
 | none => rw [he] at h; cases h
 | some p =>
  obtain ⟨t, l⟩ := p
  cases hB : B i with
  | none => rw [he, hB] at h; cases h
  | some q =>
   obtain ⟨d, σ⟩ := q
   rw [he, hB] at h
   simp only at h
   split at h
   ·cases h
   ·rename_i hn
    have h1 : t ≤ d := by
     by_cases q : t ≤ d
     ·exact q
     ·exact absurd (.inl (by omega)) hn
    have h2 : (x.Op = 12) ↔ (i + 1 = len) := by
     by_cases q : (x.Op = 12) ↔ (i + 1 = len)
     ·exact q
     ·exact absurd (.inr (.inl q)) hn
    have h3 : x.Op = 3 → σ x.N = true := fun q => by
     cases e : σ x.N with
     | true => rfl
     | false => exact absurd (.inr (.inr ⟨q, e⟩)) hn
    split at h
    ·rename_i q12
     split at h
     ·rename_i d0
      cases h
      exact ⟨t, l, d, σ, rfl, rfl, h1, h2, h3, fun _ => ⟨d0, rfl⟩, fun q => absurd q12 q⟩
     ·cases h
    ·rename_i q12
     refine ⟨t, l, d, σ, rfl, rfl, h1, h2, h3, fun q => absurd q q12, fun _ => ?_⟩
     cases hf : far len i x B (d + (l - t)) (nxt x σ) with
     | none => rw [hf] at h; cases h
     | some B1 =>
      rw [hf, Option.bind_some] at h
      obtain ⟨B2, hn, e⟩ := Option.map_eq_some_iff.1 h
      cases e
      exact ⟨B1, rfl, hn, rfl⟩
end Rt.Rc
set_option linter.unusedVariables false
set_option linter.unusedSimpArgs false
open Go Go.SL Go.Proofs Pl
namespace Vary
abbrev RF := Jj
abbrev FF := Jg
def lowB (c : UInt8) : UInt8 := if (decide ((c.toNat : Int) ≥ 65) && decide ((c.toNat : Int) ≤ 90)) then c + 32 else c
def low (s : Str) : Str := s.map lowB
theorem ix_mid {α : Type} (p r : List α) (c : α) : ix (p ++ c :: r) (p.length : Int) = some c := by
 unfold ix
 rw [if_pos (by omega)]
 simp
theorem set_mid {α : Type} (p r : List α) (c v : α) : (p ++ c :: r).set (((p.length : Nat) : Int).toNat) v = (p ++ [v]) ++ r := by
 simp [List.set_append]
theorem flower_L0 : ∀ (r p : Str), J4 r.length p.length (p ++ r) = some (p ++ low r)
 | [], p => by simp [J4, low]
 | c :: r, p => by
  rw [List.length_cons, J4, ix_mid, Option.bind_some]
  have ih := flower_L0 r (p ++ [lowB c])
  simp only [List.length_append, List.length_cons, List.length_nil, Nat.zero_add] at ih
  have e : p ++ low (c :: r) = p ++ [lowB c] ++ low r := by simp [low]
  split
  ·rename_i h
   rw [Option.bind_some, set_mid, e]
   rw [show c + 32 = lowB c from by unfold lowB; rw [if_pos h]]
   exact ih
  ·rename_i h
   rw [e, show p ++ c :: r = p ++ [lowB c] ++ r from by unfold lowB; rw [if_neg h]; simp]
   exact ih
theorem flower {s : Str} (h : s.length ≤ 1073741824) : Jaw s = some (low s) := by
 unfold Jaw
 rw [chk_bind (by simp only [lim]; omega), chk_bind (by constructor <;> omega)]
 have := flower_L0 s []
 simp only [List.nil_append, List.length_nil] at this
 rw [show ((s.length : Int)).toNat = s.length from by omega, this]; rfl
theorem rlower_L0 : ∀ (s : Str) (i : Nat) (y : Str), y.length + s.length ≤ 1073741824 → J5 s i y = some (y ++ low s)
 | [], i, y, h => by simp [J5, low]
 | c :: r, i, y, h => by
  simp only [List.length_cons] at h
  have ih := rlower_L0 r (i + 1) (y ++ [lowB c]) (by simp <;> omega)
  have e : y ++ low (c :: r) = y ++ [lowB c] ++ low r := by simp [low]
  rw [J5, e, ← ih]
  split
  ·rename_i k
   rw [chk_bind (by simp only [lim, List.length_cons, List.length_nil]; omega)]
   rw [show c + 32 = lowB c from by unfold lowB; rw [if_pos k]]
  ·rename_i k
   rw [chk_bind (by simp only [lim, List.length_cons, List.length_nil]; omega)]
   rw [show lowB c = c from by unfold lowB; rw [if_neg k]]
theorem rlower {s : Str} (h : s.length ≤ 536870912) : Jay s = some (low s) := by
 unfold Jay
 rw [chk_bind (by simp only [szMax]; omega), rlower_L0 s 0 [] (by simp <;> omega)]; rfl
def ffs (f : List RF) : List FF := f.map fun x => ⟨x.Name, x.Value⟩
def vals (f : List RF) (n : Str) : List Str := (f.filter fun x => decide (low x.Name = low n)).map (·.Value)
def tot (f : List RF) : Nat := (f.map fun x => x.Name.length + x.Value.length + 2).sum
theorem tot_cons (x : RF) (f : List RF) : tot (x :: f) = x.Name.length + x.Value.length + 2 + tot f := by simp [tot]
theorem tot_len : ∀ (f : List RF), f.length ≤ tot f
 | [] => Nat.zero_le _
 | x :: f => by have := tot_len f; rw [tot_cons, List.length_cons]; omega
theorem vals_cons (x : RF) (f : List RF) (n : Str) : vals (x :: f) n = (if decide (low x.Name = low n) then [x.Value] else []) ++ vals f n := by
 unfold vals
 by_cases h : low x.Name = low n
 ·simp [h]
 ·simp [h]
theorem fall_L0 {n : Str} : ∀ (f : List RF) (i : Nat) (y : List Str), tot f ≤ 1000000 → y.length + f.length ≤ 1073741824 → Jad (low n) (ffs f) i y = some (y ++ vals f n)
 | [], i, y, _, _ => by simp [ffs, Jad, vals]
 | x :: f, i, y, h, hy => by
  rw [tot_cons] at h
  simp only [List.length_cons] at hy
  have ih := fall_L0 (n := n) f (i + 1) (y ++ (if decide (low x.Name = low n) then [x.Value] else [])) (by omega) (by split <;> simp <;> omega)
  rw [List.append_assoc, ← vals_cons] at ih
  rw [← ih]
  show Jad (low n) (⟨x.Name, x.Value⟩ :: ffs f) i y = _
  rw [Jad, flower (by show x.Name.length ≤ _; omega), Option.bind_some]
  by_cases k : low x.Name = low n
  ·rw [if_pos (by simpa using k), if_pos (by simpa using k), chk_bind (by simp only [lim, List.length_cons, List.length_nil]; omega)]
  ·rw [if_neg (by simpa using k), if_neg (by simpa using k), List.append_nil]
theorem fall {f : List RF} {n : Str} (h : tot f ≤ 1000000) (hn : n.length ≤ 1000000) : JbF (ffs f) n = some (vals f n) := by
 have := tot_len f
 unfold JbF
 rw [flower (by omega), Option.bind_some, chk_bind (by simp only [ffs, List.length_map, szMax]; omega), fall_L0 f 0 [] h (by simp <;> omega)]; rfl
theorem rall_L0 {n : Str} (hn : n.length ≤ 1000000) : ∀ (f : List RF) (i : Nat) (y : List Str), tot f ≤ 1000000 → y.length + f.length ≤ 1073741824 → Jan n f i y = some (y ++ vals f n)
 | [], i, y, _, _ => by simp [Jan, vals]
 | x :: f, i, y, h, hy => by
  rw [tot_cons] at h
  simp only [List.length_cons] at hy
  have ih := rall_L0 hn f (i + 1) (y ++ (if decide (low x.Name = low n) then [x.Value] else [])) (by omega) (by split <;> simp <;> omega)
  rw [List.append_assoc, ← vals_cons] at ih
  rw [← ih, Jan]
  unfold Jbi
  rw [rlower (by omega), Option.bind_some, rlower (by omega), Option.bind_some, Option.bind_some]
  by_cases k : low x.Name = low n
  ·rw [if_pos (by simpa using k), if_pos (by simpa using k), chk_bind (by simp only [lim, List.length_cons, List.length_nil]; omega)]
  ·rw [if_neg (by simpa using k), if_neg (by simpa using k), List.append_nil]
theorem rall {f : List RF} {n : Str} (h : tot f ≤ 1000000) (hn : n.length ≤ 1000000) : JbH f n = some (vals f n) := by
 have := tot_len f
 unfold JbH
 rw [chk_bind (by simp only [szMax]; omega), rall_L0 hn f 0 [] h (by simp <;> omega)]; rfl
def isB (c : UInt8) : Bool := decide ((c.toNat : Int) = 32) || decide ((c.toNat : Int) = 9)
def cl (c : UInt8) : UInt8 := if (decide ((c.toNat : Int) < 32) || decide ((c.toNat : Int) = 127)) then 63 else c
def rel (y : Str) (b : Bool) : Str := if (b && decide ((y.length : Int) > 0)) then y ++ [32] else y
def nst (p : Str × Bool) (c : UInt8) : Str × Bool := if isB c then (p.1, true) else (rel p.1 p.2 ++ [cl c], false)
def norm (s : Str) : Str := (s.foldl nst ([], false)).1
structure Inv (y : Str) : Prop where
 hd : ∀ a r, y = a :: r → isB a = false
 lt : ∀ r z, y = r ++ [z] → isB z = false
theorem cl_nb {c : UInt8} (h : isB c = false) : isB (cl c) = false := by
 unfold cl; split
 ·decide
 ·exact h
theorem rel_cons {y : Str} {b : Bool} (h : y ≠ []) : ∃ r, rel y b = y ++ r := by
 unfold rel; split
 ·exact ⟨_, rfl⟩
 ·exact ⟨[], by simp⟩
theorem Inv.step {y : Str} {b : Bool} {c : UInt8} (h : Inv y) (hc : isB c = false) : Inv (rel y b ++ [cl c]) := by
 refine ⟨fun a r e => ?_, fun r z e => ?_⟩
 ·cases y with
  | nil =>
   have : rel [] b = [] := by unfold rel; simp
   rw [this] at e
   simp at e
   rw [← e.1]; exact cl_nb hc
  | cons x y =>
   obtain ⟨q, hq⟩ := rel_cons (y := x :: y) (b := b) (by simp)
   rw [hq] at e
   simp at e
   exact e.1 ▸ h.hd x y rfl
 ·have := List.append_inj' e rfl
  simp at this
  rw [← this.2]; exact cl_nb hc
theorem Inv.nil : Inv [] := ⟨fun a r e => absurd e (by simp), fun r z e => absurd e (by simp)⟩
end Vary
set_option linter.unusedVariables false
set_option linter.unusedSimpArgs false
open Go Go.SL Go.Proofs Pl
namespace Vary
abbrev jn := Go.Lib.join
abbrev jt := Go.Lib.joinTail
theorem jt_cons (sep x : Str) (r : List Str) : jt sep (x :: r) = sep ++ x ++ jt sep r := by simp [jt, Go.Lib.joinTail]
theorem jt_nil (sep : Str) : jt sep [] = [] := rfl
theorem jn_cons (sep x : Str) (r : List Str) : jn (x :: r) sep = x ++ jt sep r := Go.Lib.join_cons x r sep
theorem jn_nil (sep : Str) : jn [] sep = [] := Go.Lib.join_nil sep
def sumL (l : List Str) : Nat := (l.map fun x => x.length + 1).sum
theorem sumL_cons (x : Str) (l : List Str) : sumL (x :: l) = x.length + 1 + sumL l := by simp [sumL]
theorem sumL_nil : sumL [] = 0 := rfl
theorem sumL_len : ∀ (l : List Str), l.length ≤ sumL l
 | [] => Nat.zero_le _
 | x :: l => by have := sumL_len l; rw [sumL_cons, List.length_cons]; omega
theorem sumL_append (l k : List Str) : sumL (l ++ k) = sumL l + sumL k := by simp [sumL]
theorem sumL_vals (n : Str) : ∀ (f : List RF), sumL (vals f n) ≤ tot f
 | [] => Nat.zero_le _
 | x :: f => by
  have := sumL_vals n f
  rw [vals_cons, sumL_append, tot_cons]
  split
  ·rw [sumL_cons, sumL_nil]; omega
  ·rw [sumL_nil]; omega
def esc (c : UInt8) : Str := if (decide ((c.toNat : Int) = 34) || decide ((c.toNat : Int) = 92)) then [92, c] else [c]
def quo (s : Str) : Str := [34] ++ s.flatMap esc ++ [34]
theorem el_go {ρ σ γ : Type} {y : σ} {f : ρ → Option γ} {g : σ → Option γ} : (Fl.go y : Fl ρ σ).el f g = g y := rfl
def item (f : List RF) (m : Str) : Str := if vals f m = [] then m else m ++ [61] ++ quo (jn ((vals f m).map norm) [44])
def key (names : List Str) (f : List RF) : Str := jn (names.map (item f)) [38]
theorem joinM_t {l : List Str} {sep : Str} (h1 : l.length ≤ 1000000) (h2 : (jn l sep).length ≤ 1000000000) : joinM l sep = some (jn l sep) := by
 unfold joinM; rw [if_pos ⟨by simp only [lim]; omega, by show (jn l sep).length ≤ _; simp only [lim]; omega⟩]
end Vary
set_option linter.unusedVariables false
set_option linter.unusedSimpArgs false
open Go Go.SL Go.Proofs Pl
namespace Vary
def bl9 (c : UInt8) : Bool := ([32, 9] : Str).contains c
theorem bl9_eq (c : UInt8) : bl9 c = (decide ((c.toNat : Int) = 32) || decide ((c.toNat : Int) = 9)) := by
 have e1 : ∀ k : UInt8, (c == k) = decide ((c.toNat : Int) = (k.toNat : Int)) := fun k => by
  by_cases h : c = k
  ·subst h; simp
  ·have : ¬ (c.toNat : Int) = (k.toNat : Int) := fun e => h (UInt8.toNat_inj.1 (by omega))
   simp [h, this]
 unfold bl9
 rw [List.contains_cons, List.contains_cons, List.contains_nil, Bool.or_false, e1, e1]; rfl
def rd : Str → Str
 | [] => []
 | x :: t => match rd t with
  | [] => if bl9 x = true then [] else [x]
  | y :: ys => x :: y :: ys
theorem rd_snoc (r : Str) (z : UInt8) : rd (r ++ [z]) = if bl9 z = true then rd r else r ++ [z] := by
 induction r with
 | nil => simp [rd]
 | cons x r ih =>
  rw [List.cons_append, rd, ih]
  by_cases q : bl9 z = true
  ·rw [if_pos q, if_pos q, rd]
  ·rw [if_neg q, if_neg q]
   cases h : r ++ [z] with
   | nil => simp at h
   | cons a b => rfl
theorem rev_rd (s : Str) : (s.reverse.dropWhile bl9).reverse = rd s := by
 have : ∀ r : Str, rd r.reverse = (r.dropWhile bl9).reverse := fun r => by
  induction r with
  | nil => rfl
  | cons x r ih =>
   rw [List.reverse_cons, rd_snoc, List.dropWhile_cons]
   by_cases q : bl9 x = true
   ·rw [if_pos q, if_pos q, ih]
   ·rw [if_neg q, if_neg q, List.reverse_cons]
 rw [← this, List.reverse_reverse]
theorem dw_rd : ∀ s : Str, (rd s).dropWhile bl9 = rd (s.dropWhile bl9)
 | [] => rfl
 | x :: t => by
  rw [rd, List.dropWhile_cons]
  by_cases q : bl9 x = true
  ·rw [if_pos q, if_pos q, ← dw_rd t]
   cases rd t with
   | nil => rfl
   | cons a b => simp only; rw [List.dropWhile_cons, if_pos q]
  ·rw [if_neg q, if_neg q, rd, if_neg q]
   cases rd t with
   | nil => simp only; rw [List.dropWhile_cons, if_neg q]
   | cons a b => simp only; rw [List.dropWhile_cons, if_neg q]
def trm (s : Str) : Str := rd (s.dropWhile bl9)
theorem dw_len (p : UInt8 → Bool) : ∀ s : Str, (s.dropWhile p).length ≤ s.length
 | [] => Nat.le_refl _
 | x :: t => by
  rw [List.dropWhile_cons]
  have := dw_len p t
  split <;> simp only [List.length_cons] <;> omega
theorem trimM_eq {s : Str} (h : s.length ≤ 100000000) : trimM s ([32, 9] : Str) = some (trm s) := by
 unfold trimM
 rw [if_pos ⟨by omega, by simp, by decide⟩]
 show some ((Go.Lib.trimRightS s [32, 9]).dropWhile (([32, 9] : Str).contains ·)) = _
 have e : Go.Lib.trimRightS s [32, 9] = rd s := rev_rd s
 rw [e]
 exact congrArg some (dw_rd s)
theorem tl {c : UInt8} {t : Str} : subL (c :: t) (1 : Int) (((c :: t).length : Nat) : Int) = t := by
 unfold subL
 rw [show ((1 : Int)).toNat = 1 from rfl, List.drop_succ_cons, List.drop_zero, List.take_of_length_le (by simp only [List.length_cons]; omega)]
theorem rtrim_L0 : ∀ (n : Nat) (s : Str), s.length < n → s.length ≤ 100000000 → JaZ n s = some (s.dropWhile bl9)
 | 0, s, h, _ => by omega
 | n + 1, [], h, _ => by rw [JaZ, if_neg (by simp)]; rfl
 | n + 1, c :: t, h, hl => by
  simp only [List.length_cons] at h hl
  have e : (if decide ((c.toNat : Int) = 32) = true then some true else (some c).bind fun x12 => some (decide ((x12.toNat : Int) = 9))) = some (bl9 c) := by
   rw [bl9_eq]
   cases decide ((c.toNat : Int) = 32) <;> simp
  rw [JaZ, if_pos (by simp), show ix (c :: t) 0 = some c from rfl, Option.bind_some, e, Option.bind_some, List.dropWhile_cons]
  by_cases q : bl9 c = true
  ·rw [if_pos q, if_pos q, chk_bind (by simp only [List.length_cons]; omega), tl]
   exact rtrim_L0 n t (by omega) (by omega)
  ·rw [if_neg q, if_neg q]
theorem rtrim_L2 : ∀ (n : Nat) (s : Str), s.length < n → s.length ≤ 100000000 → Ja0 n s = some (rd s)
 | 0, s, h, _ => by omega
 | n + 1, s, h, hl => by
  rcases List.eq_nil_or_concat s with rfl | ⟨r, z, rfl⟩
  ·rw [Ja0, if_neg (by simp)]; rfl
  ·rw [List.concat_eq_append] at h hl ⊢
   have hlen : ((r ++ [z]).length : Int) - 1 = (r.length : Int) := by simp
   have hz : ix (r ++ [z]) (r.length : Int) = some z := by
    unfold ix; rw [if_pos (by omega)]; simp
   have e : (if decide ((z.toNat : Int) = 32) = true then some true else (some z).bind fun x12 => some (decide ((x12.toNat : Int) = 9))) = some (bl9 z) := by
    rw [bl9_eq]
    cases decide ((z.toNat : Int) = 32) <;> simp
   have hs : subL (r ++ [z]) (0 : Int) (r.length : Int) = r := by
    unfold subL
    simp
   simp only [List.length_append, List.length_cons, List.length_nil] at h hl
   rw [Ja0, if_pos (by simp), hlen, chk_bind (by constructor <;> omega), hz, Option.bind_some]
   have e2 : (if decide ((z.toNat : Int) = 32) = true then some true else (chk (InI (r.length : Int))).bind fun _ => (some z).bind fun x33 => some (decide ((x33.toNat : Int) = 9))) = some (bl9 z) := by
    rw [chk_bind (by constructor <;> omega)]; exact e
   rw [e2, Option.bind_some, rd_snoc]
   by_cases q : bl9 z = true
   ·rw [if_pos q, if_pos q, chk_bind (by constructor <;> omega), chk_bind (by simp only [List.length_append, List.length_cons, List.length_nil]; omega), hs]
    exact rtrim_L2 n r (by omega) (by omega)
   ·rw [if_neg q, if_neg q]
theorem rtrim {n : Nat} {s : Str} (h : s.length < n) (hl : s.length ≤ 100000000) : Jb8 n s = some (trm s) := by
 have := dw_len bl9 s
 unfold Jb8
 rw [rtrim_L0 n s h hl, Option.bind_some, rtrim_L2 n _ (by omega) (by omega)]; rfl
theorem tch_all : ∀ n : Fin 256, ∃ b, syntax_tchar (UInt8.ofNat n.val) = some b ∧ Jbx (UInt8.ofNat n.val) = some b := by
 have h : ∀ n : Fin 256, syntax_tchar (UInt8.ofNat n.val) = Jbx (UInt8.ofNat n.val) ∧ (syntax_tchar (UInt8.ofNat n.val)).isSome = true := by decide +kernel
 intro n
 obtain ⟨h1, h2⟩ := h n
 obtain ⟨b, hb⟩ := Option.isSome_iff_exists.1 h2
 exact ⟨b, hb, by rw [← h1, hb]⟩
theorem tch (c : UInt8) : ∃ b, syntax_tchar c = some b ∧ Jbx c = some b := by
 have := tch_all ⟨c.toNat, c.toNat_lt⟩
 simpa using this
theorem tok_L0 : ∀ (s : Str) (i j : Nat), ∃ b : Bool, syntax_Token_L0 s i = some (if b = true then Fl.go () else Fl.ret false) ∧ Ja2 s j = some (if b = true then Fl.go () else Fl.ret false)
 | [], i, j => ⟨true, rfl, rfl⟩
 | c :: s, i, j => by
  obtain ⟨b, h1, h2⟩ := tch c
  rw [syntax_Token_L0, Ja2, h1, h2, Option.bind_some, Option.bind_some]
  cases b with
  | false => exact ⟨false, rfl, rfl⟩
  | true => exact tok_L0 s (i + 1) (j + 1)
theorem tok {s : Str} (h : s.length ≤ 100000000) : ∃ b, syntax_Token s = some b ∧ Jbh s = some b := by
 obtain ⟨b, h1, h2⟩ := tok_L0 s 0 0
 unfold syntax_Token Jbh
 rw [chk_bind (by simp only [szMax]; omega), chk_bind (by simp only [szMax]; omega), h1, h2, Option.bind_some, Option.bind_some]
 cases b with
 | false => exact ⟨false, rfl, rfl⟩
 | true =>
  refine ⟨decide (s ≠ []), rfl, ?_⟩
  simp only [if_true, el_go]
  congr 1
  apply decide_eq_decide.2
  cases s <;> simp
end Vary
set_option linter.unusedVariables false
set_option linter.unusedSimpArgs false
open Go Go.SL Go.Proofs Pl
namespace Vary
theorem ix_ok {α : Type} {s : List α} {i : Int} (h0 : 0 ≤ i) (h1 : i < (s.length : Int)) : ∃ x, ix s i = some x := by
 unfold ix
 rw [if_pos h0]
 exact ⟨s[i.toNat]'(by omega), List.getElem?_eq_getElem (by omega)⟩
def ctl (s : Str) : Bool := s.any fun c => (decide ((c.toNat : Int) < 32) && decide ((c.toNat : Int) ≠ 9)) || decide ((c.toNat : Int) = 127)
theorem control_L0 : ∀ (s : Str) (i : Nat), JaP s i = some (if ctl s = true then Fl.ret true else Fl.go ())
 | [], i => rfl
 | c :: s, i => by
  have e : ctl (c :: s) = (((decide ((c.toNat : Int) < 32) && decide ((c.toNat : Int) ≠ 9)) || decide ((c.toNat : Int) = 127)) || ctl s) := rfl
  have e2 : ((if decide ((c.toNat : Int) < 32) = true then some (decide ((c.toNat : Int) ≠ 9)) else some false).bind fun x18 => (if x18 = true then some true else some (decide ((c.toNat : Int) = 127)))) = some ((decide ((c.toNat : Int) < 32) && decide ((c.toNat : Int) ≠ 9)) || decide ((c.toNat : Int) = 127)) := by
   cases decide ((c.toNat : Int) < 32) <;> cases q : decide ((c.toNat : Int) ≠ 9) <;> simp [q]
  rw [JaP, e, ← Option.bind_assoc, e2, Option.bind_some]
  cases q : ((decide ((c.toNat : Int) < 32) && decide ((c.toNat : Int) ≠ 9)) || decide ((c.toNat : Int) = 127)) with
  | true => rfl
  | false => rw [if_neg (by simp), Bool.false_or]; exact control_L0 s (i + 1)
theorem control_eq {s : Str} (h : s.length ≤ 100000000) : Jby s = some (ctl s) := by
 unfold Jby
 rw [chk_bind (by simp only [szMax]; omega), control_L0, Option.bind_some]
 cases ctl s <;> rfl
end Vary
set_option linter.unusedVariables false
set_option linter.unusedSimpArgs false
open Go Go.SL Go.Proofs Pl Vary
namespace Rt.Rv
def hd (p : Str) : List Str → List Str
 | [] => [p]
 | x :: r => (p ++ x) :: r
def spl (c : UInt8) : Str → List Str
 | [] => [[]]
 | b :: s => if b = c then [] :: spl c s else hd [b] (spl c s)
theorem spl_ne (c : UInt8) (s : Str) : spl c s ≠ [] := by
 cases s with
 | nil => simp [spl]
 | cons b s =>
  rw [spl]
  split
  ·simp
  ·cases spl c s <;> simp [hd]
theorem hd_nil {l : List Str} (h : l ≠ []) : hd [] l = l := by
 cases l with
 | nil => exact absurd rfl h
 | cons a b => rfl
theorem hd_hd (p q : Str) (l : List Str) : hd p (hd q l) = hd (p ++ q) l := by cases l <;> simp [hd]
theorem pre_one (c b : UInt8) (l : Str) : ([c] : Str).isPrefixOf (b :: l) = (c == b) := by simp [List.isPrefixOf]
theorem ind_eq (c : UInt8) (l : Str) : Go.Lib.index (c :: l) [c] = 0 := by rw [Go.Lib.index, if_pos (by simp [List.isPrefixOf])]
theorem ind_ne {c b : UInt8} (h : b ≠ c) (l : Str) : Go.Lib.index (b :: l) [c] = if Go.Lib.index l [c] = -1 then -1 else Go.Lib.index l [c] + 1 := by
 have : (c == b) = false := by simp; exact fun e => h e.symm
 rw [Go.Lib.index, pre_one, this]
 simp
theorem spK_cons {b c : UInt8} (h : b ≠ c) (k : Nat) (l : Str) : Go.Lib.splitK [c] 0 k (b :: l) = hd [b] (Go.Lib.splitK [c] 0 k l) := by
 cases k with
 | zero => rfl
 | succ k =>
  have hg := Go.Lib.index_ge l [c]
  rw [Go.Lib.splitK, Go.Lib.splitK, ind_ne h]
  by_cases q : Go.Lib.index l [c] = -1
  ·rw [q]; simp [hd]
  ·rw [if_neg q]
   have e : (Go.Lib.index l [c] + 1).toNat = (Go.Lib.index l [c]).toNat + 1 := by omega
   rw [if_neg (by simp; omega), if_neg (by simpa using q), e]
   simp [hd, Nat.add_right_comm]
theorem split_eq (c : UInt8) : ∀ s : Str, Go.Lib.split s [c] = spl c s
 | [] => by unfold Go.Lib.split; rw [Go.Lib.count_one]; rfl
 | b :: l => by
  have ih := split_eq c l
  unfold Go.Lib.split at ih ⊢
  rw [spl]
  by_cases q : b = c
  ·subst q
   rw [if_pos rfl, Go.Lib.count_cons_eq, Nat.add_comm, Go.Lib.splitK, ind_eq, if_neg (by decide), ← ih]
   simp
  ·rw [if_neg q, Go.Lib.count_cons_ne b c l q, spK_cons q, ih]
theorem index_spl (c : UInt8) : ∀ s : Str, (Go.Lib.index s [c] = -1 ∧ spl c s = [s] ∧ c ∉ s) ∨ (∃ i : Nat, Go.Lib.index s [c] = i ∧ i < s.length ∧ spl c s = s.take i :: spl c (s.drop (i + 1)))
 | [] => .inl ⟨rfl, rfl, by simp⟩
 | b :: l => by
  by_cases q : b = c
  ·subst q
   exact .inr ⟨0, ind_eq _ _, by simp, by rw [spl, if_pos rfl]; simp⟩
  ·rcases index_spl c l with ⟨h1, h2, h3⟩ | ⟨i, h1, h2, h3⟩
   ·exact .inl ⟨by rw [ind_ne q, if_pos h1], by rw [spl, if_neg q, h2]; rfl, by simp [h3]; exact fun e => q e.symm⟩
   ·refine .inr ⟨i + 1, by rw [ind_ne q, h1, if_neg (by omega)]; omega, by simp; omega, ?_⟩
    rw [spl, if_neg q, h3]
    simp [hd]
theorem lim32_eq : lim32 = 4294967281 := rfl
theorem splitM_eq {s : Str} (c : UInt8) (h : s.length ≤ 1000000) : splitM s [c] = some (spl c s) := by
 unfold splitM
 rw [if_pos ⟨by rw [lim32_eq]; omega, by simp⟩, split_eq]
def segs (s : Str) : List Str := (spl 47 s).tail
theorem cut_spl (c : UInt8) (s : Str) : (Go.Lib.cut s [c] = (s, [], false) ∧ spl c s = [s]) ∨ (∃ i : Nat, i < s.length ∧ Go.Lib.cut s [c] = (s.take i, s.drop (i + 1), true) ∧ spl c s = s.take i :: spl c (s.drop (i + 1))) := by
 unfold Go.Lib.cut
 rcases index_spl c s with ⟨h1, h2, _⟩ | ⟨i, h1, h2, h3⟩
 ·left; rw [h1]; exact ⟨by simp, h2⟩
 ·right; rw [h1]; exact ⟨i, h2, by simp, h3⟩
theorem segs_eq {s : Str} (h : s.length ≤ 1000000) : JaA s = some (segs s) := by
 unfold JaA cutM segs
 rw [if_pos (by rw [lim32_eq]; omega), Option.bind_some]
 rcases cut_spl 47 s with ⟨h1, h2⟩ | ⟨i, h2, h1, h3⟩
 ·rw [h1, h2]; rfl
 ·rw [h1, h3, if_neg (by simp)]
  simp only
  rw [splitM_eq 47 (by rw [List.length_drop]; omega)]; rfl
theorem byte_eq {a b : UInt8} : decide ((a.toNat : Int) = (b.toNat : Int)) = decide (a = b) := by
 rw [decide_eq_decide]
 exact ⟨fun e => UInt8.toNat_inj.1 (by omega), fun e => by rw [e]⟩
theorem sub_mid (q p r : Str) : subL (q ++ p ++ r) (q.length : Int) ((q ++ p).length : Int) = p := by
 unfold subL
 rw [List.append_assoc, Int.toNat_natCast, List.drop_left, List.length_append]
 have : (((q.length + p.length : Nat) : Int) - (q.length : Int)).toNat = p.length := by omega
 rw [this, List.take_left]
theorem cut_L0 {c : UInt8} {s : Str} (hs : s.length ≤ 1000000) : ∀ (r q p : Str) (y : List Str), s = q ++ p ++ r → y.length ≤ q.length →
  ∃ z a, Jam c s r (q ++ p).length y (q.length : Int) = some (z, a) ∧ 0 ≤ a ∧ a ≤ (s.length : Int) ∧ z.length ≤ s.length ∧ z ++ [subL s a (s.length : Int)] = y ++ hd p (spl c r)
 | [], q, p, y, e, hy => by
  have hl : s.length = (q ++ p).length := by rw [e]; simp
  have hq : q.length ≤ s.length := by rw [hl]; simp
  refine ⟨y, q.length, rfl, by omega, by omega, by omega, ?_⟩
  rw [hl, e, sub_mid]; simp [spl, hd]
 | b :: r, q, p, y, e, hy => by
  have hl : s.length = q.length + p.length + (r.length + 1) := by rw [e]; simp; omega
  rw [Jam, byte_eq]
  by_cases h : b = c
  ·subst h
   have hsub : subL s (q.length : Int) ((q ++ p).length : Int) = p := by rw [e, sub_mid]
   rw [if_pos (by simp), chk_bind (by simp only [List.length_append]; omega), hsub, chk_bind (by simp only [lim, List.length_cons, List.length_nil]; omega)]
   have ih := cut_L0 (c := b) hs r (q ++ p ++ [b]) [] (y ++ [p]) (by rw [e]; simp) (by simp; omega)
   have e1 : ((q ++ p ++ [b]) ++ ([] : Str)).length = (q ++ p).length + 1 := by simp; omega
   have e2 : (((q ++ p ++ [b]).length : Nat) : Int) = ((q ++ p).length : Int) + 1 := by simp; omega
   rw [e1, e2] at ih
   obtain ⟨z, a, h1, h2, h3, h4, h5⟩ := ih
   refine ⟨z, a, h1, h2, h3, h4, ?_⟩
   rw [h5, spl, if_pos rfl, hd_nil (spl_ne _ _)]; simp [hd]
  ·rw [if_neg (by simpa using h)]
   have ih := cut_L0 (c := c) hs r q (p ++ [b]) y (by rw [e]; simp) hy
   have e1 : (q ++ (p ++ [b])).length = (q ++ p).length + 1 := by simp; omega
   rw [e1] at ih
   obtain ⟨z, a, h1, h2, h3, h4, h5⟩ := ih
   refine ⟨z, a, h1, h2, h3, h4, ?_⟩
   rw [h5, spl, if_neg h, hd_hd]
theorem cut2_eq {s : Str} (c : UInt8) (hs : s.length ≤ 1000000) : Jbr s c = some (spl c s) := by
 unfold Jbr
 obtain ⟨z, a, h1, h2, h3, h4, h5⟩ := cut_L0 (c := c) hs s [] [] [] rfl (Nat.le_refl _)
 have h1' : Jam c s s 0 [] 0 = some (z, a) := h1
 rw [chk_bind (by simp only [szMax]; omega), h1', Option.bind_some, chk_bind (by omega), chk_bind (by simp only [lim, List.length_cons, List.length_nil]; omega)]
 simp only
 rw [h5, hd_nil (spl_ne _ _)]; rfl
theorem hd_len (p : Str) {l : List Str} (h : l ≠ []) : (hd p l).length = l.length := by
 cases l with
 | nil => exact absurd rfl h
 | cons a b => rfl
theorem spl_len (c : UInt8) : ∀ s : Str, 1 ≤ (spl c s).length ∧ (spl c s).length ≤ s.length + 1
 | [] => by simp [spl]
 | b :: l => by
  have := spl_len c l
  rw [spl]
  split
  ·simp; omega
  ·rw [hd_len _ (spl_ne _ _)]; simp; omega
theorem spl_mem (c : UInt8) : ∀ (s x : Str), x ∈ spl c s → x.length ≤ s.length
 | [], x, h => by simp [spl] at h; subst h; simp
 | b :: l, x, h => by
  have ih := spl_mem c l
  rw [spl] at h
  split at h
  ·rcases List.mem_cons.1 h with rfl | h
   ·simp
   ·have := ih x h; simp; omega
  ·cases e : spl c l with
   | nil => exact absurd e (spl_ne _ _)
   | cons a r =>
    rw [e] at h ih
    rcases List.mem_cons.1 h with rfl | h
    ·have := ih a (by simp); simp; omega
    ·have := ih x (by simp [h]); simp; omega
theorem segs2_eq {s : Str} (hs : s.length ≤ 1000000) : JaM s = some (segs s) := by
 unfold JaM segs
 have h := spl_len 47 s
 rw [cut2_eq 47 hs, Option.bind_some, chk_bind (by omega)]
 congr 1
 unfold subL
 rw [show ((1 : Int)).toNat = 1 from rfl, List.drop_one, List.take_of_length_le (by rw [List.length_tail]; omega)]
theorem segs_mem {s x : Str} (h : x ∈ segs s) : x.length ≤ s.length := spl_mem _ _ _ (List.mem_of_mem_tail h)
theorem segs_len (s : Str) : (segs s).length ≤ s.length := by have := spl_len 47 s; unfold segs; rw [List.length_tail]; omega
def argL (nm : Str) : List Str → Str
 | [] => []
 | x :: r => if Rc.hp x (nm ++ [61]) = true then x.drop (nm.length + 1) else argL nm r
def argB (nm : Str) : List Str → Bool
 | [] => false
 | x :: r => if Rc.hp x (nm ++ [61]) = true then true else argB nm r
theorem drop_sub (x : Str) (n : Nat) : subL x ((n : Int) + 1) (x.length : Int) = x.drop (n + 1) := by
 unfold subL
 rw [show ((n : Int) + 1).toNat = n + 1 by omega, List.take_of_length_le (by rw [List.length_drop]; omega)]
theorem arg_L0 {nm : Str} (hn : nm.length ≤ 1000000) : ∀ (l : List Str) (i : Nat), Jap nm l i = some (if argB nm l = true then Fl.ret (argL nm l, true) else Fl.go ())
 | [], i => rfl
 | x :: l, i => by
  have hpx : Jy x (nm ++ ([61] : Str)) = some (Rc.hp x (nm ++ [61])) := by rw [prefix_ok, Rc.hp_eq]
  rw [Jap, chk_bind (by simp only [lim, List.length_cons, List.length_nil]; omega), hpx, Option.bind_some, argL, argB]
  by_cases q : Rc.hp x (nm ++ [61]) = true
  ·have hl : nm.length + 1 ≤ x.length := by
    have := q; unfold Rc.hp at this; simp at this; omega
   rw [if_pos q, if_pos q, if_pos q, chk_bind (by constructor <;> omega), chk_bind (by omega), drop_sub]; rfl
  ·rw [if_neg q, if_neg q, if_neg q, arg_L0 hn l (i + 1)]
theorem hp_iff (x nm : Str) : Rc.hp x (nm ++ [61]) = ((decide ((x.length : Int) > (nm.length : Int)) && decide (x.take nm.length = nm)) && decide (x[nm.length]? = some 61)) := by
 unfold Rc.hp
 by_cases h : nm.length < x.length
 ·have e : x.take (nm ++ [61]).length = x.take nm.length ++ [x[nm.length]] := by
   rw [List.length_append, List.length_cons, List.length_nil, List.take_add_one, List.getElem?_eq_getElem h]; rfl
  rw [e, List.getElem?_eq_getElem h]
  have hl : decide (x.length ≥ (nm ++ [61]).length) = true := by simp; omega
  have hl2 : decide ((x.length : Int) > (nm.length : Int)) = true := by simp; omega
  rw [hl, hl2, Bool.true_and, Bool.true_and]
  have : (x.take nm.length ++ [x[nm.length]] = nm ++ [61]) ↔ (x.take nm.length = nm ∧ x[nm.length] = 61) := by
   constructor
   ·intro h2
    have h3 := List.append_inj h2 (by simp; omega)
    exact ⟨h3.1, by simpa using h3.2⟩
   ·rintro ⟨h1, h2⟩; rw [h1, h2]
  rw [decide_eq_decide.2 this, Bool.decide_and]
  simp
 ·have h1 : decide (x.length ≥ (nm ++ [61]).length) = false := by simp; omega
  have h2 : decide ((x.length : Int) > (nm.length : Int)) = false := by simp; omega
  rw [h1, h2]; rfl
theorem arg2_L0 {nm : Str} (hn : nm.length ≤ 1000000) : ∀ (l : List Str) (i : Nat), JaG nm l i = some (if argB nm l = true then Fl.ret (argL nm l, true) else Fl.go ())
 | [], i => rfl
 | x :: l, i => by
  have hc : ((((if decide ((x.length : Int) > (nm.length : Int)) then (chk (0 ≤ (0 : Int) ∧ (0 : Int) ≤ (nm.length : Int) ∧ (nm.length : Int) ≤ (x.length : Int))).bind fun _ =>
    some (decide ((subL x (0 : Int) (nm.length : Int)) = nm)) else some false).bind fun x37 =>
    (if x37 then (ix x (nm.length : Int)).bind fun x45 => some (decide ((x45.toNat : Int) = 61)) else some false).bind fun x47 => some x47) : Option (Bool))) = some (Rc.hp x (nm ++ [61])) := by
   rw [hp_iff]
   by_cases h : nm.length < x.length
   ·rw [if_pos (by simpa using h), chk_bind (by omega), Option.bind_some, Rc.sub0, decide_eq_true (show (x.length : Int) > (nm.length : Int) by omega), Bool.true_and]
    by_cases h2 : x.take nm.length = nm
    ·rw [decide_eq_true h2, if_pos rfl]
     unfold ix
     rw [if_pos (by omega), Int.toNat_natCast, List.getElem?_eq_getElem h, Option.bind_some, Option.bind_some, Bool.true_and]
     have := @byte_eq (x[nm.length]) 61
     simpa using this
    ·rw [decide_eq_false h2, if_neg (by simp), Option.bind_some, Bool.false_and]
   ·rw [if_neg (by simpa using h), Option.bind_some, if_neg (by simp), decide_eq_false (by omega)]; rfl
  rw [JaG, hc, Option.bind_some, argL, argB]
  by_cases q : Rc.hp x (nm ++ [61]) = true
  ·have hl : nm.length + 1 ≤ x.length := by
    have := q; unfold Rc.hp at this; simp at this; omega
   rw [if_pos q, if_pos q, if_pos q, chk_bind (by constructor <;> omega), chk_bind (by omega), drop_sub]; rfl
  ·rw [if_neg q, if_neg q, if_neg q, arg2_L0 hn l (i + 1)]
def argP (q nm : Str) : Str := argL nm (spl 38 q)
theorem argL_f {nm : Str} : ∀ {l : List Str}, argB nm l = false → argL nm l = []
 | [], _ => rfl
 | x :: l, h => by
  rw [argB] at h
  split at h
  ·cases h
  ·rename_i q; rw [argL, if_neg q]; exact argL_f h
theorem argL_len {nm : Str} {m : Nat} : ∀ {l : List Str}, (∀ x ∈ l, x.length ≤ m) → (argL nm l).length ≤ m
 | [], _ => Nat.zero_le _
 | x :: l, h => by
  rw [argL]
  split
  ·have := h x (by simp); rw [List.length_drop]; omega
  ·exact argL_len fun y hy => h y (by simp [hy])
theorem argP_len (q nm : Str) : (argP q nm).length ≤ q.length := argL_len (spl_mem _ _)
theorem arg_eq {q nm : Str} (hq : q.length ≤ 1000000) (hn : nm.length ≤ 1000000) : ∃ b, Jbf ⟨[], [], q, true⟩ nm = some (argP q nm, b) := by
 have h := spl_len 38 q
 unfold Jbf argP
 rw [if_neg (by simp), splitM_eq 38 hq, Option.bind_some, chk_bind (by simp only [szMax]; omega), arg_L0 hn, Option.bind_some]
 cases e : argB nm (spl 38 q) with
 | true => rw [if_pos rfl]; exact ⟨_, rfl⟩
 | false => rw [if_neg (by simp), argL_f e]; exact ⟨_, rfl⟩
theorem arg2_eq {q nm : Str} (hq : q.length ≤ 1000000) (hn : nm.length ≤ 1000000) : ∃ b, JbI ⟨[], [], q, true⟩ nm = some (argP q nm, b) := by
 have h := spl_len 38 q
 unfold JbI argP
 rw [if_neg (by simp), cut2_eq 38 hq, Option.bind_some, chk_bind (by simp only [szMax]; omega), arg2_L0 hn, Option.bind_some]
 cases e : argB nm (spl 38 q) with
 | true => rw [if_pos rfl]; exact ⟨_, rfl⟩
 | false => rw [if_neg (by simp), argL_f e]; exact ⟨_, rfl⟩
end Rt.Rv
set_option linter.unusedVariables false
set_option linter.unusedSimpArgs false
open Go Go.SL Go.Proofs Pl Vary
namespace Rt.Rv
theorem sub_take (s : Str) {i n : Nat} : subL s (i : Int) ((i : Int) + (n : Int)) = (s.drop i).take n := by
 unfold subL
 rw [Int.toNat_natCast, show ((i : Int) + (n : Int) - (i : Int)).toNat = n by omega]
theorem cont_L0 {t s : Str} (hs : s.length ≤ 1000000) (ht : t.length ≤ 1000000) : ∀ (m i : Nat), s.length + 1 - i < m → i ≤ s.length + 1 → (∀ j, j < i → Go.Lib.occAt s t j = false) →
  ∃ r, J2 t s m (i : Int) = some r ∧ (Go.Lib.contains s t = true → r = .ret true) ∧ (Go.Lib.contains s t = false → ∃ z, r = .go z)
 | 0, i, h, _, _ => by omega
 | m + 1, i, h, hi, hn => by
  rw [J2, chk_bind (by constructor <;> omega)]
  by_cases q : i + t.length ≤ s.length
  ·rw [if_pos (by simp; omega), chk_bind (by constructor <;> omega), chk_bind (by omega), sub_take]
   by_cases q2 : (s.drop i).take t.length = t
   ·rw [if_pos (by simpa using q2)]
    have ho : Go.Lib.occAt s t i = true := by rw [Go.Lib.occAt_iff_take s t i q]; simpa using q2
    have hc : Go.Lib.contains s t = true := by
     unfold Go.Lib.contains
     rw [Go.Lib.index_first (by omega) ho hn]; simp
    exact ⟨_, rfl, fun _ => rfl, fun e => by rw [hc] at e; cases e⟩
   ·rw [if_neg (by simpa using q2), chk_bind (by constructor <;> omega)]
    have ho : Go.Lib.occAt s t i = false := by rw [Go.Lib.occAt_iff_take s t i q]; simpa using q2
    exact cont_L0 hs ht m (i + 1) (by omega) (by omega) fun j hj => by
     by_cases e : j = i
     ·rw [e]; exact ho
     ·exact hn j (by omega)
  ·rw [if_neg (by simp; omega)]
   have hc : Go.Lib.contains s t = false := by
    unfold Go.Lib.contains
    rw [Go.Lib.index_none fun j hj => ?_]; · rfl
    by_cases e : j < i
    ·exact hn j e
    ·cases ho : Go.Lib.occAt s t j with
     | false => rfl
     | true =>
      rcases Go.Lib.occAt_room ho with h1 | h1
      ·omega
      ·subst h1; simp at q; omega
   exact ⟨_, rfl, (fun e => by rw [hc] at e; cases e), fun _ => ⟨_, rfl⟩⟩
theorem cont2_eq {n : Nat} {s t : Str} (hn : 1000002 ≤ n) (hs : s.length ≤ 1000000) (ht : t.length ≤ 1000000) : JaL n s t = some (Go.Lib.contains s t) := by
 unfold JaL
 obtain ⟨r, h1, h2, h3⟩ := cont_L0 hs ht n 0 (by omega) (by omega) (fun j hj => by omega)
 rw [show (0 : Int) = ((0 : Nat) : Int) from rfl, h1, Option.bind_some]
 cases e : Go.Lib.contains s t with
 | true => rw [h2 e]; rfl
 | false => obtain ⟨z, rfl⟩ := h3 e; rfl
theorem containsM_eq {s t : Str} (hs : s.length ≤ 1000000) : containsM s t = some (Go.Lib.contains s t) := by
 unfold containsM; rw [if_pos (by rw [lim32_eq]; omega)]
theorem dec_len : ∀ (m u : Nat), u < 10 ^ (m + 1) → (Go.Lib.decDigits u).length ≤ m + 1
 | 0, u, h => by rw [Go.Lib.decDigits, dif_pos (by omega)]; simp
 | m + 1, u, h => by
  rw [Go.Lib.decDigits]
  split
  ·simp
  ·have := dec_len m (u / 10) (by rw [Nat.pow_succ] at h; omega)
   simp; omega
theorem u8_dig (u : Nat) : u8of (48 + Int.tmod (u : Int) 10) = UInt8.ofNat (48 + u % 10) := by
 have e : Int.tmod (u : Int) 10 = ((u % 10 : Nat) : Int) := by rw [Int.tmod_eq_emod_of_nonneg (by omega)]; omega
 unfold u8of
 rw [e]
 congr 1
 omega
theorem dec_L : ∀ (m u : Nat) (k : Nat), u < 10 ^ (m + 1) → m ≤ 17 → m < k → JU k (u : Int) = some (Go.Lib.decDigits u)
 | m, u, 0, h, hm, hk => by omega
 | 0, u, k + 1, h, hm, hk => by
  have hu : u < 10 := by omega
  have e : Int.tmod (u : Int) 10 = ((u % 10 : Nat) : Int) := by rw [Int.tmod_eq_emod_of_nonneg (by omega)]; omega
  rw [JU, if_neg (by simp), chk_bind (by rw [e]; constructor <;> omega), if_pos (by simp; omega), u8_dig, Go.Lib.decDigits, dif_pos hu, Nat.mod_eq_of_lt hu]
 | m + 1, u, k + 1, h, hm, hk => by
  have e : Int.tmod (u : Int) 10 = ((u % 10 : Nat) : Int) := by rw [Int.tmod_eq_emod_of_nonneg (by omega)]; omega
  have e2 : Int.tdiv (u : Int) 10 = ((u / 10 : Nat) : Int) := by rw [Int.tdiv_eq_ediv_of_nonneg (by omega)]; omega
  have hp : (10 : Nat) ^ (m + 1 + 1) ≤ 10 ^ 19 := Nat.pow_le_pow_right (by decide) (by omega)
  rw [JU, if_neg (by simp), chk_bind (by rw [e]; constructor <;> omega), Go.Lib.decDigits]
  by_cases hu : u < 10
  ·rw [if_pos (by simp; omega), u8_dig, dif_pos hu, Nat.mod_eq_of_lt hu]
  ·have hu2 : u / 10 < 10 ^ (m + 1) := by rw [Nat.pow_succ] at h; omega
   have hp2 : (10 : Nat) ^ (m + 1) ≤ 10 ^ 18 := Nat.pow_le_pow_right (by decide) (by omega)
   have hl := dec_len m (u / 10) hu2
   rw [if_neg (by simp; omega), e2, chk_bind ⟨by decide, by constructor <;> omega⟩, dec_L m (u / 10) k hu2 (by omega) (by omega), Option.bind_some, chk_bind (by simp only [lim, List.length_cons, List.length_nil]; omega), u8_dig, dif_neg hu]
theorem dec_eq {n : Nat} {x : Int} (hn : 30 ≤ n) (h0 : -1099511627776 ≤ x) (h1 : x ≤ 1099511627776) : JU n x = some (Go.Lib.itoa x) := by
 unfold Go.Lib.itoa
 by_cases q : x < 0
 ·obtain ⟨k, rfl⟩ : ∃ k, n = k + 1 := ⟨n - 1, by omega⟩
  obtain ⟨u, hu⟩ : ∃ u : Nat, -x = (u : Int) := ⟨(-x).toNat, by omega⟩
  have h10 : (10 : Nat) ^ (17 + 1) = 1000000000000000000 := by decide
  have hu2 : u < 10 ^ (17 + 1) := by omega
  have hl := dec_len 17 u hu2
  rw [JU, if_pos (by simpa using q), chk_bind (by constructor <;> omega), hu, dec_L 17 u k hu2 (by omega) (by omega), Option.bind_some, chk_bind (by simp only [lim, List.length_cons, List.length_nil]; omega), if_pos q, show x.natAbs = u by omega]
  rfl
 ·obtain ⟨u, hu⟩ : ∃ u : Nat, x = (u : Int) := ⟨x.toNat, by omega⟩
  have h10 : (10 : Nat) ^ (17 + 1) = 1000000000000000000 := by decide
  have hu2 : u < 10 ^ (17 + 1) := by omega
  rw [if_neg q, hu, Int.toNat_natCast, dec_L 17 u n hu2 (by omega) (by omega)]
theorem itoa_len {x : Int} (h0 : -1099511627776 ≤ x) (h1 : x ≤ 1099511627776) : (Go.Lib.itoa x).length ≤ 20 := by
 unfold Go.Lib.itoa
 have hp : (10 : Nat) ^ (17 + 1) = 1000000000000000000 := by decide
 split
 ·have := dec_len 17 x.natAbs (by omega); simp; omega
 ·have := dec_len 17 x.toNat (by omega); omega
theorem itoaM_eq {x : Int} (h0 : -1099511627776 ≤ x) (h1 : x ≤ 1099511627776) : itoaM x = some (Go.Lib.itoa x) := by
 unfold itoaM; rw [if_pos (by constructor <;> omega)]
def dig (c : UInt8) : Bool := !(decide ((c.toNat : Int) < 48) || decide ((c.toNat : Int) > 57))
def nst (n : Int) (c : UInt8) : Int := 10 * n + ((c - (48 : UInt8)).toNat : Int)
def numP (s : Str) : Int := if s.length ≤ 15 ∧ s.all dig = true then s.foldl nst 0 else 0
theorem dig_or (c : UInt8) : (if decide ((c.toNat : Int) < 48) then some true else some (decide ((c.toNat : Int) > 57))) = some (!dig c) := by
 unfold dig; cases decide ((c.toNat : Int) < 48) <;> simp
theorem dig_val {c : UInt8} (h : dig c = true) : 0 ≤ ((c - (48 : UInt8)).toNat : Int) ∧ ((c - (48 : UInt8)).toNat : Int) ≤ 9 := by
 unfold dig at h
 simp at h
 have h48 : (48 : UInt8) ≤ c := by rw [UInt8.le_iff_toNat_le]; simp; omega
 rw [UInt8.toNat_sub_of_le _ _ h48]
 simp; omega
theorem nst_bd {i : Nat} {y : Int} {c : UInt8} (hc : dig c = true) (h0 : 0 ≤ y) (h1 : y < 10 ^ i) : 0 ≤ nst y c ∧ nst y c < 10 ^ (i + 1) := by
 have := dig_val hc
 unfold nst
 rw [Int.pow_succ]
 omega
theorem p15 {i : Nat} (h : i ≤ 15) : (10 : Int) ^ i ≤ 1000000000000000 := by
 have h1 : (10 : Nat) ^ i ≤ 10 ^ 15 := Nat.pow_le_pow_right (by decide) h
 have h2 : ((10 ^ i : Nat) : Int) = (10 : Int) ^ i := by rw [Int.natCast_pow]; rfl
 rw [← h2]
 have h3 : (10 : Nat) ^ 15 = 1000000000000000 := by decide
 omega
theorem num_L0 : ∀ (r : Str) (i : Nat) (j : Nat) (y : Int), 0 ≤ y → y < 10 ^ i → i + r.length ≤ 15 → J9 r j y = some (if r.all dig = true then .go (r.foldl nst y) else .ret 0)
 | [], i, j, y, _, _, _ => rfl
 | c :: r, i, j, y, h0, h1, h => by
  simp only [List.length_cons] at h
  rw [J9, dig_or, Option.bind_some, List.all_cons]
  cases q : dig c with
  | false => rw [if_pos (by simp)]; simp
  | true =>
   have hb := nst_bd q h0 h1
   have hp := p15 (show i ≤ 15 by omega)
   have hp1 := p15 (show i + 1 ≤ 15 by omega)
   have hd := dig_val q
   have e : (10 * y) + ((c - (48 : UInt8)).toNat : Int) = nst y c := rfl
   rw [if_neg (by simp), chk_bind (by constructor <;> omega), e, chk_bind (by constructor <;> omega), num_L0 r (i + 1) (j + 1) _ hb.1 hb.2 (by omega), Bool.true_and, List.foldl_cons]
theorem vnum1 (s : Str) : JaT s = some (numP s) := by
 unfold JaT numP
 by_cases q : s.length < 1 ∨ s.length > 15
 ·rw [if_pos (by simp; omega)]
  rcases q with q | q
  ·have : s = [] := List.length_eq_zero_iff.1 (by omega)
   subst this; rfl
  ·rw [if_neg (by omega)]
 ·rw [if_neg (by simp; omega), chk_bind (by simp only [szMax]; omega), num_L0 s 0 0 0 (by omega) (by decide) (by omega), Option.bind_some]
  by_cases q2 : s.all dig = true
  ·rw [if_pos q2, if_pos ⟨by omega, q2⟩]; rfl
  ·rw [if_neg q2, if_neg (by simp [q2])]; rfl
theorem num2_L0 {s : Str} (hs : s.length ≤ 1000000) : ∀ (m j : Nat) (y : Int), 0 ≤ y → y < 10 ^ j → j ≤ 15 → j ≤ s.length → s.length - j < m →
  Jaj s m y (j : Int) = some (if s.length ≤ 15 ∧ (s.drop j).all dig = true then .go ((s.drop j).foldl nst y, (s.length : Int)) else .ret 0)
 | 0, j, y, _, _, _, _, h => by omega
 | m + 1, j, y, h0, h1, hj, hl, h => by
  rw [Jaj]
  by_cases q : j < s.length
  ·have hix : ix s (j : Int) = some s[j] := by unfold ix; rw [if_pos (by omega), Int.toNat_natCast, List.getElem?_eq_getElem q]
   have hc : (((ix s (j : Int)).bind fun x13 =>
     (if decide ((x13.toNat : Int) < 48) then some true else (ix s (j : Int)).bind fun x18 => some (decide ((x18.toNat : Int) > 57))).bind fun x20 =>
     some (x20 || decide ((j : Int) = 15))) : Option (Bool)) = some (!dig s[j] || decide ((j : Int) = 15)) := by
    rw [hix, Option.bind_some, Option.bind_some, dig_or, Option.bind_some]
   rw [if_pos (by simpa using q), hc, Option.bind_some, hix, List.drop_eq_getElem_cons q, List.all_cons, List.foldl_cons]
   cases qd : dig s[j] with
   | false => rw [if_pos (by simp), if_neg (by simp)]
   | true =>
    by_cases q15 : j = 15
    ·rw [if_pos (by simp; omega), if_neg (by omega)]
    ·have hb := nst_bd qd h0 h1
     have hp := p15 (show j ≤ 15 by omega)
     have hp1 := p15 (show j + 1 ≤ 15 by omega)
     have hd := dig_val qd
     have e : (10 * y) + ((s[j] - (48 : UInt8)).toNat : Int) = nst y s[j] := rfl
     rw [if_neg (by simp; omega), chk_bind (by constructor <;> omega), Option.bind_some, e, chk_bind (by constructor <;> omega), chk_bind (by constructor <;> omega)]
     have ih := num2_L0 hs m (j + 1) (nst y s[j]) hb.1 hb.2 (by omega) (by omega) (by omega)
     rw [show ((j : Int) + 1) = ((j + 1 : Nat) : Int) by omega, ih, Bool.true_and]
  ·have e : j = s.length := by omega
   subst e
   rw [if_neg (by simp), List.drop_length, if_pos ⟨hj, rfl⟩]; rfl
theorem vnum2 {n : Nat} {s : Str} (hn : 1000002 ≤ n) (hs : s.length ≤ 1000000) : Ja5 n s = some (numP s) := by
 unfold Ja5 numP
 have h := num2_L0 hs n 0 0 (by omega) (by decide) (by omega) (by omega) (by omega)
 rw [show ((0 : Nat) : Int) = 0 from rfl] at h
 rw [h, Option.bind_some, List.drop_zero]
 by_cases q : s.length ≤ 15 ∧ s.all dig = true
 ·rw [if_pos q, if_pos q]; rfl
 ·rw [if_neg q, if_neg q]; rfl
theorem vlower_L0 : ∀ (r p : Str), JT r.length p.length (p ++ r) = some (p ++ low r)
 | [], p => by simp [JT, low]
 | c :: r, p => by
  rw [List.length_cons, JT, ix_mid, Option.bind_some]
  have hl : (p ++ [lowB c]).length = p.length + 1 := by simp
  by_cases q : (decide ((c.toNat : Int) ≥ 65) && decide ((c.toNat : Int) ≤ 90)) = true
  ·have e : lowB c = c + 32 := by unfold lowB; rw [if_pos q]
   rw [if_pos q, Option.bind_some, set_mid, ← e, ← hl, vlower_L0 r (p ++ [lowB c])]; simp [low]
  ·have e : lowB c = c := by unfold lowB; rw [if_neg q]
   have e2 : p ++ c :: r = (p ++ [lowB c]) ++ r := by rw [e]; simp
   rw [if_neg q, e2, ← hl, vlower_L0 r (p ++ [lowB c])]; simp [low]
theorem vlower {s : Str} (h : s.length ≤ 1073741824) : Ja4 s = some (low s) := by
 unfold Ja4
 have := vlower_L0 s []
 simp only [List.length_nil, List.nil_append] at this
 rw [chk_bind (by simp only [lim]; omega), chk_bind (by constructor <;> omega), Int.toNat_natCast, this]; rfl
theorem low_len (s : Str) : (low s).length = s.length := by simp [low]
theorem jt2_len (sep : Str) : ∀ l : List Str, (jt sep l).length ≤ sep.length * l.length + sumL l
 | [] => by simp [jt_nil]
 | x :: l => by
  have := jt2_len sep l
  rw [jt_cons, sumL_cons, List.length_append, List.length_append, List.length_cons, Nat.mul_succ]
  omega
theorem jn2_len (sep : Str) (l : List Str) : (jn l sep).length ≤ sep.length * l.length + sumL l := by
 cases l with
 | nil => rw [jn_nil]; simp
 | cons x l =>
  have := jt2_len sep l
  rw [jn_cons, sumL_cons, List.length_append, List.length_cons, Nat.mul_succ]; omega
def getP (f : List RF) (nm : Str) : Str := jn (vals f nm) [44, 32]
theorem getP_len (f : List RF) (nm : Str) : (getP f nm).length ≤ 3 * tot f := by
 have h1 := jn2_len [44, 32] (vals f nm)
 have h2 := sumL_vals nm f
 have h3 := sumL_len (vals f nm)
 unfold getP
 simp only [List.length_cons, List.length_nil] at h1
 omega
theorem get_eq {f : List RF} {nm : Str} (h : tot f ≤ 1000000) (hn : nm.length ≤ 1000000) : Jbo (ffs f) nm = some (getP f nm, decide (((vals f nm).length : Int) > 0)) := by
 have h1 := getP_len f nm
 have h2 := sumL_vals nm f
 have h3 := sumL_len (vals f nm)
 unfold getP at h1
 unfold Jbo getP
 rw [fall h hn, Option.bind_some, joinM_t (by omega) (by omega), Option.bind_some]
theorem get_L0 : ∀ (l : List Str) (i : Nat) (y : Str), 0 < i → y.length + (jt [44, 32] l).length ≤ 100000000 → Jaf l i y = some (y ++ jt [44, 32] l)
 | [], i, y, _, _ => by simp [Jaf, jt_nil]
 | x :: l, i, y, hi, h => by
  rw [jt_cons] at h ⊢
  simp only [List.length_append, List.length_cons, List.length_nil] at h
  rw [Jaf, if_pos (by simpa using hi), chk_bind (by simp only [lim, List.length_cons, List.length_nil]; omega), chk_bind (by simp only [lim, List.length_append, List.length_cons, List.length_nil]; omega), get_L0 l (i + 1) _ (by omega) (by simp only [List.length_append, List.length_cons, List.length_nil]; omega)]
  simp
theorem get2_eq {f : List RF} {nm : Str} (h : tot f ≤ 1000000) (hn : nm.length ≤ 1000000) : Jbs f nm = some (getP f nm, decide (((vals f nm).length : Int) > 0)) := by
 have h1 := getP_len f nm
 have h2 := sumL_vals nm f
 have h3 := sumL_len (vals f nm)
 unfold getP at h1
 unfold Jbs getP
 rw [rall h hn, Option.bind_some, chk_bind (by simp only [szMax]; omega)]
 cases e : vals f nm with
 | nil => rfl
 | cons x l =>
  rw [e, jn_cons] at h1
  simp only [List.length_append] at h1
  rw [Jaf, if_neg (by simp), chk_bind (by simp only [lim, List.length_nil]; omega), get_L0 l _ _ (by omega) (by simp; omega), jn_cons]; rfl
end Rt.Rv
set_option linter.unusedVariables false
set_option linter.unusedSimpArgs false
open Go Go.SL Go.Proofs Pl Vary
namespace Rt.Rv
abbrev V1 := Jd
abbrev V2 := Ji
abbrev In1 := Jt
abbrev In2 := Ju
def clip (n : Int) : Int := max (-1099511627776) (min n 1099511627776)
theorem clip_bd (n : Int) : -1099511627776 ≤ clip n ∧ clip n ≤ 1099511627776 := by unfold clip; omega
def nm' (n : Int) : V1 := ⟨2, clip n, [], false⟩
def tx' (s : Str) : V1 := ⟨1, 0, s, false⟩
def tr' (b : Bool) : V1 := ⟨3, 0, [], b⟩
def cv2 (x : V1) : V2 := ⟨x.kind, x.n, x.s, x.isZ⟩
def inp (i : In2) : In1 := ⟨i.Method, i.Host, i.Path, i.Query, ffs i.Fields⟩
structure IOK (i : In2) : Prop where
 m : i.Method.length ≤ 10000
 h : i.Host.length ≤ 10000
 p : i.Path.length ≤ 10000
 q : i.Query.length ≤ 10000
 f : tot i.Fields ≤ 10000
def VOK (m : Nat) (x : V1) : Prop := x.s.length ≤ m ∧ -1099511627776 ≤ x.n ∧ x.n ≤ 1099511627776
theorem num1 (n : Int) : Jas n = some (nm' n) := rfl
theorem text1 (s : Str) : JO s = some (tx' s) := rfl
theorem truth1 (b : Bool) : JY b = some (tr' b) := rfl
theorem num2 (n : Int) : JaE n = some (cv2 (nm' n)) := rfl
theorem text2 (s : Str) : J1 s = some (cv2 (tx' s)) := rfl
theorem truth2 (b : Bool) : Jab b = some (cv2 (tr' b)) := rfl
theorem nm_ok (m : Nat) (n : Int) : VOK m (nm' n) := ⟨Nat.zero_le _, (clip_bd n).1, (clip_bd n).2⟩
theorem tr_ok (m : Nat) (b : Bool) : VOK m (tr' b) := ⟨Nat.zero_le _, by simp [tr'], by simp [tr']⟩
theorem tx_ok {m : Nat} {s : Str} (h : s.length ≤ m) : VOK m (tx' s) := ⟨h, by simp [tx'], by simp [tx']⟩
theorem abs_mul (a b : Int) : 0 ≤ max a (-a) * max b (-b) ∧ ((decide (a < 0) == decide (b < 0)) = true → a * b = max a (-a) * max b (-b)) ∧ ((decide (a < 0) == decide (b < 0)) = false → a * b = -(max a (-a) * max b (-b))) := by
 have ha : 0 ≤ max a (-a) := by omega
 have hb : 0 ≤ max b (-b) := by omega
 refine ⟨Int.mul_nonneg ha hb, ?_, ?_⟩
 ·intro h
  by_cases qa : a < 0 <;> by_cases qb : b < 0
  ·rw [show max a (-a) = -a by omega, show max b (-b) = -b by omega, Int.neg_mul_neg]
  ·simp [qa, qb] at h
  ·simp [qa, qb] at h
  ·rw [show max a (-a) = a by omega, show max b (-b) = b by omega]
 ·intro h
  by_cases qa : a < 0 <;> by_cases qb : b < 0
  ·simp [qa, qb] at h
  ·rw [show max a (-a) = -a by omega, show max b (-b) = b by omega, Int.neg_mul, Int.neg_neg]
  ·rw [show max a (-a) = a by omega, show max b (-b) = -b by omega, Int.mul_neg, Int.neg_neg]
  ·simp [qa, qb] at h
theorem prod_eq {a b : Int} (a0 : -1099511627776 ≤ a) (a1 : a ≤ 1099511627776) (b0 : -1099511627776 ≤ b) (b1 : b ≤ 1099511627776) : JaK a b = some (nm' (a * b)) := by
 unfold JaK
 by_cases q0 : a = 0 ∨ b = 0
 ·rw [if_pos (by simpa using q0), num1, Option.bind_some]
  rcases q0 with rfl | rfl <;> simp
 ·rw [if_neg (by simpa using q0), chk_bind (by constructor <;> omega), chk_bind (by constructor <;> omega)]
  obtain ⟨p0, p1, p2⟩ := abs_mul a b
  have hx : 0 < max a (-a) := by omega
  have hy : 0 < max b (-b) := by omega
  have hx1 : max a (-a) ≤ 1099511627776 := by omega
  have hy1 : max b (-b) ≤ 1099511627776 := by omega
  have hng : (!(decide (a < 0) == decide (b < 0))) = true ↔ (decide (a < 0) == decide (b < 0)) = false := by simp
  generalize max a (-a) = x at *
  generalize max b (-b) = y at *
  have ed : Int.tdiv 1099511627776 y = 1099511627776 / y := Int.tdiv_eq_ediv_of_nonneg (by omega)
  have hq0 : 0 ≤ 1099511627776 / y := Int.ediv_nonneg (by omega) (by omega)
  have hq1 : 1099511627776 / y ≤ 1099511627776 := Int.ediv_le_self _ (by omega)
  rw [ed, chk_bind ⟨by omega, by omega, by omega⟩]
  by_cases q : x > 1099511627776 / y
  ·have hxy : 1099511627776 < x * y := (Int.ediv_lt_iff_lt_mul hy).1 q
   rw [if_pos (by simpa using q), Option.bind_some]
   by_cases qs : (decide (a < 0) == decide (b < 0)) = true
   ·rw [if_neg (by simp [qs]), chk_bind (by decide), num1, Option.bind_some, p1 qs]
    congr 1
    unfold nm' clip; congr 1; omega
   ·have qs : (decide (a < 0) == decide (b < 0)) = false := by simpa using qs
    rw [if_pos (hng.2 qs), chk_bind (by decide), chk_bind (by decide), num1, Option.bind_some, p2 qs]
    congr 1
    unfold nm' clip; congr 1; omega
  ·have hxy : x * y ≤ 1099511627776 := by
    by_cases w : 1099511627776 < x * y
    ·exact absurd ((Int.ediv_lt_iff_lt_mul hy).2 w) q
    ·omega
   rw [if_neg (by simpa using q), Option.bind_some]
   by_cases qs : (decide (a < 0) == decide (b < 0)) = true
   ·rw [if_neg (by simp [qs]), chk_bind (by simp only; constructor <;> omega), num1, Option.bind_some, p1 qs]
   ·have qs : (decide (a < 0) == decide (b < 0)) = false := by simpa using qs
    rw [if_pos (hng.2 qs), chk_bind (by simp only; constructor <;> omega), chk_bind (by simp only; rw [Int.neg_mul]; constructor <;> omega), num1, Option.bind_some, p2 qs]
    simp only [Int.neg_mul]
theorem prod2_eq {a b : Int} (a0 : -1099511627776 ≤ a) (a1 : a ≤ 1099511627776) (b0 : -1099511627776 ≤ b) (b1 : b ≤ 1099511627776) : JaW a b = some (cv2 (nm' (a * b))) := by
 unfold JaW
 by_cases q0 : a = 0
 ·subst q0
  rw [if_neg (by simp), Option.bind_some, if_neg (by simp), Int.zero_mul, chk_bind (by decide), num2]; rfl
 ·obtain ⟨p0, p1, p2⟩ := abs_mul a b
  have hx : 0 < max a (-a) := by omega
  have hx1 : max a (-a) ≤ 1099511627776 := by omega
  have hy0 : 0 ≤ max b (-b) := by omega
  have ed : Int.tdiv 2199023255552 (max a (-a)) = 2199023255552 / max a (-a) := Int.tdiv_eq_ediv_of_nonneg (by omega)
  have hq0 : 0 ≤ 2199023255552 / max a (-a) := Int.ediv_nonneg (by omega) (by omega)
  have hq1 : 2199023255552 / max a (-a) ≤ 2199023255552 := Int.ediv_le_self _ (by omega)
  have hc : ((if decide (a ≠ 0) then
   (chk (InI (-a))).bind fun _ =>
   (chk ((max a (-a)) ≠ 0 ∧ InI (Int.tdiv 2199023255552 (max a (-a))))).bind fun _ =>
   (if decide (b > (Int.tdiv 2199023255552 (max a (-a)))) then some true else (chk (InI (-a))).bind fun _ =>
   (chk ((max a (-a)) ≠ 0 ∧ InI (Int.tdiv 2199023255552 (max a (-a))))).bind fun _ =>
   (chk (InI (-(Int.tdiv 2199023255552 (max a (-a)))))).bind fun _ =>
   some (decide (b < (-(Int.tdiv 2199023255552 (max a (-a))))))).bind fun x24 =>
   some x24
   else
   some false) : Option (Bool)) = some (decide (max b (-b) > 2199023255552 / max a (-a))) := by
   rw [ed, if_pos (by simpa using q0), chk_bind (by constructor <;> omega), chk_bind ⟨by omega, by omega, by omega⟩]
   by_cases q : b > 2199023255552 / max a (-a)
   ·rw [if_pos (by simpa using q), Option.bind_some, decide_eq_true (by omega)]
   ·rw [if_neg (by simpa using q), chk_bind (by constructor <;> omega), chk_bind ⟨by omega, by omega, by omega⟩, chk_bind (by constructor <;> omega), Option.bind_some]
    congr 1
    rw [decide_eq_decide]; omega
  rw [hc, Option.bind_some]
  by_cases q : max b (-b) > 2199023255552 / max a (-a)
  ·have hxy : 2199023255552 < max a (-a) * max b (-b) := by rw [Int.mul_comm]; exact (Int.ediv_lt_iff_lt_mul hx).1 q
   have hb0 : b ≠ 0 := fun e => by subst e; omega
   rw [if_pos (by simpa using q)]
   have es : (decide (a > 0) == decide (b > 0)) = (decide (a < 0) == decide (b < 0)) := by
    by_cases qa : a < 0 <;> by_cases qb : b < 0
    ·rw [decide_eq_false (show ¬ a > 0 by omega), decide_eq_false (show ¬ b > 0 by omega), decide_eq_true qa, decide_eq_true qb]; rfl
    ·rw [decide_eq_false (show ¬ a > 0 by omega), decide_eq_true (show b > 0 by omega), decide_eq_true qa, decide_eq_false qb]; rfl
    ·rw [decide_eq_true (show a > 0 by omega), decide_eq_false (show ¬ b > 0 by omega), decide_eq_false qa, decide_eq_true qb]; rfl
    ·rw [decide_eq_true (show a > 0 by omega), decide_eq_true (show b > 0 by omega), decide_eq_false qa, decide_eq_false qb]; rfl
   rw [es]
   by_cases qs : (decide (a < 0) == decide (b < 0)) = true
   ·rw [if_pos qs, num2, Option.bind_some, p1 qs]
    congr 2
    unfold nm' clip; congr 1; omega
   ·have qs : (decide (a < 0) == decide (b < 0)) = false := by simpa using qs
    rw [if_neg (by simp [qs]), num2, Option.bind_some, p2 qs]
    congr 2
    unfold nm' clip; congr 1; omega
  ·have hxy : max a (-a) * max b (-b) ≤ 2199023255552 := by
    by_cases w : 2199023255552 < max a (-a) * max b (-b)
    ·exact absurd ((Int.ediv_lt_iff_lt_mul hx).2 (by rw [Int.mul_comm]; exact w)) q
    ·omega
   have hin : InI (a * b) := by
    by_cases qs : (decide (a < 0) == decide (b < 0)) = true
    ·rw [p1 qs]; constructor <;> omega
    ·rw [p2 (by simpa using qs)]; constructor <;> omega
   rw [if_neg (by simpa using q), chk_bind hin, num2]; rfl
theorem call_sim {n m : Nat} {nm : Str} {x : V1} {i : In2} (hn : 1000002 ≤ n) (hm : m ≤ 20000) (hi : IOK i) (hx : VOK m x) :
  ∃ v ok, JK nm x (inp i) = some (v, ok) ∧ (∃ w, JV n nm (cv2 x) i = some (w, ok) ∧ (ok = true → w = cv2 v)) ∧ (ok = true → VOK 40000 v) := by
 obtain ⟨hx0, hx1, hx2⟩ := hx
 have hsg := segs_len i.Path
 have hip := hi.p
 have hsl : x.s.length ≤ 1000000 := by omega
 have hft : tot i.Fields ≤ 1000000 := by have := hi.f; omega
 have hgl := getP_len i.Fields x.s
 have hif := hi.f
 have hs2 : (cv2 x).N = x.n := rfl
 have main2 : ∀ {b : V1}, VOK 40000 b → ∀ {o1 : Option (V1 × Bool)} {o2 : Option (V2 × Bool)}, o1 = (if decide (x.kind ≠ 2) = true then some (⟨0, 0, [], false⟩, false) else some (b, true)) → (∃ w, o2 = some (w, decide ((cv2 x).TypeZ = 2)) ∧ (x.kind = 2 → w = cv2 b)) →
   ∃ v ok, o1 = some (v, ok) ∧ (∃ w, o2 = some (w, ok) ∧ (ok = true → w = cv2 v)) ∧ (ok = true → VOK 40000 v) := by
  rintro b hb o1 o2 h1 ⟨w, h2, h3⟩
  by_cases k : x.kind = 2
  ·rw [if_neg (by simpa using k)] at h1
   rw [decide_eq_true (show (cv2 x).TypeZ = 2 from k)] at h2
   exact ⟨_, _, h1, ⟨_, h2, fun _ => h3 k⟩, fun _ => hb⟩
  ·rw [if_pos (by simpa using k)] at h1
   rw [decide_eq_false (show ¬ (cv2 x).TypeZ = 2 from k)] at h2
   exact ⟨_, _, h1, ⟨_, h2, fun h => by cases h⟩, fun h => by cases h⟩
 by_cases q1 : nm = [112, 97, 114, 116]
 ·subst q1
  have e1 : JK [112, 97, 114, 116] x (inp i) = if decide (x.kind ≠ 2) = true then some (⟨0, 0, [], false⟩, false) else if (decide (x.n < 0) || decide (x.n ≥ ((segs i.Path).length : Int))) = true then some (tx' [], true) else (ix (segs i.Path) x.n).bind fun z => some (tx' z, true) := by
   unfold JK
   rw [if_pos (by decide), if_neg (show ¬ decide (([112, 97, 114, 116] : Str) = [116, 101, 120, 116]) = true by decide), show (inp i).Path = i.Path from rfl, segs_eq (by omega)]
   rfl
  have e2 : JV n [112, 97, 114, 116] (cv2 x) i = if ((decide ((cv2 x).TypeZ = 2) && decide (x.n ≥ 0)) && decide (x.n < ((segs i.Path).length : Int))) = true then (ix (segs i.Path) x.n).bind fun z => some (cv2 (tx' z), true) else some (cv2 (tx' []), decide ((cv2 x).TypeZ = 2)) := by
   unfold JV
   rw [if_pos (by decide), segs2_eq (by omega)]
   rfl
  by_cases r : 0 ≤ x.n ∧ x.n < (segs i.Path).length
  ·obtain ⟨z, hz⟩ := ix_ok r.1 r.2
   have hzl : z.length ≤ i.Path.length := by
    unfold ix at hz
    rw [if_pos r.1] at hz
    exact segs_mem (List.mem_of_getElem? hz)
   rw [hz, Option.bind_some] at e1 e2
   refine main2 (b := tx' z) (tx_ok (by omega)) ?_ ?_
   ·rw [e1]; congr 1; rw [if_neg (by simp; omega)]
   ·rw [e2]
    by_cases k : x.kind = 2
    ·rw [if_pos (by simp [cv2, k]; omega)]
     exact ⟨_, by rw [decide_eq_true (show (cv2 x).TypeZ = 2 from k)], fun _ => rfl⟩
    ·rw [if_neg (by simp [cv2, k])]
     exact ⟨_, rfl, fun h => absurd h k⟩
  ·refine main2 (b := tx' []) (tx_ok (by simp)) ?_ ?_
   ·rw [e1]; congr 1; rw [if_pos (by simp; omega)]
   ·rw [e2, if_neg (by simp; omega)]
    exact ⟨_, rfl, fun _ => rfl⟩
 by_cases q2 : nm = [116, 101, 120, 116]
 ·subst q2
  have hil := itoa_len hx1 hx2
  refine main2 (b := tx' (Go.Lib.itoa x.n)) (tx_ok (by omega)) ?_ ?_
  ·unfold JK
   rw [if_pos (by decide), if_pos (show decide (([116, 101, 120, 116] : Str) = [116, 101, 120, 116]) = true by decide), itoaM_eq hx1 hx2]; rfl
  ·unfold JV
   rw [if_neg (by decide), if_pos (by decide), hs2, dec_eq (by omega) hx1 hx2]
   exact ⟨_, rfl, fun _ => rfl⟩
 have hs : (cv2 x).S = x.s := rfl
 have main : ∀ {b : V1}, VOK 40000 b → ∀ {o1 : Option (V1 × Bool)} {o2 : Option (V2 × Bool)}, o1 = (if decide (x.kind ≠ 1) = true then some (⟨0, 0, [], false⟩, false) else some (b, true)) → o2 = some (cv2 b, decide ((cv2 x).TypeZ = 1)) →
   ∃ v ok, o1 = some (v, ok) ∧ (∃ w, o2 = some (w, ok) ∧ (ok = true → w = cv2 v)) ∧ (ok = true → VOK 40000 v) := by
  intro b hb o1 o2 h1 h2
  by_cases k : x.kind = 1
  ·rw [if_neg (by simpa using k)] at h1
   rw [decide_eq_true (show (cv2 x).TypeZ = 1 from k)] at h2
   exact ⟨_, _, h1, ⟨_, h2, fun _ => rfl⟩, fun _ => hb⟩
  ·rw [if_pos (by simpa using k)] at h1
   rw [decide_eq_false (show ¬ (cv2 x).TypeZ = 1 from k)] at h2
   exact ⟨_, _, h1, ⟨_, h2, fun h => by cases h⟩, fun h => by cases h⟩
 by_cases q3 : nm = [104, 101, 97, 100, 101, 114]
 ·subst q3
  refine main (b := tx' (getP i.Fields x.s)) (tx_ok (by omega)) ?_ ?_
  ·unfold JK
   rw [if_neg (by decide)]
   congr 1
   rw [if_pos (by decide), show (inp i).Fields = ffs i.Fields from rfl, get_eq hft hsl]; rfl
  ·unfold JV
   rw [if_neg (by decide), if_neg (by decide), if_pos (by decide), hs, get2_eq hft hsl]; rfl
 by_cases q4 : nm = [104, 97, 115]
 ·subst q4
  refine main (b := tr' (decide (((vals i.Fields x.s).length : Int) > 0))) (tr_ok _ _) ?_ ?_
  ·unfold JK
   rw [if_neg (by decide)]
   congr 1
   rw [if_neg (by decide), if_pos (by decide), show (inp i).Fields = ffs i.Fields from rfl, get_eq hft hsl]; rfl
  ·unfold JV
   rw [if_neg (by decide), if_neg (by decide), if_neg (by decide), if_pos (by decide), hs, get2_eq hft hsl]; rfl
 by_cases q5 : nm = [97, 114, 103]
 ·subst q5
  have hqq := hi.q
  have hal := argP_len i.Query x.s
  obtain ⟨b1, h1⟩ := arg_eq (q := i.Query) (nm := x.s) (by omega) hsl
  obtain ⟨b2, h2⟩ := arg2_eq (q := i.Query) (nm := x.s) (by omega) hsl
  refine main (b := tx' (argP i.Query x.s)) (tx_ok (by omega)) ?_ ?_
  ·unfold JK
   rw [if_neg (by decide)]
   congr 1
   rw [if_neg (by decide), if_neg (by decide), if_pos (by decide), show (inp i).Query = i.Query from rfl, h1]; rfl
  ·unfold JV
   rw [if_neg (by decide), if_neg (by decide), if_neg (by decide), if_neg (by decide), if_pos (by decide), hs, h2]; rfl
 by_cases q6 : nm = [108, 101, 110]
 ·subst q6
  refine main (b := nm' (x.s.length : Int)) (nm_ok _ _) ?_ ?_
  ·unfold JK
   rw [if_neg (by decide)]
   congr 1
  ·unfold JV
   rw [if_neg (by decide), if_neg (by decide), if_neg (by decide), if_neg (by decide), if_neg (by decide), if_pos (by decide)]; rfl
 by_cases q7 : nm = [108, 111, 119, 101, 114]
 ·subst q7
  refine main (b := tx' (low x.s)) (tx_ok (by rw [low_len]; omega)) ?_ ?_
  ·unfold JK
   rw [if_neg (by decide)]
   congr 1
   rw [if_neg (by decide), if_neg (by decide), if_neg (by decide), if_neg (by decide), if_pos (by decide), vlower (by omega)]; rfl
  ·unfold JV
   rw [if_neg (by decide), if_neg (by decide), if_neg (by decide), if_neg (by decide), if_neg (by decide), if_neg (by decide), if_pos (by decide), hs, rlower (by omega)]; rfl
 refine main (b := nm' (numP x.s)) (nm_ok _ _) ?_ ?_
 ·unfold JK
  rw [if_neg (by simp [q1, q2])]
  congr 1
  rw [if_neg (by simpa using q3), if_neg (by simpa using q4), if_neg (by simpa using q5), if_neg (by simpa using q6), if_neg (by simpa using q7), vnum1]; rfl
 ·unfold JV
  rw [if_neg (by simpa using q1), if_neg (by simpa using q2), if_neg (by simpa using q3), if_neg (by simpa using q4), if_neg (by simpa using q5), if_neg (by simpa using q6), if_neg (by simpa using q7), hs, vnum2 hn hsl]; rfl
end Rt.Rv
set_option linter.unusedVariables false
set_option linter.unusedSimpArgs false
open Go Go.SL Go.Proofs Pl Vary
namespace Rt.Rv
def sfxB (a b : Str) : Bool := decide ((a.length : Int) ≥ (b.length : Int)) && decide (subL a ((a.length : Int) - (b.length : Int)) (a.length : Int) = b)
theorem sfx {a b : Str} (h : a.length ≤ 1000000) (hb : b.length ≤ 1000000) : Jat a b = some (sfxB a b) := by
 unfold Jat JM sfxB
 by_cases h : (a.length : Int) ≥ (b.length : Int)
 ·rw [if_pos (by simpa using h), chk_bind (by constructor <;> omega), chk_bind (by omega)]; simp [h]
 ·rw [if_neg (by simpa using h)]
  have : ¬ b.length ≤ a.length := by omega
  simp [this]
theorem pfx (a b : Str) : Jy a b = some (Rc.hp a b) := by rw [prefix_ok, Rc.hp_eq]
theorem pfx2 (a b : Str) : (if decide ((a.length : Int) ≥ (b.length : Int)) then (chk (0 ≤ (0 : Int) ∧ (0 : Int) ≤ (min (a.length : Int) (b.length : Int)) ∧ (min (a.length : Int) (b.length : Int)) ≤ (a.length : Int))).bind fun _ =>
 some (decide ((subL a (0 : Int) (min (a.length : Int) (b.length : Int))) = b)) else some false) = some (Rc.hp a b) := by
 rw [← Rc.hp_eq]
 by_cases h : (a.length : Int) ≥ (b.length : Int)
 ·rw [if_pos (by simpa using h), chk_bind (by omega), decide_eq_true h, Bool.true_and, show min (a.length : Int) (b.length : Int) = b.length by omega]
 ·rw [if_neg (by simpa using h), decide_eq_false h, Bool.false_and]
theorem sfx2 {a b : Str} (ha : a.length ≤ 1000000) (hb : b.length ≤ 1000000) : (if decide ((a.length : Int) ≥ (b.length : Int)) then (chk (InI ((a.length : Int) - (b.length : Int)))).bind fun _ =>
 (chk (0 ≤ (max 0 ((a.length : Int) - (b.length : Int))) ∧ (max 0 ((a.length : Int) - (b.length : Int))) ≤ (a.length : Int) ∧ (a.length : Int) ≤ (a.length : Int))).bind fun _ =>
 some (decide ((subL a (max 0 ((a.length : Int) - (b.length : Int))) (a.length : Int)) = b)) else some false) = some (sfxB a b) := by
 unfold sfxB
 by_cases h : (a.length : Int) ≥ (b.length : Int)
 ·rw [if_pos (by simpa using h), chk_bind (by constructor <;> omega), chk_bind (by omega), decide_eq_true h, Bool.true_and, show max 0 ((a.length : Int) - (b.length : Int)) = (a.length : Int) - (b.length : Int) by omega]
 ·rw [if_neg (by simpa using h), decide_eq_false h, Bool.false_and]
def eqB (a b : V1) : Bool := decide (a.kind = b.kind) && (decide (a.n = b.n) && (decide (a.s = b.s) && (a.isZ == b.isZ)))
theorem op_sim {n m : Nat} {op : Str} {a b : V1} (hn : 1000002 ≤ n) (hm : m ≤ 20000) (ha : VOK m a) (hb : VOK m b) :
  ∃ v ok, Jo op a b = some (v, ok) ∧ (∃ w, Js n op (cv2 a) (cv2 b) = some (w, ok) ∧ (ok = true → w = cv2 v)) ∧ (ok = true → VOK 40000 v) := by
 obtain ⟨ha0, ha1, ha2⟩ := ha
 obtain ⟨hb0, hb1, hb2⟩ := hb
 have hA : a.s.length ≤ 1000000 := by omega
 have hB : b.s.length ≤ 1000000 := by omega
 have main : ∀ {T : Int} {v : V1}, VOK 40000 v → ∀ {o1 : Option (V1 × Bool)} {o2 : Option (V2 × Bool)}, o1 = (if decide (a.kind ≠ b.kind) = true then some (⟨0, 0, [], false⟩, false) else some (v, decide (a.kind = T))) → o2 = some (cv2 v, decide (a.kind = T) && decide (b.kind = T)) →
   ∃ v ok, o1 = some (v, ok) ∧ (∃ w, o2 = some (w, ok) ∧ (ok = true → w = cv2 v)) ∧ (ok = true → VOK 40000 v) := by
  intro T v hv o1 o2 h1 h2
  by_cases k : a.kind = b.kind
  ·rw [if_neg (by simpa using k)] at h1
   rw [← k, Bool.and_self] at h2
   exact ⟨_, _, h1, ⟨_, h2, fun _ => rfl⟩, fun _ => hv⟩
  ·rw [if_pos (by simpa using k)] at h1
   have : (decide (a.kind = T) && decide (b.kind = T)) = false := by
    by_cases q : a.kind = T
    ·have : ¬ b.kind = T := fun e => k (by rw [q, e])
     simp [this]
    ·simp [q]
   rw [this] at h2
   exact ⟨_, _, h1, ⟨_, h2, fun h => by cases h⟩, fun h => by cases h⟩
 have mainE : ∀ {v : V1}, VOK 40000 v → ∀ {o1 : Option (V1 × Bool)} {o2 : Option (V2 × Bool)}, o1 = (if decide (a.kind ≠ b.kind) = true then some (⟨0, 0, [], false⟩, false) else some (v, true)) → o2 = some (cv2 v, decide (a.kind = b.kind)) →
   ∃ v ok, o1 = some (v, ok) ∧ (∃ w, o2 = some (w, ok) ∧ (ok = true → w = cv2 v)) ∧ (ok = true → VOK 40000 v) := by
  intro v hv o1 o2 h1 h2
  by_cases k : a.kind = b.kind
  ·rw [if_neg (by simpa using k)] at h1
   rw [decide_eq_true k] at h2
   exact ⟨_, _, h1, ⟨_, h2, fun _ => rfl⟩, fun _ => hv⟩
  ·rw [if_pos (by simpa using k)] at h1
   rw [decide_eq_false k] at h2
   exact ⟨_, _, h1, ⟨_, h2, fun h => by cases h⟩, fun h => by cases h⟩
 by_cases q1 : op = [43]
 ·subst q1
  have e1 : Jo [43] a b = if decide (a.kind ≠ b.kind) = true then some (⟨0, 0, [], false⟩, false) else if decide (a.kind = 1) = true then some (tx' (a.s ++ b.s), true) else some (nm' (a.n + b.n), decide (a.kind = 2)) := by
   unfold Jo
   congr 1
   rw [if_pos (by decide)]
   congr 1
   ·rw [chk_bind (by simp only [lim]; omega), text1]; rfl
   ·rw [chk_bind (by constructor <;> omega), num1]; rfl
  have e2 : Js n [43] (cv2 a) (cv2 b) = if (decide (a.kind = 1) && decide (b.kind = 1)) = true then some (cv2 (tx' (a.s ++ b.s)), true) else some (cv2 (nm' (a.n + b.n)), (decide (a.kind = 2) && decide (b.kind = 2))) := by
   unfold Js
   rw [if_pos (by decide)]
   congr 1
   ·rw [chk_bind (by simp only [lim, cv2]; omega), text2]; rfl
   ·rw [chk_bind (by simp only [cv2]; constructor <;> omega), num2]; rfl
  by_cases k : a.kind = 1
  ·by_cases k2 : b.kind = 1
   ·rw [if_neg (by simp [k, k2]), if_pos (by simpa using k)] at e1
    rw [if_pos (by simp [k, k2])] at e2
    exact ⟨_, _, e1, ⟨_, e2, fun _ => rfl⟩, fun _ => tx_ok (by simp; omega)⟩
   ·rw [if_pos (by rw [k]; simp; exact fun e => k2 e.symm)] at e1
    rw [if_neg (by simp [k2]), show (decide (a.kind = 2) && decide (b.kind = 2)) = false by simp [k]] at e2
    exact ⟨_, _, e1, ⟨_, e2, fun h => by cases h⟩, fun h => by cases h⟩
  ·exact main (nm_ok 40000 (a.n + b.n)) (by rw [e1]; congr 1; rw [if_neg (by simpa using k)]) (by rw [e2, if_neg (by simp [k])])
 by_cases q2 : op = [45]
 ·subst q2
  refine main (T := 2) (nm_ok 40000 (a.n - b.n)) ?_ ?_
  ·unfold Jo
   congr 1
   rw [if_neg (by decide), if_pos (by decide), chk_bind (by constructor <;> omega), num1]; rfl
  ·unfold Js
   rw [if_neg (by decide), if_pos (by decide), chk_bind (by simp only [cv2]; constructor <;> omega), num2]; rfl
 by_cases q3 : op = [42]
 ·subst q3
  have e1 : Jo [42] a b = if decide (a.kind ≠ b.kind) = true then some (⟨0, 0, [], false⟩, false) else if (!decide (a.kind = 2)) = true then some (⟨0, 0, [], false⟩, false) else some (nm' (a.n * b.n), true) := by
   unfold Jo
   congr 1
   rw [if_neg (by decide), if_neg (by decide), if_pos (by decide), prod_eq ha1 ha2 hb1 hb2]; rfl
  have e2 : Js n [42] (cv2 a) (cv2 b) = some (cv2 (nm' (a.n * b.n)), (decide (a.kind = 2) && decide (b.kind = 2))) := by
   unfold Js
   rw [if_neg (by decide), if_neg (by decide), if_pos (by decide), show (cv2 a).N = a.n from rfl, show (cv2 b).N = b.n from rfl, prod2_eq ha1 ha2 hb1 hb2]; rfl
  by_cases k : a.kind = 2
  ·exact main (T := 2) (nm_ok 40000 (a.n * b.n)) (by rw [e1]; congr 1; rw [if_neg (by simp [k]), decide_eq_true k]) e2
  ·rw [if_pos (show (!decide (a.kind = 2)) = true by simp [k])] at e1
   rw [show (decide (a.kind = 2) && decide (b.kind = 2)) = false by simp [k]] at e2
   refine ⟨⟨0, 0, [], false⟩, false, ?_, ⟨_, e2, fun h => by cases h⟩, fun h => by cases h⟩
   rw [e1]; split <;> rfl
 by_cases q4 : op = [61, 61]
 ·subst q4
  refine mainE (tr_ok 40000 (eqB a b)) ?_ ?_
  ·unfold Jo
   congr 1
  ·unfold Js
   rw [if_neg (by decide), if_neg (by decide), if_neg (by decide), if_pos (by decide)]; rfl
 by_cases q5 : op = [33, 61]
 ·subst q5
  refine mainE (tr_ok 40000 (!eqB a b)) ?_ ?_
  ·unfold Jo
   congr 1
  ·unfold Js
   rw [if_neg (by decide), if_neg (by decide), if_neg (by decide), if_neg (by decide), if_pos (by decide)]; rfl
 by_cases q6 : op = [60]
 ·subst q6
  refine main (T := 2) (tr_ok 40000 (decide (a.n < b.n))) ?_ ?_
  ·unfold Jo
   congr 1
  ·unfold Js
   rw [if_neg (by decide), if_neg (by decide), if_neg (by decide), if_neg (by decide), if_neg (by decide), if_pos (by decide)]; rfl
 by_cases q7 : op = [60, 61]
 ·subst q7
  refine main (T := 2) (tr_ok 40000 (decide (a.n ≤ b.n))) ?_ ?_
  ·unfold Jo
   congr 1
  ·unfold Js
   rw [if_neg (by decide), if_neg (by decide), if_neg (by decide), if_neg (by decide), if_neg (by decide), if_neg (by decide), if_pos (by decide)]; rfl
 by_cases q8 : op = [115, 116, 97, 114, 116, 115]
 ·subst q8
  refine main (T := 1) (tr_ok 40000 (Rc.hp a.s b.s)) ?_ ?_
  ·unfold Jo
   congr 1
   rw [if_neg (by decide), if_neg (by decide), if_neg (by decide), if_neg (by decide), if_neg (by decide), if_neg (by decide), if_neg (by decide), if_pos (by decide), pfx]; rfl
  ·unfold Js
   rw [if_neg (by decide), if_neg (by decide), if_neg (by decide), if_neg (by decide), if_neg (by decide), if_neg (by decide), if_neg (by decide), if_pos (by decide), show (cv2 a).S = a.s from rfl, show (cv2 b).S = b.s from rfl, pfx2]; rfl
 by_cases q9 : op = [101, 110, 100, 115]
 ·subst q9
  refine main (T := 1) (tr_ok 40000 (sfxB a.s b.s)) ?_ ?_
  ·unfold Jo
   congr 1
   rw [if_neg (by decide), if_neg (by decide), if_neg (by decide), if_neg (by decide), if_neg (by decide), if_neg (by decide), if_neg (by decide), if_neg (by decide), if_pos (by decide), sfx hA hB]; rfl
  ·unfold Js
   rw [if_neg (by decide), if_neg (by decide), if_neg (by decide), if_neg (by decide), if_neg (by decide), if_neg (by decide), if_neg (by decide), if_neg (by decide), if_pos (by decide), show (cv2 a).S = a.s from rfl, show (cv2 b).S = b.s from rfl, sfx2 hA hB]; rfl
 refine main (T := 1) (tr_ok 40000 (Go.Lib.contains a.s b.s)) ?_ ?_
 ·unfold Jo
  congr 1
  rw [if_neg (by simpa using q1), if_neg (by simpa using q2), if_neg (by simpa using q3), if_neg (by simpa using q4), if_neg (by simpa using q5), if_neg (by simpa using q6), if_neg (by simpa using q7), if_neg (by simpa using q8), if_neg (by simpa using q9), containsM_eq hA]; rfl
 ·unfold Js
  rw [if_neg (by simpa using q1), if_neg (by simpa using q2), if_neg (by simpa using q3), if_neg (by simpa using q4), if_neg (by simpa using q5), if_neg (by simpa using q6), if_neg (by simpa using q7), if_neg (by simpa using q8), if_neg (by simpa using q9), show (cv2 a).S = a.s from rfl, show (cv2 b).S = b.s from rfl, cont2_eq hn hA hB]; rfl
theorem pre_sim {nm : Str} {i : In2} (hi : IOK i) : ∃ v, JR nm (inp i) = some v ∧ Jbw nm i = some (cv2 v) ∧ VOK 10000 v := by
 unfold JR Jbw
 by_cases q1 : nm = [109, 101, 116, 104, 111, 100]
 ·subst q1; exact ⟨_, rfl, rfl, tx_ok hi.m⟩
 by_cases q2 : nm = [104, 111, 115, 116]
 ·subst q2; exact ⟨_, rfl, rfl, tx_ok hi.h⟩
 by_cases q3 : nm = [112, 97, 116, 104]
 ·subst q3; exact ⟨_, rfl, rfl, tx_ok hi.p⟩
 rw [if_neg (by simpa using q1), if_neg (by simpa using q2), if_neg (by simpa using q3), if_neg (by simpa using q1), if_neg (by simpa using q2), if_neg (by simpa using q3)]
 exact ⟨_, rfl, rfl, tx_ok hi.q⟩
end Rt.Rv
set_option linter.unusedVariables false
set_option linter.unusedSimpArgs false
open Go Go.SL Go.Proofs Pl Vary
namespace Rt.Rv
noncomputable def tokB (s : Str) : Bool := (Jbh s).getD false
theorem tokB_eq {s : Str} (h : s.length ≤ 100000000) : syntax_Token s = some (tokB s) ∧ Jbh s = some (tokB s) := by
 obtain ⟨b, h1, h2⟩ := tok h
 unfold tokB
 rw [h1, h2]; exact ⟨rfl, rfl⟩
noncomputable def nmO (s : Str) : Option Str := if tokB s = true ∧ s.length ≤ 64 then some (low s) else none
noncomputable def nmC (s : Str) : Int := if tokB s = true then 5 else 8
theorem nmO_len {s m : Str} (h : nmO s = some m) : m.length ≤ 64 := by
 unfold nmO at h
 split at h
 ·rename_i k; cases h; rw [low_len]; exact k.2
 ·cases h
theorem nmC_ne (s : Str) : nmC s ≠ 0 := by unfold nmC; split <;> decide
theorem name1 {s : Str} (h : s.length ≤ 100000000) : Jbp s = some ((nmO s).getD [], if (nmO s).isSome = true then none else some (nmC s)) := by
 unfold Jbp nmO nmC
 rw [(tokB_eq h).1, Option.bind_some]
 cases q : tokB s with
 | false => rfl
 | true =>
  rw [if_neg (by simp)]
  by_cases k : s.length ≤ 64
  ·rw [if_neg (by simp; omega), flower (by omega), if_pos ⟨rfl, k⟩]; rfl
  ·rw [if_pos (by simp; omega), if_neg (by simp [k])]; rfl
theorem name2 {s : Str} (h : s.length ≤ 100000000) : Jb7 s = some ((nmO s).getD [], if (nmO s).isSome = true then 0 else nmC s) := by
 unfold Jb7 nmO nmC
 rw [(tokB_eq h).2, Option.bind_some]
 cases q : tokB s with
 | false => rfl
 | true =>
  rw [if_neg (by simp)]
  by_cases k : s.length ≤ 64
  ·rw [if_neg (by simp; omega), rlower (by omega), if_pos ⟨rfl, k⟩]; rfl
  ·rw [if_pos (by simp; omega), if_neg (by simp [k])]; rfl
def vlO (s : Str) : Option Str := if ctl s = false ∧ (trm s).length ≤ 2048 then some (trm s) else none
def vlC (s : Str) : Int := if ctl s = true then 2 else 5
theorem vlC_ne (s : Str) : vlC s ≠ 0 := by unfold vlC; split <;> decide
theorem vlO_len {s m : Str} (h : vlO s = some m) : m.length ≤ 2048 := by
 unfold vlO at h
 split at h
 ·rename_i k; cases h; exact k.2
 ·cases h
theorem fcontrol_L0 : ∀ (s : Str) (i : Nat), Jaa s i = some (if ctl s = true then Fl.ret true else Fl.go ())
 | [], i => rfl
 | c :: s, i => by
  have e : ctl (c :: s) = (((decide ((c.toNat : Int) < 32) && decide ((c.toNat : Int) ≠ 9)) || decide ((c.toNat : Int) = 127)) || ctl s) := rfl
  rw [Jaa, fcontrol_L0 s (i + 1), e]
  cases q1 : decide ((c.toNat : Int) < 32) <;> cases q2 : decide ((c.toNat : Int) ≠ 9) <;> cases q3 : decide ((c.toNat : Int) = 127) <;> simp
theorem fcontrol_eq {s : Str} (h : s.length ≤ 100000000) : JaV s = some (ctl s) := by
 unfold JaV
 rw [chk_bind (by simp only [szMax]; omega), fcontrol_L0, Option.bind_some]
 cases ctl s <;> rfl
theorem value1 {s : Str} (h : s.length ≤ 1000000) : Jbg s = some ((vlO s).getD [], if (vlO s).isSome = true then none else some (vlC s)) := by
 unfold Jbg vlO vlC
 rw [fcontrol_eq (by omega), Option.bind_some]
 cases q : ctl s with
 | true => rfl
 | false =>
  rw [if_neg (by simp), trimM_eq (by omega), Option.bind_some]
  by_cases k : (trm s).length ≤ 2048
  ·rw [if_neg (by simp; omega), if_pos ⟨rfl, k⟩]; rfl
  ·rw [if_pos (by simp; omega), if_neg (by simp [k])]; rfl
theorem value2 {n : Nat} {s : Str} (hn : 1000002 ≤ n) (h : s.length ≤ 1000000) : JbU n s = some ((vlO s).getD [], if (vlO s).isSome = true then 0 else vlC s) := by
 unfold JbU vlO vlC
 rw [control_eq (by omega), Option.bind_some]
 cases q : ctl s with
 | true => rfl
 | false =>
  rw [if_neg (by simp), rtrim (by omega) (by omega), Option.bind_some]
  by_cases k : (trm s).length ≤ 2048
  ·rw [if_neg (by simp; omega), if_pos ⟨rfl, k⟩]; rfl
  ·rw [if_pos (by simp; omega), if_neg (by simp [k])]; rfl
def uff (l : List FF) : List RF := l.map fun x => ⟨x.Name, x.Value⟩
theorem uff_len (l : List FF) : (uff l).length = l.length := by simp [uff]
def HOK (k : Nat) (l : List FF) : Prop := l.length ≤ k ∧ ∀ x ∈ l, x.Name.length ≤ 64 ∧ x.Value.length ≤ 2048
def kpt (nm : Str) (l : List FF) : List FF := l.filter fun x => !decide (low x.Name = nm)
def stP (nm v : Str) : List FF → Bool → List FF
 | [], _ => []
 | x :: r, d => if low x.Name = nm then (if d = true then stP nm v r d else ⟨nm, v⟩ :: stP nm v r true) else x :: stP nm v r d
def stD (nm : Str) (l : List FF) : Bool := l.any fun x => decide (low x.Name = nm)
def setF (l : List FF) (nm v : Str) : List FF := if stD nm l = true then stP nm v l false else l ++ [⟨nm, v⟩]
theorem stP_len (nm v : Str) : ∀ (l : List FF) (d : Bool), (stP nm v l d).length ≤ l.length
 | [], d => Nat.le_refl _
 | x :: r, d => by
  have h1 := stP_len nm v r d
  have h2 := stP_len nm v r true
  rw [stP]
  split
  ·split <;> simp <;> omega
  ·simp; omega
theorem stP_mem {nm v : Str} {y : FF} : ∀ {l : List FF} {d : Bool}, y ∈ stP nm v l d → y ∈ l ∨ y = ⟨nm, v⟩
 | [], d, h => by cases h
 | x :: r, d, h => by
  rw [stP] at h
  split at h
  ·split at h
   ·rcases stP_mem h with h | h
    ·exact .inl (by simp [h])
    ·exact .inr h
   ·rcases List.mem_cons.1 h with rfl | h
    ·exact .inr rfl
    ·rcases stP_mem h with h | h
     ·exact .inl (by simp [h])
     ·exact .inr h
  ·rcases List.mem_cons.1 h with rfl | h
   ·exact .inl (by simp)
   ·rcases stP_mem h with h | h
    ·exact .inl (by simp [h])
    ·exact .inr h
theorem setF_ok {k : Nat} {l : List FF} {nm v : Str} (h : HOK k l) (hn : nm.length ≤ 64) (hv : v.length ≤ 2048) : HOK (k + 1) (setF l nm v) := by
 unfold setF
 split
 ·refine ⟨?_, fun y hy => ?_⟩
  ·have := stP_len nm v l false; have := h.1; omega
  ·rcases stP_mem hy with hy | rfl
   ·exact h.2 y hy
   ·exact ⟨hn, hv⟩
 ·refine ⟨by have := h.1; simp; omega, fun y hy => ?_⟩
  rcases List.mem_append.1 hy with hy | hy
  ·exact h.2 y hy
  ·rw [List.mem_singleton] at hy; subst hy; exact ⟨hn, hv⟩
theorem stP_true (nm v : Str) : ∀ l : List FF, stP nm v l true = kpt nm l
 | [] => rfl
 | x :: r => by
  rw [stP, kpt, List.filter_cons]
  by_cases q : low x.Name = nm
  ·rw [if_pos q, if_pos rfl, stP_true nm v r, if_neg (by simp [q])]; rfl
  ·rw [if_neg q, stP_true nm v r, if_pos (by simp [q])]; rfl
theorem set_L0 {nm v : Str} : ∀ (l : List FF) (i : Nat) (y : List FF) (d : Bool), (∀ x ∈ l, x.Name.length ≤ 1000) → y.length + l.length ≤ 1000000 → Jae nm v l i y d = some (y ++ stP nm v l d, d || stD nm l)
 | [], i, y, d, _, _ => by simp [Jae, stP, stD]
 | x :: l, i, y, d, h, hy => by
  have hx := h x (by simp)
  have hl := fun z hz => h z (List.mem_cons_of_mem _ hz)
  simp only [List.length_cons] at hy
  rw [Jae, flower (by omega), Option.bind_some, stP]
  have e : stD nm (x :: l) = (decide (low x.Name = nm) || stD nm l) := rfl
  by_cases q : low x.Name = nm
  ·rw [if_neg (by simpa using q), if_pos q, e, decide_eq_true q]
   cases d with
   | true => rw [if_neg (by simp), if_pos rfl, set_L0 l (i + 1) y true hl (by omega)]; simp
   | false => rw [if_pos (by simp), if_neg (by simp), chk_bind (by simp only [lim, List.length_cons, List.length_nil]; omega), set_L0 l (i + 1) _ true hl (by simp; omega)]; simp
  ·rw [if_pos (by simpa using q), if_neg q, chk_bind (by simp only [lim, List.length_cons, List.length_nil]; omega), set_L0 l (i + 1) _ d hl (by simp; omega), e, decide_eq_false q]; simp
theorem stP_none {nm v : Str} : ∀ {l : List FF}, stD nm l = false → stP nm v l false = l
 | [], _ => rfl
 | x :: r, h => by
  have e : stD nm (x :: r) = (decide (low x.Name = nm) || stD nm r) := rfl
  rw [e] at h
  simp only [Bool.or_eq_false_iff, decide_eq_false_iff_not] at h
  rw [stP, if_neg h.1, stP_none h.2]
theorem set_eq {k : Nat} {l : List FF} {nm v : Str} (hk : k ≤ 1000) (h : HOK k l) (hn : nm.length ≤ 64) : JbG l nm v = some (setF l (low nm) v) := by
 have h1 := h.1
 unfold JbG setF
 rw [flower (by omega), Option.bind_some, chk_bind (by simp only [szMax]; omega), set_L0 l 0 [] false (fun x hx => by have := (h.2 x hx).1; omega) (by simp; omega), Option.bind_some]
 simp only [Bool.false_or, List.nil_append]
 cases q : stD (low nm) l with
 | true => rw [if_neg (by simp), if_pos rfl]
 | false => rw [if_pos (by simp), if_neg (by simp), stP_none q, chk_bind (by simp only [lim, List.length_cons, List.length_nil]; omega)]
theorem of_eq {x : RF} {nm : Str} (hx : x.Name.length ≤ 1000) (hn : nm.length ≤ 1000) : Jbi x nm = some (decide (low x.Name = low nm)) := by
 unfold Jbi
 rw [rlower (by omega), Option.bind_some, rlower (by omega), Option.bind_some]
theorem rem_L0 {nm : Str} (hn : nm.length ≤ 1000) : ∀ (l : List FF) (i : Nat) (y : List RF), (∀ x ∈ l, x.Name.length ≤ 1000) → y.length + l.length ≤ 1000000 → Jau nm (uff l) i y = some (y ++ uff (kpt (low nm) l))
 | [], i, y, _, _ => by simp [Jau, uff, kpt]
 | x :: l, i, y, h, hy => by
  have hx := h x (by simp)
  have hl := fun z hz => h z (List.mem_cons_of_mem _ hz)
  simp only [List.length_cons] at hy
  have e : uff (x :: l) = ⟨x.Name, x.Value⟩ :: uff l := rfl
  rw [e, Jau, of_eq hx hn, Option.bind_some, kpt, List.filter_cons]
  by_cases q : low x.Name = low nm
  ·rw [if_neg (by simp [q]), rem_L0 hn l (i + 1) y hl (by omega), if_neg (by simp [q])]; rfl
  ·rw [if_pos (by simp [q]), chk_bind (by simp only [lim, List.length_cons, List.length_nil]; omega), rem_L0 hn l (i + 1) _ hl (by simp; omega), if_pos (by simp [q])]
   simp [uff, kpt]
theorem rem_eq {nm : Str} (hn : nm.length ≤ 1000) {l : List FF} (h : ∀ x ∈ l, x.Name.length ≤ 1000) (hl : l.length ≤ 100000) : JbL (uff l) nm = some (uff (kpt (low nm) l)) := by
 unfold JbL
 rw [chk_bind (by rw [uff_len]; simp only [szMax]; omega), rem_L0 hn l 0 [] h (by simp; omega), Option.bind_some]; rfl
theorem add_eq {nm v : Str} (hn : nm.length ≤ 1000) {l : List RF} (hl : l.length ≤ 100000) : JbZ l nm v = some (l ++ [⟨low nm, v⟩]) := by
 unfold JbZ
 rw [chk_bind (by simp only [lim, List.length_nil]; omega), rlower (by omega), Option.bind_some, chk_bind (by simp only [lim, List.length_cons, List.length_nil, List.nil_append]; omega)]; rfl
theorem set2_L0 {nm v : Str} (hn : nm.length ≤ 1000) {L : List FF} (hL : L.length ≤ 1000) (h : ∀ x ∈ L, x.Name.length ≤ 1000) : ∀ (r p : List FF), L = p ++ r → stD (low nm) p = false →
  Jbl nm (uff L) v (uff r) p.length = some (if stD (low nm) r = true then .ret (uff (p ++ stP (low nm) v r false)) else .go ())
 | [], p, _, _ => rfl
 | x :: r, p, e, hp => by
  have hx := h x (by rw [e]; simp)
  have e1 : uff (x :: r) = ⟨x.Name, x.Value⟩ :: uff r := rfl
  have e2 : stD (low nm) (x :: r) = (decide (low x.Name = low nm) || stD (low nm) r) := rfl
  have hll : L.length = p.length + (r.length + 1) := by rw [e]; simp
  rw [e1, Jbl, of_eq hx hn, Option.bind_some, stP, e2]
  by_cases q : low x.Name = low nm
  ·have s1 : subL (uff L) (0 : Int) (p.length : Int) = uff p := by rw [e]; unfold subL uff; simp
   have s2 : subL (uff L) ((p.length : Int) + 1) ((uff L).length : Int) = uff r := by
    rw [e]; unfold subL uff
    rw [show ((p.length : Int) + 1).toNat = p.length + 1 by omega, ← List.map_drop]
    have : (p ++ x :: r).drop (p.length + 1) = r := by simp
    rw [this, List.take_of_length_le (by simp; omega)]
   rw [if_pos (by simpa using q), chk_bind (by rw [uff_len]; omega), s1, add_eq hn (by rw [uff_len]; omega), Option.bind_some, chk_bind (by rw [uff_len]; omega), s2, rem_eq hn (fun z hz => h z (by rw [e]; simp [hz])) (by omega), Option.bind_some, chk_bind]
   ·rw [if_pos (by simp [q]), if_pos q, if_neg (by simp), stP_true]
    simp [uff]
   ·have := List.length_filter_le (fun x => !decide (low x.Name = low nm)) r
    simp only [lim, List.length_append, uff_len, List.length_cons, List.length_nil, kpt]; omega
  ·rw [if_neg (by simpa using q)]
   have ih := set2_L0 (v := v) hn hL h r (p ++ [x]) (by rw [e]; simp) (by unfold stD at hp ⊢; rw [List.any_append, hp]; simp [q])
   rw [show (p ++ [x]).length = p.length + 1 by simp] at ih
   rw [ih, if_neg q, decide_eq_false q, Bool.false_or]
   simp
theorem set2_eq {k : Nat} {l : List FF} {nm v : Str} (hk : k ≤ 1000) (h : HOK k l) (hn : nm.length ≤ 64) : Jcp (uff l) nm v = some (uff (setF l (low nm) v)) := by
 have h1 := h.1
 have h2 := set2_L0 (nm := nm) (v := v) (by omega) (L := l) (by omega) (fun x hx => by have := (h.2 x hx).1; omega) l [] rfl rfl
 unfold Jcp setF
 rw [chk_bind (by rw [uff_len]; simp only [szMax]; omega), show (0 : Nat) = ([] : List FF).length from rfl, h2, Option.bind_some]
 cases q : stD (low nm) l with
 | true => rfl
 | false => rw [if_neg (by simp), if_neg (by simp), Rt.el_go, add_eq (by omega) (by rw [uff_len]; omega)]; simp [uff]
def onceF (l : List Str) (s : Str) : List Str := if s ∈ l then l else l ++ [s]
theorem onceF_len (l : List Str) (s : Str) : (onceF l s).length ≤ l.length + 1 := by unfold onceF; split <;> simp
theorem once_L0 {l : List Str} {s : Str} (hl : l.length ≤ 1000000) : ∀ (m j : Nat), l.length - j < m → j ≤ l.length → (∀ x ∈ l.take j, x ≠ s) → ∃ r, Jbd l s m (j : Int) = some r ∧ (s ∈ l → r = .ret l) ∧ (s ∉ l → ∃ z, r = .go z)
 | 0, j, h, _, _ => by omega
 | m + 1, j, h, hj, hp => by
  rw [Jbd]
  by_cases q : j < l.length
  ·have hix : ix l (j : Int) = some l[j] := by unfold ix; rw [if_pos (by omega), Int.toNat_natCast, List.getElem?_eq_getElem q]
   rw [if_pos (by simpa using q), hix, Option.bind_some]
   by_cases q2 : l[j] = s
   ·rw [if_pos (by simpa using q2)]
    exact ⟨_, rfl, fun _ => rfl, fun h => absurd (by rw [← q2]; exact List.getElem_mem q) h⟩
   ·rw [if_neg (by simpa using q2), chk_bind (by constructor <;> omega)]
    exact once_L0 hl m (j + 1) (by omega) (by omega) (fun x hx => by
     rw [List.take_add_one, List.getElem?_eq_getElem q] at hx
     rcases List.mem_append.1 hx with hx | hx
     ·exact hp x hx
     ·simp at hx; rw [hx]; exact q2)
  ·have hn : s ∉ l := fun hs => hp s (by rw [List.take_of_length_le (by omega)]; exact hs) rfl
   rw [if_neg (by simpa using q)]
   exact ⟨_, rfl, fun h => absurd h hn, fun _ => ⟨_, rfl⟩⟩
theorem once_eq {n : Nat} {l : List Str} {s : Str} (hn : 1000002 ≤ n) (hl : l.length ≤ 1000) : JbN n l s = some (onceF l s) := by
 unfold JbN onceF
 obtain ⟨r, h1, h2, h3⟩ := once_L0 (l := l) (s := s) (by omega) n 0 (by omega) (by omega) (fun x hx => by simp at hx)
 rw [show (0 : Int) = ((0 : Nat) : Int) from rfl, h1, Option.bind_some]
 by_cases q : s ∈ l
 ·rw [h2 q, if_pos q]; rfl
 ·obtain ⟨z, rfl⟩ := h3 q
  rw [if_neg q, Rt.el_go, chk_bind (by simp only [lim, List.length_nil]; omega), chk_bind (by simp only [lim, List.length_cons, List.length_nil, List.nil_append]; omega)]; rfl
end Rt.Rv
set_option linter.unusedVariables false
set_option linter.unusedSimpArgs false
open Go Go.SL Go.Proofs Pl Vary
namespace Rt.Rv
abbrev R1 := Jf
abbrev R2 := Jk
def r2 (r : R1) : R2 := ⟨r.Path, r.Query, uff r.Headers, r.Vary, r.Tags, r.TTL, r.Deny, r.Steps, r.Pass, r.Token⟩
structure ROK (k : Nat) (r : R1) : Prop where
 h : HOK k r.Headers
 v : r.Vary.length ≤ k
 t : r.Tags.length ≤ k
theorem ROK.up {k k' : Nat} {r : R1} (h : ROK k r) (hk : k ≤ k') : ROK k' r := ⟨⟨Nat.le_trans h.h.1 hk, h.h.2⟩, Nat.le_trans h.v hk, Nat.le_trans h.t hk⟩
def needP (s : Str) : Int := if s = [112, 97, 115, 115] ∨ s = [116, 111, 107, 101, 110] ∨ Rc.hp s Rc.sVary = true then 0 else if s = [116, 116, 108] ∨ s = [100, 101, 110, 121] then 2 else 1
theorem need1 (s : Str) : (((if (decide (s = ([112, 97, 115, 115] : Str)) || decide (s = ([116, 111, 107, 101, 110] : Str))) then some true else (Jy s ([118, 97, 114, 121, 58] : Str)).bind fun x17 =>
 some x17).bind fun t902 =>
 if t902 then
 some 0
 else
 if (decide (s = ([116, 116, 108] : Str)) || decide (s = ([100, 101, 110, 121] : Str))) then
 some 2
 else
 some 1 : Option (Int))) = some (needP s) := by
 unfold needP
 rw [pfx, Option.bind_some, show ([118, 97, 114, 121, 58] : Str) = Rc.sVary from rfl]
 by_cases q1 : s = [112, 97, 115, 115] ∨ s = [116, 111, 107, 101, 110]
 ·rw [if_pos (by simpa using q1), Option.bind_some, if_pos rfl, if_pos (by rcases q1 with q | q; exact .inl q; exact .inr (.inl q))]
 ·rw [if_neg (by simpa using q1), Option.bind_some]
  by_cases q2 : Rc.hp s Rc.sVary = true
  ·rw [if_pos q2, if_pos (.inr (.inr q2))]
  ·rw [if_neg q2, if_neg (show ¬ (s = [112, 97, 115, 115] ∨ s = [116, 111, 107, 101, 110] ∨ Rc.hp s Rc.sVary = true) from fun h => h.elim (fun h => q1 (.inl h)) fun h => h.elim (fun h => q1 (.inr h)) q2)]
   by_cases q3 : s = [116, 116, 108] ∨ s = [100, 101, 110, 121]
   ·rw [if_pos (by simpa using q3), if_pos q3]
   ·rw [if_neg (by simpa using q3), if_neg q3]
theorem vary5 (s : Str) : (if decide ((s.length : Int) > 5) then (chk (0 ≤ (0 : Int) ∧ (0 : Int) ≤ (5 : Int) ∧ (5 : Int) ≤ (s.length : Int))).bind fun _ =>
 some (decide ((subL s (0 : Int) (5 : Int)) = ([118, 97, 114, 121, 58] : Str))) else some false).bind (fun x24 =>
 some (x24 || decide (s = ([118, 97, 114, 121, 58] : Str)))) = some (Rc.hp s Rc.sVary) := by
 have e0 : subL s (0 : Int) (5 : Int) = s.take 5 := Rc.sub0 s 5
 have el : Rc.sVary.length = 5 := rfl
 rw [e0]
 unfold Rc.hp
 rw [el, show ([118, 97, 114, 121, 58] : Str) = Rc.sVary from rfl]
 by_cases q : 5 < s.length
 ·rw [if_pos (by simp; omega), chk_bind (by omega), Option.bind_some, decide_eq_true (show s.length ≥ 5 by omega), Bool.true_and]
  have : ¬ s = Rc.sVary := fun e => by rw [e, el] at q; omega
  rw [decide_eq_false this, Bool.or_false]
 ·rw [if_neg (by simp; omega), Option.bind_some, Bool.false_or]
  by_cases q2 : s.length = 5
  ·rw [decide_eq_true (show s.length ≥ 5 by omega), Bool.true_and, List.take_of_length_le (by omega)]
  ·have : ¬ s = Rc.sVary := fun e => q2 (by rw [e, el])
   rw [decide_eq_false this, decide_eq_false (show ¬ s.length ≥ 5 by omega), Bool.false_and]
theorem need2 (s : Str) : ((((if (decide (s = ([112, 97, 115, 115] : Str)) || decide (s = ([116, 111, 107, 101, 110] : Str))) then
 some true
 else
 (if decide ((s.length : Int) > 5) then (chk (0 ≤ (0 : Int) ∧ (0 : Int) ≤ (5 : Int) ∧ (5 : Int) ≤ (s.length : Int))).bind fun _ =>
 some (decide ((subL s (0 : Int) (5 : Int)) = ([118, 97, 114, 121, 58] : Str))) else some false).bind fun x24 =>
 some (x24 || decide (s = ([118, 97, 114, 121, 58] : Str)))) : Option (Bool)).bind fun t902 =>
 if t902 then
 some 0
 else
 if (decide (s = ([116, 116, 108] : Str)) || decide (s = ([100, 101, 110, 121] : Str))) then
 some 2
 else
 some 1 : Option (Int))) = some (needP s) := by
 rw [vary5, ← need1, pfx, Option.bind_some, show ([118, 97, 114, 121, 58] : Str) = Rc.sVary from rfl]
theorem cut_h (r : Str) : cutM ([104, 101, 97, 100, 101, 114, 58] ++ r) [58] = if ([104, 101, 97, 100, 101, 114, 58] ++ r).length < lim32 then some ([104, 101, 97, 100, 101, 114], r, true) else none := by
 unfold cutM
 congr 1
theorem cut_v (r : Str) : cutM ([118, 97, 114, 121, 58] ++ r) [58] = if ([118, 97, 114, 121, 58] ++ r).length < lim32 then some ([118, 97, 114, 121], r, true) else none := by
 unfold cutM
 congr 1
noncomputable def nmdP (r : R1) (s : Str) (x : V1) : R1 × Err :=
 if Rc.hp s Rc.sVary = true then (match nmO (s.drop 5) with
  | none => (r, some 8)
  | some m => ({ r with Vary := onceF r.Vary m }, none))
 else match nmO (s.drop 7) with
  | none => (r, some 8)
  | some m => match vlO x.s with
   | none => (r, some (vlC x.s))
   | some v => ({ r with Headers := setF r.Headers (low m) v }, none)
theorem once1 {l : List Str} {s : Str} (h : l.length ≤ 1000) (h2 : l.length + 1 ≤ lim) {γ : Type} {f : List Str → γ} : ((Jv l s).bind fun x => if (!x) = true then (chk (l.length + [s].length ≤ lim)).bind fun _ => some (f (l ++ [s])) else some (f l)) = some (f (onceF l s)) := by
 rw [Rc.cont_eq h, Option.bind_some]
 unfold onceF
 by_cases q : s ∈ l
 ·rw [if_neg (by simp [q]), if_pos q]
 ·rw [if_pos (by simp [q]), if_neg q, chk_bind (show l.length + [s].length ≤ lim from h2)]
theorem named1 {k : Nat} {r : R1} {s : Str} {x : V1} (hk : k ≤ 900) (hr : ROK k r) (hs : s.length ≤ 100000) (hx : x.s.length ≤ 100000) (hp : Rc.hp s Rc.sHeader = true ∨ Rc.hp s Rc.sVary = true) : J7 r s x = some ((nmdP r s x).2, (nmdP r s x).1) := by
 have hv := hr.v
 unfold J7 nmdP
 by_cases q : Rc.hp s Rc.sVary = true
 ·have e := Rc.hp_app q
  rw [if_pos q]
  have el : Rc.sVary.length = 5 := rfl
  rw [el] at e
  have hd : (s.drop 5).length ≤ 100000 := by rw [List.length_drop]; omega
  have hc : cutM s [58] = some ([118, 97, 114, 121], s.drop 5, true) := by
   conv => lhs; rw [e]
   rw [show Rc.sVary = [118, 97, 114, 121, 58] from rfl, cut_v, if_pos (by rw [lim32_eq]; simp only [List.length_append, List.length_cons, List.length_nil]; omega)]
  rw [hc, Option.bind_some]
  simp only
  rw [name1 (by omega), Option.bind_some]
  cases hm : nmO (s.drop 5) with
  | none => rfl
  | some m =>
   simp only [Option.isSome_some, if_true, Option.getD_some]
   rw [if_neg (by simp), if_pos (by decide)]
   exact once1 (f := fun l => ((none : Err), (⟨r.Path, r.Query, r.Headers, l, r.Tags, r.TTL, r.Deny, r.Steps, r.Pass, r.Token⟩ : R1))) (by omega) (by simp only [lim]; omega)
 ·have hh : Rc.hp s Rc.sHeader = true := hp.resolve_right q
  have e := Rc.hp_app hh
  rw [if_neg q]
  have el : Rc.sHeader.length = 7 := rfl
  rw [el] at e
  have hd : (s.drop 7).length ≤ 100000 := by rw [List.length_drop]; omega
  have hc : cutM s [58] = some ([104, 101, 97, 100, 101, 114], s.drop 7, true) := by
   conv => lhs; rw [e]
   rw [show Rc.sHeader = [104, 101, 97, 100, 101, 114, 58] from rfl, cut_h, if_pos (by rw [lim32_eq]; simp only [List.length_append, List.length_cons, List.length_nil]; omega)]
  rw [hc, Option.bind_some]
  simp only
  rw [name1 (by omega), Option.bind_some]
  cases hm : nmO (s.drop 7) with
  | none => rfl
  | some m =>
   simp only [Option.isSome_some, if_true, Option.getD_some]
   rw [if_neg (by simp), if_neg (by simp), value1 (by omega), Option.bind_some]
   cases hvl : vlO x.s with
   | none => rfl
   | some v =>
    simp only [Option.isSome_some, if_true, Option.getD_some]
    rw [if_neg (by simp), set_eq (k := k) (by omega) hr.h (nmO_len hm)]; rfl
theorem named2 {n k : Nat} {r : R1} {s : Str} {x : V1} (hn : 1000002 ≤ n) (hk : k ≤ 900) (hr : ROK k r) (hs : s.length ≤ 100000) (hx : x.s.length ≤ 100000) (hp : Rc.hp s Rc.sHeader = true ∨ Rc.hp s Rc.sVary = true) : JbV n (r2 r) s (cv2 x) = some (r2 (nmdP r s x).1, ((nmdP r s x).2).getD 0) := by
 have hv := hr.v
 have e0 : subL s (0 : Int) (5 : Int) = s.take 5 := Rc.sub0 s 5
 unfold JbV nmdP
 rw [e0]
 by_cases q : Rc.hp s Rc.sVary = true
 ·have hl : 5 ≤ s.length ∧ s.take 5 = Rc.sVary := by
   have := q; unfold Rc.hp at this
   simp only [Bool.and_eq_true, decide_eq_true_eq] at this
   exact this
  have hd : (s.drop 5).length ≤ 100000 := by rw [List.length_drop]; omega
  have es : subL s (5 : Int) (s.length : Int) = s.drop 5 := by
   unfold subL; rw [show ((5 : Int)).toNat = 5 from rfl, List.take_of_length_le (by rw [List.length_drop]; omega)]
  rw [chk_bind (by omega), if_pos q, if_neg (by rw [hl.2]; decide), Option.bind_some, chk_bind (by omega), es, name2 (by omega), Option.bind_some]
  cases hm : nmO (s.drop 5) with
  | none =>
   have := nmC_ne (s.drop 5)
   simp only [Option.isSome_none, Option.getD_none]
   rw [if_pos (by simpa using this)]; rfl
  | some m =>
   simp only [Option.isSome_some, if_true, Option.getD_some]
   rw [if_neg (by simp), if_pos (by simp), show (r2 r).Vary = r.Vary from rfl, once_eq hn (by omega)]; rfl
 ·have hh : Rc.hp s Rc.sHeader = true := hp.resolve_right q
  have hl : 7 ≤ s.length ∧ s.take 7 = Rc.sHeader := by
   have := hh; unfold Rc.hp at this
   simp only [Bool.and_eq_true, decide_eq_true_eq] at this
   exact this
  have h5 : ¬ s.take 5 = Rc.sVary := fun h => q (by unfold Rc.hp; simp only [Bool.and_eq_true, decide_eq_true_eq]; exact ⟨by show 5 ≤ s.length; omega, h⟩)
  have hd : (s.drop 7).length ≤ 100000 := by rw [List.length_drop]; omega
  have es : subL s (7 : Int) (s.length : Int) = s.drop 7 := by
   unfold subL; rw [show ((7 : Int)).toNat = 7 from rfl, List.take_of_length_le (by rw [List.length_drop]; omega)]
  rw [chk_bind (by omega), if_neg q, if_pos (by rw [decide_eq_true_eq]; exact h5), Option.bind_some, chk_bind (by omega), es, name2 (by omega), Option.bind_some]
  cases hm : nmO (s.drop 7) with
  | none =>
   have := nmC_ne (s.drop 7)
   simp only [Option.isSome_none, Option.getD_none]
   rw [if_pos (by simpa using this)]; rfl
  | some m =>
   simp only [Option.isSome_some, if_true, Option.getD_some]
   rw [if_neg (by simp), if_neg (by simp), show (cv2 x).S = x.s from rfl, value2 hn (by omega), Option.bind_some]
   cases hvl : vlO x.s with
   | none =>
    have := vlC_ne x.s
    simp only [Option.isSome_none, Option.getD_none]
    rw [if_pos (by simpa using this)]; rfl
   | some v =>
    simp only [Option.isSome_some, if_true, Option.getD_some]
    rw [if_neg (by simp), show (r2 r).Headers = uff r.Headers from rfl, set2_eq (k := k) (by omega) hr.h (nmO_len hm)]; rfl
noncomputable def actP (r : R1) (s : Str) (x : V1) : R1 × Err :=
 if x.kind ≠ needP s then (r, some 9)
 else if s = [112, 97, 116, 104] then ({ r with Path := x.s }, none)
 else if s = [113, 117, 101, 114, 121] then ({ r with Query := x.s }, none)
 else if s = [116, 97, 103] then ({ r with Tags := onceF r.Tags x.s }, none)
 else if s = [116, 116, 108] then ({ r with TTL := max 0 x.n }, none)
 else if s = [100, 101, 110, 121] then (if x.n < 400 ∨ x.n > 499 then ({ r with Deny := 403 }, none) else ({ r with Deny := x.n }, none))
 else if s = [112, 97, 115, 115] then ({ r with Pass := true }, none)
 else if s = [116, 111, 107, 101, 110] then ({ r with Token := true }, none)
 else nmdP r s x
theorem actK_cases {s : Str} {t : Int} (h : Rc.actK s = some t) : (s ∈ Rc.acts1 ∧ t = 1) ∨ (s ∈ Rc.acts0 ∧ t = 0) ∨ (Rc.hp s Rc.sHeader = true ∧ t = 1) ∨ (Rc.hp s Rc.sVary = true ∧ t = 0) := by
 unfold Rc.actK at h
 split at h
 ·rename_i q; cases h; exact .inl ⟨q, rfl⟩
 ·split at h
  ·rename_i q; cases h; exact .inr (.inl ⟨q, rfl⟩)
  ·split at h
   ·rename_i q
    split at h
    ·cases h; exact .inr (.inr (.inl ⟨q, rfl⟩))
    ·cases h
   ·split at h
    ·rename_i q; cases h
     rw [Bool.and_eq_true] at q
     exact .inr (.inr (.inr ⟨q.1, rfl⟩))
    ·cases h
theorem act_named {s : Str} {t : Int} (h : Rc.actK s = some t) (h1 : s ≠ [112, 97, 116, 104]) (h2 : s ≠ [113, 117, 101, 114, 121]) (h3 : s ≠ [116, 97, 103]) (h4 : s ≠ [116, 116, 108]) (h5 : s ≠ [100, 101, 110, 121]) (h6 : s ≠ [112, 97, 115, 115]) (h7 : s ≠ [116, 111, 107, 101, 110]) : Rc.hp s Rc.sHeader = true ∨ Rc.hp s Rc.sVary = true := by
 rcases actK_cases h with ⟨q, _⟩ | ⟨q, _⟩ | ⟨q, _⟩ | ⟨q, _⟩
 ·unfold Rc.acts1 at q; simp [h1, h2, h3, h4, h5] at q
 ·unfold Rc.acts0 at q; simp [h6, h7] at q
 ·exact .inl q
 ·exact .inr q
theorem act1 {k : Nat} {r : R1} {s : Str} {x : V1} {t : Int} (hk : k ≤ 900) (hr : ROK k r) (hs : s.length ≤ 100000) (hx : x.s.length ≤ 100000) (ha : Rc.actK s = some t) : J0 r s x = some ((actP r s x).2, (actP r s x).1) := by
 have ht := hr.t
 unfold J0 actP
 rw [need1, Option.bind_some]
 by_cases q0 : x.kind ≠ needP s
 ·rw [if_pos (by simpa using q0), if_pos q0]
 rw [if_neg (by simpa using q0), if_neg q0]
 by_cases q1 : s = [112, 97, 116, 104]
 ·rw [if_pos (by simpa using q1), if_pos q1]
 rw [if_neg (by simpa using q1), if_neg q1]
 by_cases q2 : s = [113, 117, 101, 114, 121]
 ·rw [if_pos (by simpa using q2), if_pos q2]
 rw [if_neg (by simpa using q2), if_neg q2]
 by_cases q3 : s = [116, 97, 103]
 ·rw [if_pos (by simpa using q3), if_pos q3]
  exact once1 (f := fun l => ((none : Err), (⟨r.Path, r.Query, r.Headers, r.Vary, l, r.TTL, r.Deny, r.Steps, r.Pass, r.Token⟩ : R1))) (by omega) (by simp only [lim]; omega)
 rw [if_neg (by simpa using q3), if_neg q3]
 by_cases q4 : s = [116, 116, 108]
 ·rw [if_pos (by simpa using q4), if_pos q4]
 rw [if_neg (by simpa using q4), if_neg q4]
 by_cases q5 : s = [100, 101, 110, 121]
 ·rw [if_pos (by simpa using q5), if_pos q5]
  by_cases w : x.n < 400 ∨ x.n > 499
  ·rw [if_pos (by simpa using w), if_pos w]
  ·rw [if_neg (by simpa using w), if_neg w]
 rw [if_neg (by simpa using q5), if_neg q5]
 by_cases q6 : s = [112, 97, 115, 115]
 ·rw [if_pos (by simpa using q6), if_pos q6]
 rw [if_neg (by simpa using q6), if_neg q6]
 by_cases q7 : s = [116, 111, 107, 101, 110]
 ·rw [if_pos (by simpa using q7), if_pos q7]
 rw [if_neg (by simpa using q7), if_neg q7, named1 hk hr hs hx (act_named ha q1 q2 q3 q4 q5 q6 q7)]; rfl
theorem act2 {n k : Nat} {r : R1} {s : Str} {x : V1} {t : Int} (hn : 1000002 ≤ n) (hk : k ≤ 900) (hr : ROK k r) (hs : s.length ≤ 100000) (hx : x.s.length ≤ 100000) (ha : Rc.actK s = some t) : Jcy n (r2 r) s (cv2 x) = some (r2 (actP r s x).1, ((actP r s x).2).getD 0) := by
 have ht := hr.t
 unfold Jcy actP
 rw [need2, Option.bind_some]
 by_cases q0 : x.kind ≠ needP s
 ·rw [if_pos (by rw [decide_eq_true_eq]; exact q0), if_pos q0]; rfl
 rw [if_neg (by rw [decide_eq_true_eq]; exact q0), if_neg q0]
 by_cases q1 : s = [112, 97, 116, 104]
 ·rw [if_pos (by simpa using q1), if_pos q1]; rfl
 rw [if_neg (by simpa using q1), if_neg q1]
 by_cases q2 : s = [113, 117, 101, 114, 121]
 ·rw [if_pos (by simpa using q2), if_pos q2]; rfl
 rw [if_neg (by simpa using q2), if_neg q2]
 by_cases q3 : s = [116, 97, 103]
 ·rw [if_pos (by simpa using q3), if_pos q3, show (r2 r).Tags = r.Tags from rfl, show (cv2 x).S = x.s from rfl, once_eq hn (by omega)]; rfl
 rw [if_neg (by simpa using q3), if_neg q3]
 by_cases q4 : s = [116, 116, 108]
 ·rw [if_pos (by simpa using q4), if_pos q4, show (cv2 x).N = x.n from rfl, Int.max_comm]; rfl
 rw [if_neg (by simpa using q4), if_neg q4]
 by_cases q5 : s = [100, 101, 110, 121]
 ·rw [if_pos (by simpa using q5), if_pos q5, show (cv2 x).N = x.n from rfl]
  by_cases w : x.n < 400 ∨ x.n > 499
  ·rw [if_pos (by simpa using w), if_pos w]; rfl
  ·rw [if_neg (by simpa using w), if_neg w]; rfl
 rw [if_neg (by simpa using q5), if_neg q5]
 by_cases q6 : s = [112, 97, 115, 115]
 ·rw [if_pos (by simpa using q6), if_pos q6]; rfl
 rw [if_neg (by simpa using q6), if_neg q6]
 by_cases q7 : s = [116, 111, 107, 101, 110]
 ·rw [if_pos (by simpa using q7), if_pos q7]; rfl
 rw [if_neg (by simpa using q7), if_neg q7, named2 hn hk hr hs hx (act_named ha q1 q2 q3 q4 q5 q6 q7)]; rfl
theorem nmdP_ok {k : Nat} {r : R1} {s : Str} {x : V1} (hr : ROK k r) : ROK (k + 1) (nmdP r s x).1 ∧ (nmdP r s x).2 ≠ some 0 ∧ (nmdP r s x).1.Steps = r.Steps := by
 have hu := hr.up (Nat.le_succ k)
 unfold nmdP
 split
 ·split
  ·exact ⟨hu, by simp, rfl⟩
  ·refine ⟨⟨hu.h, ?_, hu.t⟩, by simp, rfl⟩
   have := onceF_len r.Vary ‹Str›
   have := hr.v
   show (onceF _ _).length ≤ k + 1
   omega
 ·split
  ·exact ⟨hu, by simp, rfl⟩
  ·rename_i m hm
   split
   ·exact ⟨hu, by simpa using vlC_ne x.s, rfl⟩
   ·rename_i v hv
    exact ⟨⟨setF_ok hr.h (by rw [low_len]; exact nmO_len hm) (vlO_len hv), hu.v, hu.t⟩, by simp, rfl⟩
theorem actP_ok {k : Nat} {r : R1} {s : Str} {x : V1} (hr : ROK k r) : ROK (k + 1) (actP r s x).1 ∧ (actP r s x).2 ≠ some 0 ∧ (actP r s x).1.Steps = r.Steps := by
 have hu := hr.up (Nat.le_succ k)
 unfold actP
 split
 ·exact ⟨hu, by simp, rfl⟩
 split
 ·exact ⟨⟨hu.h, hu.v, hu.t⟩, by simp, rfl⟩
 split
 ·exact ⟨⟨hu.h, hu.v, hu.t⟩, by simp, rfl⟩
 split
 ·refine ⟨⟨hu.h, hu.v, ?_⟩, by simp, rfl⟩
  have := onceF_len r.Tags x.s
  have := hr.t
  show (onceF _ _).length ≤ k + 1
  omega
 split
 ·exact ⟨⟨hu.h, hu.v, hu.t⟩, by simp, rfl⟩
 split
 ·split
  ·exact ⟨⟨hu.h, hu.v, hu.t⟩, by simp, rfl⟩
  ·exact ⟨⟨hu.h, hu.v, hu.t⟩, by simp, rfl⟩
 split
 ·exact ⟨⟨hu.h, hu.v, hu.t⟩, by simp, rfl⟩
 split
 ·exact ⟨⟨hu.h, hu.v, hu.t⟩, by simp, rfl⟩
 exact nmdP_ok hr
end Rt.Rv
set_option linter.unusedVariables false
set_option linter.unusedSimpArgs false
open Go Go.SL Go.Proofs Pl Vary
namespace Rt.Rv
abbrev M1 := Jb
abbrev M2 := Jl
abbrev I := Rt.Rc.I
def z0 : V1 := ⟨0, 0, [], false⟩
noncomputable def callP (nm : Str) (x : V1) (j : In1) : V1 × Bool := (JK nm x j).getD (z0, false)
noncomputable def opP (op : Str) (a b : V1) : V1 × Bool := (Jo op a b).getD (z0, false)
noncomputable def preP (nm : Str) (j : In1) : V1 := (JR nm j).getD z0
def wS (m : M1) (s : Int) : M1 := ⟨m.inZ, m.most, ⟨m.result.Path, m.result.Query, m.result.Headers, m.result.Vary, m.result.Tags, m.result.TTL, m.result.Deny, s, m.result.Pass, m.result.Token⟩, m.stack, m.slots⟩
def wT (m : M1) (l : List V1) : M1 := ⟨m.inZ, m.most, m.result, l, m.slots⟩
def wR (m : M1) (r : R1) : M1 := ⟨m.inZ, m.most, r, m.stack, m.slots⟩
def wL (m : M1) (l : List V1) : M1 := ⟨m.inZ, m.most, m.result, m.stack, l⟩
def top (m : M1) : V1 := m.stack.getLastD z0
def pop (m : M1) : M1 := wT m m.stack.dropLast
def pushP (m : M1) (v : V1) (o : Bool) : Err × M1 :=
 if v.s.length > 2048 then (some 5, m)
 else if o = true ∧ v.kind = 1 then (if m.result.Steps + ((v.s.length / 64 : Nat) : Int) > m.most then (some 13, wS m (m.result.Steps + ((v.s.length / 64 : Nat) : Int))) else (none, wT (wS m (m.result.Steps + ((v.s.length / 64 : Nat) : Int))) (m.stack ++ [v])))
 else (none, wT m (m.stack ++ [v]))
def nxP (at' : Int) (p : Err × M1) : Int × Err × M1 := (at' + 1, p.1, p.2)
noncomputable def actS (m0 : M1) (at' : Int) (s : Str) (p : V1 × M1) : Int × Err × M1 :=
 if (actP p.2.result s p.1).2.isSome = true then (0, (actP p.2.result s p.1).2, wR p.2 (actP p.2.result s p.1).1)
 else if s = [100, 101, 110, 121] then (-1, none, wR p.2 (actP p.2.result s p.1).1)
 else (at' + 1, none, wR p.2 (actP p.2.result s p.1).1)
noncomputable def stepP (m : M1) (at' : Int) (x : I) : Int × Err × M1 :=
 if m.result.Steps + 1 > m.most then (0, some 13, wS m (m.result.Steps + 1)) else
 if x.Op = 1 then nxP at' (pushP (wS m (m.result.Steps + 1)) (nm' x.N) false) else
 if x.Op = 2 then nxP at' (pushP (wS m (m.result.Steps + 1)) (tx' x.S) false) else
 if x.Op = 3 then nxP at' (pushP (wS m (m.result.Steps + 1)) (m.slots.getD x.N.toNat z0) false) else
 if x.Op = 5 then nxP at' (pushP (wS m (m.result.Steps + 1)) (preP x.S m.inZ) false) else
 if x.Op = 4 then (at' + 1, none, wL (pop (wS m (m.result.Steps + 1))) (m.slots.set x.N.toNat (top m))) else
 if x.Op = 6 then (if (callP x.S (top m) m.inZ).2 = true then nxP at' (pushP (pop (wS m (m.result.Steps + 1))) (callP x.S (top m) m.inZ).1 true) else (0, some 9, pop (wS m (m.result.Steps + 1)))) else
 if x.Op = 7 then (if (opP x.S (top (pop m)) (top m)).2 = true then nxP at' (pushP (pop (pop (wS m (m.result.Steps + 1)))) (opP x.S (top (pop m)) (top m)).1 true) else (0, some 9, pop (pop (wS m (m.result.Steps + 1))))) else
 if x.Op = 8 then (if (top m).kind = 3 then nxP at' (pushP (pop (wS m (m.result.Steps + 1))) (tr' (!(top m).isZ)) false) else (0, some 9, pop (wS m (m.result.Steps + 1)))) else
 if x.Op = 9 then (x.N, none, wS m (m.result.Steps + 1)) else
 if x.Op = 10 then (if (top m).kind = 3 then (if (top m).isZ = true then (at' + 1, none, pop (wS m (m.result.Steps + 1))) else (x.N, none, pop (wS m (m.result.Steps + 1)))) else (0, some 9, pop (wS m (m.result.Steps + 1)))) else
 if x.Op = 11 then actS m at' x.S (if needP x.S = 0 then (z0, wS m (m.result.Steps + 1)) else (top m, pop (wS m (m.result.Steps + 1)))) else
 (-1, none, wS m (m.result.Steps + 1))
structure MOK (k : Nat) (m : M1) : Prop where
 i : ∃ i, IOK i ∧ m.inZ = inp i
 r : ROK k m.result
 st : ∀ v ∈ m.stack, VOK 2048 v
 sl : ∀ v ∈ m.slots, VOK 2048 v
 sn : m.slots.length = 512
 tn : m.stack.length ≤ k
 s0 : 0 ≤ m.result.Steps
 s1 : m.result.Steps ≤ 40 * k
 k : k ≤ 800
theorem z0_ok (m : Nat) : VOK m z0 := ⟨Nat.zero_le _, by decide, by decide⟩
theorem MOK.top {k : Nat} {m : M1} (h : MOK k m) : VOK 2048 (top m) := by
 unfold Rv.top
 cases e : m.stack with
 | nil => exact z0_ok _
 | cons a l =>
  rw [List.getLastD_cons, List.getLastD_eq_getLast?]
  cases e2 : (l.getLast?) with
  | none => exact h.st _ (by rw [e]; simp)
  | some y => exact h.st _ (by rw [e]; simp [List.mem_of_getLast? e2])
theorem MOK.top2 {k : Nat} {m : M1} (h : MOK k m) : VOK 2048 (Rv.top (pop m)) := by
 have h2 : MOK k (pop m) := ⟨h.i, h.r, fun v hv => h.st v (List.dropLast_subset _ hv), h.sl, h.sn, by have := h.tn; show (m.stack.dropLast).length ≤ k; rw [List.length_dropLast]; omega, h.s0, h.s1, h.k⟩
 exact h2.top
theorem ix_last' {α : Type} {l : List α} (d : α) (h : 1 ≤ l.length) : ix l ((l.length : Int) - 1) = some (l.getLastD d) := by
 unfold ix
 rw [if_pos (by omega), show ((l.length : Int) - 1).toNat = l.length - 1 by omega, ← List.getLast?_eq_getElem?, List.getLastD_eq_getLast?]
 cases e : l.getLast? with
 | none => rw [List.getLast?_eq_none_iff] at e; subst e; simp at h
 | some y => rfl
theorem pop_eq {m : M1} (h : 1 ≤ m.stack.length) (h2 : m.stack.length ≤ 100000) : Jq m = some (top m, pop m) := by
 unfold Jq
 rw [chk_bind (by constructor <;> omega), ix_last' z0 h, Option.bind_some, chk_bind (by constructor <;> omega), chk_bind (by omega)]
 have : subL m.stack (0 : Int) ((m.stack.length : Int) - 1) = m.stack.dropLast := by
  unfold subL
  rw [List.dropLast_eq_take]
  simp
 rw [this]; rfl
theorem push_eq {k : Nat} {m : M1} {v : V1} {o : Bool} (h0 : 0 ≤ m.result.Steps) (h1 : m.result.Steps ≤ 1000000) (h2 : m.stack.length ≤ 100000) (hv : v.s.length ≤ 100000) : Jp m v o = some (pushP m v o) := by
 unfold Jp pushP
 have et : Int.tdiv (v.s.length : Int) 64 = ((v.s.length / 64 : Nat) : Int) := by rw [Int.tdiv_eq_ediv_of_nonneg (by omega)]; omega
 rw [et]
 by_cases q : v.s.length > 2048
 ·rw [if_pos (by simp; omega), if_pos q]
 ·rw [if_neg (by simp; omega), if_neg q]
  by_cases q2 : o = true ∧ v.kind = 1
  ·rw [if_pos (by simp [q2.1, q2.2]), if_pos q2, chk_bind ⟨by decide, by omega, by omega⟩, chk_bind (by constructor <;> omega)]
   by_cases q3 : m.result.Steps + ((v.s.length / 64 : Nat) : Int) > m.most
   ·rw [if_pos (by simpa using q3), if_pos q3]; rfl
   ·rw [if_neg (by simpa using q3), if_neg q3, Option.bind_some, Rt.el_go, chk_bind (by simp only [lim, List.length_cons, List.length_nil]; omega)]; rfl
  ·rw [if_neg (by simpa using q2), if_neg q2, Option.bind_some, Rt.el_go, chk_bind (by simp only [lim, List.length_cons, List.length_nil]; omega)]; rfl
theorem call_eq {m n : Nat} {nm : Str} {x : V1} {j : In1} (hi : ∃ i, IOK i ∧ j = inp i) (hm : m ≤ 20000) (hx : VOK m x) : JK nm x j = some (callP nm x j) ∧ ((callP nm x j).2 = true → VOK 40000 (callP nm x j).1) := by
 obtain ⟨i, hi, rfl⟩ := hi
 obtain ⟨v, ok, h1, _, h3⟩ := call_sim (n := 1000002) (nm := nm) (by omega) hm hi hx
 unfold callP
 rw [h1]; exact ⟨rfl, h3⟩
theorem opr_eq' {m : Nat} {op : Str} {a b : V1} (hm : m ≤ 20000) (ha : VOK m a) (hb : VOK m b) : Jo op a b = some (opP op a b) ∧ ((opP op a b).2 = true → VOK 40000 (opP op a b).1) := by
 obtain ⟨v, ok, h1, _, h3⟩ := op_sim (n := 1000002) (op := op) (by omega) hm ha hb
 unfold opP
 rw [h1]; exact ⟨rfl, h3⟩
theorem pre_eq {nm : Str} {j : In1} (hi : ∃ i, IOK i ∧ j = inp i) : JR nm j = some (preP nm j) ∧ VOK 10000 (preP nm j) := by
 obtain ⟨i, hi, rfl⟩ := hi
 obtain ⟨v, h1, _, h3⟩ := pre_sim (nm := nm) hi
 unfold preP
 rw [h1]; exact ⟨rfl, h3⟩
theorem need_t {s : Str} {t : Int} (h : Rc.actK s = some t) : t = if needP s = 0 then 0 else 1 := by
 have hn : needP s = 0 ↔ (s = [112, 97, 115, 115] ∨ s = [116, 111, 107, 101, 110] ∨ Rc.hp s Rc.sVary = true) := by
  unfold needP
  split
  ·rename_i q; simp [q]
  ·rename_i q; split <;> simp [q]
 rcases actK_cases h with ⟨q, rfl⟩ | ⟨q, rfl⟩ | ⟨q, rfl⟩ | ⟨q, rfl⟩
 ·unfold Rc.acts1 at q
  rw [if_neg]
  rw [hn]
  simp only [List.mem_cons, List.not_mem_nil, or_false] at q
  rcases q with rfl | rfl | rfl | rfl | rfl <;> decide
 ·unfold Rc.acts0 at q
  simp only [List.mem_cons, List.not_mem_nil, or_false] at q
  rw [if_pos (hn.2 (by rcases q with q | q; exact .inl q; exact .inr (.inl q)))]
 ·rw [if_neg]
  rw [hn]
  rintro (rfl | rfl | e)
  ·exact absurd q (by decide)
  ·exact absurd q (by decide)
  ·have := Rc.hdvary s e; rw [q] at this; cases this
 ·rw [if_pos (hn.2 (.inr (.inr q)))]
theorem need3 (s : Str) : (if (decide (s ≠ ([112, 97, 115, 115] : Str)) && decide (s ≠ ([116, 111, 107, 101, 110] : Str))) then (Jy s ([118, 97, 114, 121, 58] : Str)).bind fun x179 =>
 some (!x179) else some false) = some (decide (needP s ≠ 0)) := by
 rw [pfx, Option.bind_some, show ([118, 97, 114, 121, 58] : Str) = Rc.sVary from rfl]
 unfold needP
 by_cases q1 : s = [112, 97, 115, 115] ∨ s = [116, 111, 107, 101, 110]
 ·rw [if_neg (by rcases q1 with q | q <;> simp [q]), if_pos (by rcases q1 with q | q; exact .inl q; exact .inr (.inl q))]; rfl
 ·have q2 : ¬ s = [112, 97, 115, 115] := fun e => q1 (.inl e)
  have q3 : ¬ s = [116, 111, 107, 101, 110] := fun e => q1 (.inr e)
  rw [if_pos (by simp [q2, q3])]
  cases q : Rc.hp s Rc.sVary with
  | true => rw [if_pos (.inr (.inr rfl))]; rfl
  | false =>
   rw [if_neg (by simp [q2, q3])]
   split <;> rfl
theorem step1 {k : Nat} {m : M1} {x : I} {t l at' : Int} (h : MOK k m) (hx : x.S.length ≤ 100000) (he : Rc.eff x = some (t, l)) (ht : t ≤ m.stack.length) (ha0 : 0 ≤ at') (ha1 : at' ≤ 100000) :
  Jai m at' x = some (stepP m at' x) := by
 have hs0 := h.s0
 have hs1 := h.s1
 have hk := h.k
 have hn := h.tn
 have hsn := h.sn
 unfold Jai stepP
 rw [chk_bind (by constructor <;> omega)]
 by_cases q0 : m.result.Steps + 1 > m.most
 ·rw [if_pos (by simpa using q0), if_pos q0]; rfl
 rw [if_neg (by simpa using q0), if_neg q0, chk_bind (by constructor <;> omega)]
 have hw : (wS m (m.result.Steps + 1)).result.Steps = m.result.Steps + 1 := rfl
 have hpm : Jq (wS m (m.result.Steps + 1)) = if 1 ≤ m.stack.length then some (top m, pop (wS m (m.result.Steps + 1))) else Jq (wS m (m.result.Steps + 1)) := by
  split
  ·rename_i w; exact pop_eq (m := wS m (m.result.Steps + 1)) w (by show m.stack.length ≤ 100000; omega)
  ·rfl
 have hpu : ∀ (v : V1) (o : Bool), v.s.length ≤ 100000 → Jp (wS m (m.result.Steps + 1)) v o = some (pushP (wS m (m.result.Steps + 1)) v o) := fun v o hv =>
  push_eq (k := k) (by rw [hw]; omega) (by rw [hw]; omega) (by show m.stack.length ≤ 100000; omega) hv
 have hpu1 : ∀ (v : V1) (o : Bool), v.s.length ≤ 100000 → Jp (pop (wS m (m.result.Steps + 1))) v o = some (pushP (pop (wS m (m.result.Steps + 1))) v o) := fun v o hv =>
  push_eq (k := k) (by show 0 ≤ m.result.Steps + 1; omega) (by show m.result.Steps + 1 ≤ _; omega) (by show (m.stack.dropLast).length ≤ 100000; rw [List.length_dropLast]; omega) hv
 have eta : ∀ p : Err × M1, p.2.inZ = m.inZ → ((some ((at' + 1), p.1, (⟨m.inZ, p.2.most, p.2.result, p.2.stack, p.2.slots⟩ : M1))) : Option (Int × Err × M1)) = some (nxP at' p) := fun p hp => by
  unfold nxP; rw [← hp]
 have hpi : ∀ (M : M1) (v : V1) (o : Bool), (pushP M v o).2.inZ = M.inZ := fun M v o => by
  unfold pushP
  split
  ·rfl
  ·split
   ·split <;> rfl
   ·rfl
 by_cases q1 : x.Op = 1
 ·rw [if_pos (by simpa using q1), if_pos q1, num1, Option.bind_some]
  refine (congrArg (fun o => Option.bind o _) (hpu _ _ (by simp [nm']))).trans ?_
  rw [Option.bind_some]
  exact eta _ (hpi _ _ _)
 rw [if_neg (by simpa using q1), if_neg q1]
 by_cases q2 : x.Op = 2
 ·rw [if_pos (by simpa using q2), if_pos q2, text1, Option.bind_some]
  refine (congrArg (fun o => Option.bind o _) (hpu _ _ (by simpa [tx'] using hx))).trans ?_
  rw [Option.bind_some]
  exact eta _ (hpi _ _ _)
 rw [if_neg (by simpa using q2), if_neg q2]
 by_cases q3 : x.Op = 3
 ·have hb := (Rc.eff_bd he).2.2.2.2.2 (.inl q3)
  have hix : ix m.slots x.N = some (m.slots.getD x.N.toNat z0) := by
   unfold ix
   rw [if_pos hb.1, List.getElem?_eq_getElem (by omega), List.getD_eq_getElem?_getD, List.getElem?_eq_getElem (by omega)]; rfl
  have hvl : VOK 2048 (m.slots.getD x.N.toNat z0) := by
   rw [List.getD_eq_getElem?_getD, List.getElem?_eq_getElem (by omega)]; exact h.sl _ (List.getElem_mem _)
  rw [if_pos (by simpa using q3), if_pos q3, hix, Option.bind_some]
  refine (congrArg (fun o => Option.bind o _) (hpu _ _ (by have := hvl.1; omega))).trans ?_
  rw [Option.bind_some]
  exact eta _ (hpi _ _ _)
 rw [if_neg (by simpa using q3), if_neg q3]
 by_cases q5 : x.Op = 5
 ·obtain ⟨hp1, hp2⟩ := pre_eq (nm := x.S) h.i
  rw [if_pos (by simpa using q5), if_pos q5, hp1, Option.bind_some]
  refine (congrArg (fun o => Option.bind o _) (hpu _ _ (by have := hp2.1; omega))).trans ?_
  rw [Option.bind_some]
  exact eta _ (hpi _ _ _)
 rw [if_neg (by simpa using q5), if_neg q5]
 by_cases q4 : x.Op = 4
 ·have hb := (Rc.eff_bd he).2.2.2.2.2 (.inr q4)
  have htt : 1 ≤ m.stack.length := by
   have e := he
   unfold Rc.eff at e
   rw [if_neg q1, if_neg q2, if_neg q3, if_pos q4] at e
   split at e
   ·cases e; omega
   ·cases e
  rw [if_pos htt] at hpm
  rw [if_pos (by simpa using q4), if_pos q4]
  refine (congrArg (fun o => Option.bind o _) hpm).trans ?_
  rw [Option.bind_some]
  have hix : ∃ y, ix m.slots x.N = some y := ix_ok hb.1 (by omega)
  obtain ⟨y, hy⟩ := hix
  refine (congrArg (fun o => Option.bind o _) hy).trans ?_
  rfl
 rw [if_neg (by simpa using q4), if_neg q4]
 by_cases q6 : x.Op = 6
 ·have htt : 1 ≤ m.stack.length := by
   have e := he
   unfold Rc.eff at e
   rw [if_neg q1, if_neg q2, if_neg q3, if_neg q4, if_neg q5, if_pos q6] at e
   split at e
   ·cases e; omega
   ·cases e
  rw [if_pos htt] at hpm
  obtain ⟨hc1, hc2⟩ := call_eq (n := 0) (nm := x.S) h.i (by omega) h.top
  rw [if_pos (by simpa using q6), if_pos q6]
  refine (congrArg (fun o => Option.bind o _) hpm).trans ?_
  rw [Option.bind_some]
  refine (congrArg (fun o => Option.bind o _) hc1).trans ?_
  rw [Option.bind_some]
  cases hb : (callP x.S (top m) m.inZ).2 with
  | false => rw [if_pos (by simp), if_neg (by simp)]; rfl
  | true =>
   rw [if_neg (by simp), if_pos rfl]
   refine (congrArg (fun o => Option.bind o _) (hpu1 _ _ (by have := (hc2 hb).1; omega))).trans ?_
   rw [Option.bind_some]
   exact eta _ (hpi _ _ _)
 rw [if_neg (by simpa using q6), if_neg q6]
 by_cases q7 : x.Op = 7
 ·have htt : 2 ≤ m.stack.length := by
   have e := he
   unfold Rc.eff at e
   rw [if_neg q1, if_neg q2, if_neg q3, if_neg q4, if_neg q5, if_neg q6, if_pos q7] at e
   split at e
   ·cases e; omega
   ·cases e
  rw [if_pos (by omega)] at hpm
  have hpm2 : Jq (pop (wS m (m.result.Steps + 1))) = some (top (pop m), pop (pop (wS m (m.result.Steps + 1)))) :=
   pop_eq (m := pop (wS m (m.result.Steps + 1))) (by show 1 ≤ (m.stack.dropLast).length; rw [List.length_dropLast]; omega) (by show (m.stack.dropLast).length ≤ 100000; rw [List.length_dropLast]; omega)
  obtain ⟨hc1, hc2⟩ := opr_eq' (op := x.S) (by omega) h.top2 h.top
  rw [if_pos (by simpa using q7), if_pos q7]
  refine (congrArg (fun o => Option.bind o _) hpm).trans ?_
  rw [Option.bind_some]
  refine (congrArg (fun o => Option.bind o _) hpm2).trans ?_
  rw [Option.bind_some]
  refine (congrArg (fun o => Option.bind o _) hc1).trans ?_
  rw [Option.bind_some]
  cases hb : (opP x.S (top (pop m)) (top m)).2 with
  | false => rw [if_pos (by simp), if_neg (by simp)]; rfl
  | true =>
   rw [if_neg (by simp), if_pos rfl]
   have hpu2 : Jp (pop (pop (wS m (m.result.Steps + 1)))) (opP x.S (top (pop m)) (top m)).1 true = some (pushP (pop (pop (wS m (m.result.Steps + 1)))) (opP x.S (top (pop m)) (top m)).1 true) :=
    push_eq (k := k) (by show 0 ≤ m.result.Steps + 1; omega) (by show m.result.Steps + 1 ≤ _; omega) (by show (m.stack.dropLast.dropLast).length ≤ 100000; rw [List.length_dropLast, List.length_dropLast]; omega) (by have := (hc2 hb).1; omega)
   refine (congrArg (fun o => Option.bind o _) hpu2).trans ?_
   rw [Option.bind_some]
   exact eta _ (hpi _ _ _)
 rw [if_neg (by simpa using q7), if_neg q7]
 by_cases q8 : x.Op = 8
 ·have htt : 1 ≤ m.stack.length := by
   have e := he
   unfold Rc.eff at e
   rw [if_neg q1, if_neg q2, if_neg q3, if_neg q4, if_neg q5, if_neg q6, if_neg q7, if_pos q8] at e
   split at e
   ·cases e; omega
   ·cases e
  rw [if_pos htt] at hpm
  rw [if_pos (by simpa using q8), if_pos q8]
  refine (congrArg (fun o => Option.bind o _) hpm).trans ?_
  rw [Option.bind_some]
  by_cases hb : (top m).kind = 3
  ·rw [if_neg (by simpa using hb), if_pos hb, truth1, Option.bind_some]
   refine (congrArg (fun o => Option.bind o _) (hpu1 _ _ (by simp [tr']))).trans ?_
   rw [Option.bind_some]
   exact eta _ (hpi _ _ _)
  ·rw [if_pos (by simpa using hb), if_neg hb]; rfl
 rw [if_neg (by simpa using q8), if_neg q8]
 by_cases q9 : x.Op = 9
 ·rw [if_pos (by simpa using q9), if_pos q9]; rfl
 rw [if_neg (by simpa using q9), if_neg q9]
 by_cases q10 : x.Op = 10
 ·have htt : 1 ≤ m.stack.length := by
   have e := he
   unfold Rc.eff at e
   rw [if_neg q1, if_neg q2, if_neg q3, if_neg q4, if_neg q5, if_neg q6, if_neg q7, if_neg q8, if_neg q9, if_pos q10] at e
   split at e
   ·cases e; omega
   ·cases e
  rw [if_pos htt] at hpm
  rw [if_pos (by simpa using q10), if_pos q10]
  refine (congrArg (fun o => Option.bind o _) hpm).trans ?_
  rw [Option.bind_some]
  by_cases hb : (top m).kind = 3
  ·rw [if_neg (by simpa using hb), if_pos hb]
   cases hz : (top m).isZ with
   | true => rw [if_neg (by simp), if_pos rfl]; rfl
   | false => rw [if_pos (by simp), if_neg (by simp)]; rfl
  ·rw [if_pos (by simpa using hb), if_neg hb]; rfl
 rw [if_neg (by simpa using q10), if_neg q10]
 by_cases q11 : x.Op = 11
 ·rw [if_pos (by simpa using q11), if_pos q11, need3, Option.bind_some]
  have hK : Rc.actK x.S = some t := by
   have e := he
   unfold Rc.eff at e
   rw [if_neg q1, if_neg q2, if_neg q3, if_neg q4, if_neg q5, if_neg q6, if_neg q7, if_neg q8, if_neg q9, if_neg q10, if_pos q11] at e
   split at e
   ·obtain ⟨y, hy, e2⟩ := Option.map_eq_some_iff.1 e
    cases e2; exact hy
   ·cases e
  have htn := need_t hK
  have fin : ∀ p : V1 × M1, p.2.inZ = m.inZ → p.2.result = (wS m (m.result.Steps + 1)).result → p.1.s.length ≤ 100000 →
    ((J0 p.2.result x.S p.1).bind fun x190 =>
     if x190.1.isSome then
     some (0, x190.1, (⟨m.inZ, p.2.most, x190.2, p.2.stack, p.2.slots⟩ : M1))
     else
     if decide (x.S = ([100, 101, 110, 121] : Str)) then
     some ((-1), none, (⟨m.inZ, p.2.most, x190.2, p.2.stack, p.2.slots⟩ : M1))
     else
     some ((at' + 1), none, (⟨m.inZ, p.2.most, x190.2, p.2.stack, p.2.slots⟩ : M1))) = some (actS m at' x.S p) := by
   intro p h1 h2 h3
   have hr : ROK k p.2.result := by rw [h2]; exact ⟨h.r.h, h.r.v, h.r.t⟩
   rw [act1 (k := k) (by omega) hr hx h3 hK, Option.bind_some]
   unfold actS
   cases hA : (actP p.2.result x.S p.1).2 with
   | some c => rw [if_pos (by simp), if_pos (by simp)]; unfold wR; rw [h1]
   | none =>
    simp only [Option.isSome_none, Bool.false_eq_true, if_false]
    unfold wR
    rw [h1]
    by_cases qd : x.S = [100, 101, 110, 121]
    ·rw [if_pos (by simpa using qd), if_pos qd]
    ·rw [if_neg (by simpa using qd), if_neg qd]
  by_cases qn : needP x.S = 0
  ·rw [if_neg (by simpa using qn), if_pos qn, Option.bind_some]
   exact fin (z0, wS m (m.result.Steps + 1)) rfl rfl (by simp [z0])
  ·rw [if_neg qn] at htn
   rw [if_pos (show 1 ≤ m.stack.length by omega)] at hpm
   rw [if_pos (by simpa using qn), if_neg qn]
   have := h.top
   have e : ((Jq (wS m (m.result.Steps + 1))).bind fun x183 =>
    some (x183.1.kind, x183.1.n, x183.1.s, x183.1.isZ, (⟨m.inZ, x183.2.most, x183.2.result, x183.2.stack, x183.2.slots⟩ : Jb))) = some ((top m).kind, (top m).n, (top m).s, (top m).isZ, pop (wS m (m.result.Steps + 1))) := by
    rw [hpm]; rfl
   refine (congrArg (fun o => Option.bind o _) e).trans ?_
   rw [Option.bind_some]
   exact fin (top m, pop (wS m (m.result.Steps + 1))) rfl rfl (by have := this.1; show (top m).s.length ≤ 100000; omega)
 rw [if_neg (by simpa using q11), if_neg q11]
 have q12 : x.Op = 12 := by
  have e := he
  unfold Rc.eff at e
  rw [if_neg q1, if_neg q2, if_neg q3, if_neg q4, if_neg q5, if_neg q6, if_neg q7, if_neg q8, if_neg q9, if_neg q10, if_neg q11] at e
  by_cases w : x.Op = 12
  ·exact w
  ·rw [if_neg w] at e; cases e
 rw [if_pos (by simpa using q12)]; rfl
end Rt.Rv
set_option linter.unusedVariables false
set_option linter.unusedSimpArgs false
open Go Go.SL Go.Proofs Pl Vary
namespace Rt.Rv
abbrev w2 (m : M1) (at' : Int) : M2 := ⟨m.stack.map cv2, m.slots.map cv2, at', r2 m.result, false, 0⟩
def Beh (p : Int × Err × M1) (w : M2) : Prop := match p.2.1 with
 | some c => w.code = c ∧ c ≠ 0
 | none => w.code = 0 ∧ ((p.1 = -1 ∧ w.done = true ∧ w.r = r2 p.2.2.result) ∨ (p.1 ≠ -1 ∧ w = w2 p.2.2 p.1))
theorem map_last {l : List V1} : (l.map cv2).getLastD (cv2 z0) = cv2 (l.getLastD z0) := by
 rw [List.getLastD_eq_getLast?, List.getLastD_eq_getLast?, List.getLast?_map]
 cases l.getLast? <;> rfl
theorem leave_eq {m : M1} {x : I} {v : V1} {at' : Int} {o : Bool} (ha : at' ≠ -1) (ho : v.kind = 1 → o = (decide (x.Op = 7) || decide (x.Op = 6))) (h0 : 0 ≤ m.result.Steps) (h1 : m.result.Steps ≤ 1000000) (h2 : m.stack.length ≤ 100000) (hv : v.s.length ≤ 100000) :
  ∃ w, Jaz (w2 m at') (Rc.cv x) (cv2 v) m.most = some w ∧ Beh (at', (pushP m v o).1, (pushP m v o).2) w := by
 have et : Int.tdiv (v.s.length : Int) 64 = ((v.s.length / 64 : Nat) : Int) := by rw [Int.tdiv_eq_ediv_of_nonneg (by omega)]; omega
 have es : (cv2 v).S = v.s := rfl
 have eS : (w2 m at').r.Steps = m.result.Steps := rfl
 have eT : (w2 m at').stack = m.stack.map cv2 := rfl
 unfold Jaz pushP
 rw [es, eS, et, eT]
 by_cases q : v.s.length > 2048
 ·rw [if_pos (by simp; omega), if_pos q]
  exact ⟨_, rfl, rfl, by decide⟩
 ·rw [if_neg (by simp; omega), if_neg q]
  have hw : JbT (Rc.cv x) (cv2 v) = some (decide (o = true ∧ v.kind = 1)) := by
   unfold JbT
   by_cases k : v.kind = 1
   ·have e : decide (o = true ∧ v.kind = 1) = o := by simp [k]
    rw [if_pos (by rw [decide_eq_true_eq]; exact k), e, ho k]; rfl
   ·rw [if_neg (by rw [decide_eq_true_eq]; exact k)]; simp [k]
  rw [hw, Option.bind_some]
  by_cases q2 : o = true ∧ v.kind = 1
  ·rw [if_pos (by simpa using q2), if_pos q2, chk_bind ⟨by decide, by omega, by omega⟩, chk_bind (by constructor <;> omega)]
   by_cases q3 : m.result.Steps + ((v.s.length / 64 : Nat) : Int) > m.most
   ·rw [if_pos (by simpa using q3), if_pos q3]
    exact ⟨_, rfl, rfl, by decide⟩
   ·rw [if_neg (by simpa using q3), if_neg q3, chk_bind (by simp only [List.length_map, lim]; omega), chk_bind (by simp only [List.length_map, lim, List.length_cons, List.length_nil]; omega)]
    refine ⟨_, rfl, rfl, .inr ⟨ha, ?_⟩⟩
    unfold w2 wT wS r2
    simp
  ·rw [if_neg (by simpa using q2), if_neg q2, chk_bind (by simp only [List.length_map, lim]; omega), chk_bind (by simp only [List.length_map, lim, List.length_cons, List.length_nil]; omega)]
   refine ⟨_, rfl, rfl, .inr ⟨ha, ?_⟩⟩
   unfold w2 wT
   simp
theorem call_eq2 {m n : Nat} {nm : Str} {x : V1} {i : In2} (hn : 1000002 ≤ n) (hi : IOK i) (hm : m ≤ 20000) (hx : VOK m x) : ∃ w, JV n nm (cv2 x) i = some (w, (callP nm x (inp i)).2) ∧ ((callP nm x (inp i)).2 = true → w = cv2 (callP nm x (inp i)).1) := by
 obtain ⟨v, ok, h1, h2, _⟩ := call_sim (n := n) (nm := nm) hn hm hi hx
 unfold callP
 rw [h1]; exact h2
theorem opr_eq2 {m n : Nat} {op : Str} {a b : V1} (hn : 1000002 ≤ n) (hm : m ≤ 20000) (ha : VOK m a) (hb : VOK m b) : ∃ w, Js n op (cv2 a) (cv2 b) = some (w, (opP op a b).2) ∧ ((opP op a b).2 = true → w = cv2 (opP op a b).1) := by
 obtain ⟨v, ok, h1, h2, _⟩ := op_sim (n := n) (op := op) hn hm ha hb
 unfold opP
 rw [h1]; exact h2
theorem pre_eq2 {nm : Str} {i : In2} (hi : IOK i) : Jbw nm i = some (cv2 (preP nm (inp i))) := by
 obtain ⟨v, h1, h2, _⟩ := pre_sim (nm := nm) hi
 unfold preP
 rw [h1]; exact h2
theorem take_pop {l : List V1} (h : 1 ≤ l.length) : subL (l.map cv2) (0 : Int) (((l.map cv2).length : Int) - 1) = l.dropLast.map cv2 := by
 unfold subL
 rw [List.dropLast_eq_take, List.map_take]
 simp
theorem take_pop2 {l : List V1} (h : 2 ≤ l.length) : subL (l.map cv2) (0 : Int) (((l.map cv2).length : Int) - 2) = l.dropLast.dropLast.map cv2 := by
 unfold subL
 rw [List.dropLast_eq_take, List.dropLast_eq_take, List.map_take, List.map_take, List.take_take]
 simp
 congr 1; omega
theorem ix_pop2 {l : List V1} (h : 2 ≤ l.length) : ix (l.map cv2) (((l.map cv2).length : Int) - 2) = some (cv2 (l.dropLast.getLastD z0)) := by
 have h2 : 1 ≤ l.dropLast.length := by rw [List.length_dropLast]; omega
 have e := ix_last' (l := l.dropLast) z0 h2
 unfold ix at e ⊢
 rw [List.length_dropLast] at e
 rw [List.length_map]
 rw [if_pos (by omega)] at e
 rw [if_pos (by omega), List.getElem?_map]
 have e3 : ((l.length : Int) - 2).toNat = (((l.length - 1 : Nat) : Int) - 1).toNat := by omega
 have e4 : l[((l.length : Int) - 2).toNat]? = l.dropLast[((l.length : Int) - 2).toNat]? := by
  rw [List.dropLast_eq_take, List.getElem?_take_of_lt (by omega)]
 rw [e4, e3, e]; rfl
theorem ret_step {T : Type} {A : Option (Fl M2 T)} {F : T → Option M2} {w : M2} (h : A = some (Fl.ret w)) : (A.bind fun s => s.el some F) = some w := by rw [h]; rfl
theorem go_step {T : Type} {A : Option (Fl M2 T)} {F : T → Option M2} {t : T} {r : Option M2} (h : A = some (Fl.go t)) (h2 : F t = r) : (A.bind fun s => s.el some F) = r := by rw [h]; exact h2
theorem bret {α : Type} {o : Option α} {T : Type} {w : α} (h : o = some w) : (o.bind fun x => some (Fl.ret x : Fl α T)) = some (Fl.ret w) := by rw [h]; rfl
theorem actS_done {m0 : M1} {at' : Int} {s : Str} {p : V1 × M1} (ha : at' + 1 ≠ -1) {st sl : List V2} {w : M2} (hne : (actP p.2.result s p.1).2 ≠ some 0)
  (hw : w = ⟨p.2.stack.map cv2, p.2.slots.map cv2, at' + 1, r2 (actP p.2.result s p.1).1, decide (s = [100, 101, 110, 121]), ((actP p.2.result s p.1).2).getD 0⟩) : Beh (actS m0 at' s p) w := by
 subst hw
 unfold actS
 cases e : (actP p.2.result s p.1).2 with
 | some c =>
  rw [if_pos (by simp)]
  exact ⟨rfl, fun h => hne (by rw [e, h])⟩
 | none =>
  rw [if_neg (by simp)]
  by_cases q : s = [100, 101, 110, 121]
  ·rw [if_pos q]
   exact ⟨rfl, .inl ⟨rfl, by simp [q], rfl⟩⟩
  ·rw [if_neg q]
   refine ⟨rfl, .inr ⟨ha, ?_⟩⟩
   simp [w2, q, wR]
theorem step2 {n k : Nat} {m : M1} {x : I} {i : In2} {t l at' : Int} (hn : 1000002 ≤ n) (h : MOK k m) (hi : IOK i) (hin : m.inZ = inp i) (hx : x.S.length ≤ 100000) (he : Rc.eff x = some (t, l)) (ht : t ≤ m.stack.length) (ha0 : 0 ≤ at') (ha1 : at' ≤ 100000) (hxn : Rc.isJ x = true → 0 ≤ x.N) :
  ∃ w, Jbv n (w2 m at') (Rc.cv x) i m.most = some w ∧ Beh (stepP m at' x) w := by
 have cN : ∀ {j : Int}, ¬ x.Op = j → ¬ decide ((Rc.cv x).Op = j) = true := fun h => by rw [decide_eq_true_eq]; exact h
 have cP : ∀ {j : Int}, x.Op = j → decide ((Rc.cv x).Op = j) = true := fun h => by rw [decide_eq_true_eq]; exact h
 have hs0 := h.s0
 have hs1 := h.s1
 have hk := h.k
 have hnn := h.tn
 have hsn := h.sn
 have htb := Rc.eff_bd he
 have heff : Ja8 (Rc.cv x) = some (t, l, true) := by
  obtain ⟨t', l', e1, e2⟩ := Rc.effect_pure hx
  obtain ⟨rfl, rfl⟩ := e2 t l he
  rw [he] at e1
  exact e1
 have h902 : ((if decide (t > 0) then
   (chk (InI (((m.stack.map cv2).length : Int) - 1))).bind fun _ =>
   (ix (m.stack.map cv2) (((m.stack.map cv2).length : Int) - 1)).bind fun x51 =>
   some (x51.TypeZ, x51.N, x51.S, x51.Is)
   else
   some (0, 0, ([] : Str), false) : Option (Int × Int × Str × Bool))) = some ((if t > 0 then top m else z0).kind, (if t > 0 then top m else z0).n, (if t > 0 then top m else z0).s, (if t > 0 then top m else z0).isZ) := by
  by_cases q : t > 0
  ·rw [if_pos (by simpa using q), if_pos q, chk_bind (by rw [List.length_map]; constructor <;> omega), ix_last' (cv2 z0) (by rw [List.length_map]; omega), map_last]; rfl
  ·rw [if_neg (by simpa using q), if_neg q]; rfl
 have h904 : ((if decide (t > 1) then
   (ix (m.stack.map cv2) (((m.stack.map cv2).length : Int) - t)).bind fun x58 =>
   some (x58.TypeZ, x58.N, x58.S, x58.Is)
   else
   some (0, 0, ([] : Str), false) : Option (Int × Int × Str × Bool))) = some ((if t > 1 then top (pop m) else z0).kind, (if t > 1 then top (pop m) else z0).n, (if t > 1 then top (pop m) else z0).s, (if t > 1 then top (pop m) else z0).isZ) := by
  by_cases q : t > 1
  ·have : t = 2 := by omega
   rw [if_pos (by simpa using q), if_pos q, this, ix_pop2 (by omega)]; rfl
  ·rw [if_neg (by simpa using q), if_neg q]; rfl
 have hst : subL (m.stack.map cv2) (0 : Int) (((m.stack.map cv2).length : Int) - t) = (if t = 0 then m.stack else if t = 1 then m.stack.dropLast else m.stack.dropLast.dropLast).map cv2 := by
  by_cases q : t = 0
  ·rw [if_pos q, q]; unfold subL; simp; rw [List.take_of_length_le (by simp)]
  ·by_cases q1 : t = 1
   ·rw [if_neg q, if_pos q1, q1, take_pop (by omega)]
   ·have : t = 2 := by omega
    rw [if_neg q, if_neg q1, this, take_pop2 (by omega)]
 obtain ⟨o, ho⟩ : ∃ o, Jbv n (w2 m at') (Rc.cv x) i m.most = o := ⟨_, rfl⟩
 obtain ⟨p, hp⟩ : ∃ p, stepP m at' x = p := ⟨_, rfl⟩
 rw [ho, hp]
 unfold Jbv at ho
 unfold stepP at hp
 dsimp only [w2] at ho
 rw [chk_bind (by show InI (m.result.Steps + 1); constructor <;> omega)] at ho
 by_cases q0 : m.result.Steps + 1 > m.most
 ·rw [if_pos (by rw [decide_eq_true_eq]; exact q0)] at ho
  rw [if_pos q0] at hp
  subst ho hp
  exact ⟨_, rfl, rfl, by decide⟩
 rw [if_neg (by rw [decide_eq_true_eq]; exact q0), heff, Option.bind_some] at ho
 rw [if_neg q0] at hp
 dsimp only at ho
 rw [chk_bind (by rw [List.length_map]; constructor <;> omega), h902, Option.bind_some, h904, Option.bind_some, chk_bind (by rw [List.length_map]; omega), chk_bind (by constructor <;> omega), hst] at ho
 subst ho hp
 have hw : (wS m (m.result.Steps + 1)).result.Steps = m.result.Steps + 1 := rfl
 have hz : at' + 1 ≠ -1 := by omega
 have L0 : ∀ (v : V1), v.s.length ≤ 100000 → x.Op ≠ 7 → x.Op ≠ 6 → ∃ w, Jaz (w2 (wS m (m.result.Steps + 1)) (at' + 1)) (Rc.cv x) (cv2 v) m.most = some w ∧ Beh (nxP at' (pushP (wS m (m.result.Steps + 1)) v false)) w := fun v hv n7 n6 =>
  leave_eq (m := wS m (m.result.Steps + 1)) hz (fun _ => by simp [n7, n6]) (by rw [hw]; omega) (by rw [hw]; omega) (by show m.stack.length ≤ 100000; omega) hv
 have L1 : ∀ (v : V1) (o : Bool), v.s.length ≤ 100000 → (v.kind = 1 → o = (decide (x.Op = 7) || decide (x.Op = 6))) → ∃ w, Jaz (w2 (pop (wS m (m.result.Steps + 1))) (at' + 1)) (Rc.cv x) (cv2 v) m.most = some w ∧ Beh (nxP at' (pushP (pop (wS m (m.result.Steps + 1))) v o)) w := fun v o hv ho =>
  leave_eq (m := pop (wS m (m.result.Steps + 1))) hz ho (by show 0 ≤ m.result.Steps + 1; omega) (by show m.result.Steps + 1 ≤ _; omega) (by show (m.stack.dropLast).length ≤ 100000; rw [List.length_dropLast]; omega) hv
 by_cases q1 : x.Op = 1
 ·have et : t = 0 := by
   have e := he
   unfold Rc.eff at e
   rw [if_pos q1] at e
   split at e
   ·cases e; rfl
   ·cases e
  subst et
  obtain ⟨w, hl, hb⟩ := L0 (nm' x.N) (by simp [nm']) (by omega) (by omega)
  refine ⟨w, ret_step ?_, ?_⟩
  ·rw [if_pos (cP q1)]
   exact bret hl
  ·rw [if_pos q1]; exact hb
 rw [if_neg q1]
 by_cases q2 : x.Op = 2
 ·have et : t = 0 := by
   have e := he
   unfold Rc.eff at e
   rw [if_neg q1, if_pos q2] at e
   split at e
   ·cases e; rfl
   ·cases e
  subst et
  obtain ⟨w, hl, hb⟩ := L0 (tx' x.S) (by simpa [tx'] using hx) (by omega) (by omega)
  refine ⟨w, ret_step ?_, ?_⟩
  ·rw [if_neg (cN q1), if_pos (cP q2)]
   exact bret hl
  ·rw [if_pos q2]; exact hb
 rw [if_neg q2]
 by_cases q3 : x.Op = 3
 ·have et : t = 0 := by
   have e := he
   unfold Rc.eff at e
   rw [if_neg q1, if_neg q2, if_pos q3] at e
   split at e
   ·cases e; rfl
   ·cases e
  subst et
  have hb := htb.2.2.2.2.2 (.inl q3)
  have hix : ix (m.slots.map cv2) x.N = some (cv2 (m.slots.getD x.N.toNat z0)) := by
   unfold ix
   rw [if_pos hb.1, List.getElem?_map, List.getElem?_eq_getElem (by omega), List.getD_eq_getElem?_getD, List.getElem?_eq_getElem (by omega)]; rfl
  have hvl : VOK 2048 (m.slots.getD x.N.toNat z0) := by
   rw [List.getD_eq_getElem?_getD, List.getElem?_eq_getElem (by omega)]; exact h.sl _ (List.getElem_mem _)
  obtain ⟨w, hl, hb⟩ := L0 (m.slots.getD x.N.toNat z0) (by have := hvl.1; omega) (by omega) (by omega)
  refine ⟨w, ret_step ?_, ?_⟩
  ·rw [if_neg (cN q1), if_neg (cN q2), if_pos (cP q3), show (Rc.cv x).N = x.N from rfl, hix, Option.bind_some]
   exact bret hl
  ·rw [if_pos q3]; exact hb
 rw [if_neg q3]
 by_cases q5 : x.Op = 5
 ·have et : t = 0 := by
   have e := he
   unfold Rc.eff at e
   rw [if_neg q1, if_neg q2, if_neg q3, if_neg (by omega), if_pos q5] at e
   split at e
   ·cases e; rfl
   ·cases e
  subst et
  obtain ⟨hp1, hp2⟩ := pre_eq (nm := x.S) h.i
  have hp3 := pre_eq2 (nm := x.S) hi
  rw [← hin] at hp3
  obtain ⟨w, hl, hb⟩ := L0 (preP x.S m.inZ) (by have := hp2.1; omega) (by omega) (by omega)
  refine ⟨w, ret_step ?_, ?_⟩
  ·rw [if_neg (cN q1), if_neg (cN q2), if_neg (cN q3), if_pos (cP q5), show (Rc.cv x).S = x.S from rfl, hp3, Option.bind_some]
   exact bret hl
  ·rw [if_pos q5]; exact hb
 rw [if_neg q5]
 by_cases q4 : x.Op = 4
 ·have et : t = 1 := by
   have e := he
   unfold Rc.eff at e
   rw [if_neg q1, if_neg q2, if_neg q3, if_pos q4] at e
   split at e
   ·cases e; rfl
   ·cases e
  subst et
  have hb := htb.2.2.2.2.2 (.inr q4)
  obtain ⟨y, hy⟩ : ∃ y, ix (([] : List V2) ++ m.slots.map cv2) x.N = some y := ix_ok hb.1 (by rw [List.nil_append, List.length_map]; omega)
  refine ⟨w2 (wL (pop (wS m (m.result.Steps + 1))) (m.slots.set x.N.toNat (top m))) (at' + 1), ret_step ?_, ?_⟩
  ·rw [if_neg (cN q1), if_neg (cN q2), if_neg (cN q3), if_neg (cN q5), if_pos (cP q4), chk_bind (by rw [List.length_map]; simp only [lim, List.length_nil]; omega), show (Rc.cv x).N = x.N from rfl, hy, Option.bind_some]
   unfold w2
   dsimp only [wL]
   rw [List.map_set]; rfl
  ·rw [if_pos q4]
   exact ⟨rfl, .inr ⟨hz, rfl⟩⟩
 rw [if_neg q4]
 by_cases q6 : x.Op = 6
 ·have et : t = 1 := by
   have e := he
   unfold Rc.eff at e
   rw [if_neg q1, if_neg q2, if_neg q3, if_neg q4, if_neg q5, if_pos q6] at e
   split at e
   ·cases e; rfl
   ·cases e
  subst et
  obtain ⟨hc1, hc2⟩ := call_eq (n := 0) (nm := x.S) h.i (by omega) h.top
  obtain ⟨v2, hc3, hc4⟩ := call_eq2 (nm := x.S) hn hi (by omega) h.top
  rw [← hin] at hc3 hc4
  have hA : JV n x.S (⟨(if (1 : Int) > 0 then top m else z0).kind, (if (1 : Int) > 0 then top m else z0).n, (if (1 : Int) > 0 then top m else z0).s, (if (1 : Int) > 0 then top m else z0).isZ⟩ : V2) i = some (v2, (callP x.S (top m) m.inZ).2) := hc3
  cases hb : (callP x.S (top m) m.inZ).2 with
  | false =>
   rw [hb] at hA
   refine ⟨(⟨(if (1 : Int) = 0 then m.stack else if (1 : Int) = 1 then m.stack.dropLast else m.stack.dropLast.dropLast).map cv2, m.slots.map cv2, at' + 1, r2 (wS m (m.result.Steps + 1)).result, false, 9⟩ : M2), go_step (t := (false, v2.TypeZ, v2.N, v2.S, v2.Is)) ?_ ?_, ?_⟩
   ·rw [if_neg (cN q1), if_neg (cN q2), if_neg (cN q3), if_neg (cN q5), if_neg (cN q4), if_pos (cP q6), show (Rc.cv x).S = x.S from rfl, hA]; rfl
   ·rw [if_pos (by simp)]; rfl
   ·rw [if_pos q6, if_neg (by simp)]; exact ⟨rfl, by decide⟩
  | true =>
   rw [hb] at hA
   obtain ⟨w, hl, hbh⟩ := L1 (callP x.S (top m) m.inZ).1 true (by have := (hc2 hb).1; omega) (fun _ => by simp [q6])
   refine ⟨w, go_step (t := (true, v2.TypeZ, v2.N, v2.S, v2.Is)) ?_ ?_, (by rw [if_pos q6, if_pos rfl]; exact hbh)⟩
   ·rw [if_neg (cN q1), if_neg (cN q2), if_neg (cN q3), if_neg (cN q5), if_neg (cN q4), if_pos (cP q6), show (Rc.cv x).S = x.S from rfl, hA]; rfl
   ·rw [if_neg (by simp)]
    rw [← hc4 hb] at hl
    exact (congrArg (fun o => Option.bind o _) hl).trans rfl
 rw [if_neg q6]
 by_cases q7 : x.Op = 7
 ·have et : t = 2 := by
   have e := he
   unfold Rc.eff at e
   rw [if_neg q1, if_neg q2, if_neg q3, if_neg q4, if_neg q5, if_neg q6, if_pos q7] at e
   split at e
   ·cases e; rfl
   ·cases e
  subst et
  obtain ⟨hc1, hc2⟩ := opr_eq' (op := x.S) (by omega) h.top2 h.top
  obtain ⟨v2, hc3, hc4⟩ := opr_eq2 (op := x.S) hn (by omega) h.top2 h.top
  have hA : Js n x.S (⟨(if (2 : Int) > 1 then top (pop m) else z0).kind, (if (2 : Int) > 1 then top (pop m) else z0).n, (if (2 : Int) > 1 then top (pop m) else z0).s, (if (2 : Int) > 1 then top (pop m) else z0).isZ⟩ : V2) (⟨(if (2 : Int) > 0 then top m else z0).kind, (if (2 : Int) > 0 then top m else z0).n, (if (2 : Int) > 0 then top m else z0).s, (if (2 : Int) > 0 then top m else z0).isZ⟩ : V2) = some (v2, (opP x.S (top (pop m)) (top m)).2) := hc3
  cases hb : (opP x.S (top (pop m)) (top m)).2 with
  | false =>
   rw [hb] at hA
   refine ⟨(⟨(if (2 : Int) = 0 then m.stack else if (2 : Int) = 1 then m.stack.dropLast else m.stack.dropLast.dropLast).map cv2, m.slots.map cv2, at' + 1, r2 (wS m (m.result.Steps + 1)).result, false, 9⟩ : M2), go_step (t := (false, v2.TypeZ, v2.N, v2.S, v2.Is)) ?_ ?_, ?_⟩
   ·rw [if_neg (cN q1), if_neg (cN q2), if_neg (cN q3), if_neg (cN q5), if_neg (cN q4), if_neg (cN q6), if_pos (cP q7), show (Rc.cv x).S = x.S from rfl, hA]; rfl
   ·rw [if_pos (by simp)]; rfl
   ·rw [if_pos q7, if_neg (by simp)]; exact ⟨rfl, by decide⟩
  | true =>
   rw [hb] at hA
   obtain ⟨w, hl, hbh⟩ := leave_eq (m := pop (pop (wS m (m.result.Steps + 1)))) (x := x) (v := (opP x.S (top (pop m)) (top m)).1) (o := true) hz (fun _ => by simp [q7]) (by show 0 ≤ m.result.Steps + 1; omega) (by show m.result.Steps + 1 ≤ _; omega) (by show (m.stack.dropLast.dropLast).length ≤ 100000; rw [List.length_dropLast, List.length_dropLast]; omega) (by have := (hc2 hb).1; omega)
   refine ⟨w, go_step (t := (true, v2.TypeZ, v2.N, v2.S, v2.Is)) ?_ ?_, (by rw [if_pos q7, if_pos rfl]; exact hbh)⟩
   ·rw [if_neg (cN q1), if_neg (cN q2), if_neg (cN q3), if_neg (cN q5), if_neg (cN q4), if_neg (cN q6), if_pos (cP q7), show (Rc.cv x).S = x.S from rfl, hA]; rfl
   ·rw [if_neg (by simp)]
    rw [← hc4 hb] at hl
    exact (congrArg (fun o => Option.bind o _) hl).trans rfl
 rw [if_neg q7]
 by_cases q8 : x.Op = 8
 ·have et : t = 1 := by
   have e := he
   unfold Rc.eff at e
   rw [if_neg q1, if_neg q2, if_neg q3, if_neg q4, if_neg q5, if_neg q6, if_neg q7, if_pos q8] at e
   split at e
   ·cases e; rfl
   ·cases e
  subst et
  rw [if_pos q8]
  by_cases hb : (top m).kind = 3
  ·rw [if_pos hb]
   obtain ⟨w, hl, hbh⟩ := L1 (tr' (!(top m).isZ)) false (by simp [tr']) (fun e => by simp [tr'] at e)
   refine ⟨w, go_step (t := (true, 3, 0, [], !(top m).isZ)) ?_ ?_, hbh⟩
   ·rw [if_neg (cN q1), if_neg (cN q2), if_neg (cN q3), if_neg (cN q5), if_neg (cN q4), if_neg (cN q6), if_neg (cN q7), if_pos (cP q8)]
    have : decide ((if (1 : Int) > 0 then top m else z0).kind = 3) = true := by simpa using hb
    rw [truth2, Option.bind_some, this]; rfl
   ·rw [if_neg (by simp)]
    exact (congrArg (fun o => Option.bind o _) hl).trans rfl
  ·rw [if_neg hb]
   refine ⟨(⟨(if (1 : Int) = 0 then m.stack else if (1 : Int) = 1 then m.stack.dropLast else m.stack.dropLast.dropLast).map cv2, m.slots.map cv2, at' + 1, r2 (wS m (m.result.Steps + 1)).result, false, 9⟩ : M2), go_step (t := (false, 3, 0, [], !(top m).isZ)) ?_ ?_, ?_⟩
   ·rw [if_neg (cN q1), if_neg (cN q2), if_neg (cN q3), if_neg (cN q5), if_neg (cN q4), if_neg (cN q6), if_neg (cN q7), if_pos (cP q8)]
    have : decide ((if (1 : Int) > 0 then top m else z0).kind = 3) = false := by simpa using hb
    rw [truth2, Option.bind_some, this]; rfl
   ·rw [if_pos (by simp)]; rfl
   ·exact ⟨rfl, by decide⟩
 rw [if_neg q8]
 by_cases q9 : x.Op = 9
 ·have et : t = 0 := by
   have e := he
   unfold Rc.eff at e
   rw [if_neg q1, if_neg q2, if_neg q3, if_neg q4, if_neg q5, if_neg q6, if_neg q7, if_neg q8, if_pos q9] at e
   split at e
   ·cases e; rfl
   ·cases e
  subst et
  have hN := hxn (by simp [Rc.isJ, q9])
  refine ⟨w2 (wS m (m.result.Steps + 1)) x.N, ret_step ?_, ?_⟩
  ·rw [if_neg (cN q1), if_neg (cN q2), if_neg (cN q3), if_neg (cN q5), if_neg (cN q4), if_neg (cN q6), if_neg (cN q7), if_neg (cN q8), if_pos (cP q9)]; rfl
  ·rw [if_pos q9]; exact ⟨rfl, .inr ⟨by show x.N ≠ -1; omega, rfl⟩⟩
 rw [if_neg q9]
 by_cases q10 : x.Op = 10
 ·have et : t = 1 := by
   have e := he
   unfold Rc.eff at e
   rw [if_neg q1, if_neg q2, if_neg q3, if_neg q4, if_neg q5, if_neg q6, if_neg q7, if_neg q8, if_neg q9, if_pos q10] at e
   split at e
   ·cases e; rfl
   ·cases e
  subst et
  have hN := hxn (by simp [Rc.isJ, q10])
  have hh : ∀ {A B C D E F G H I J K : Option (Fl M2 (Bool × Int × Int × Str × Bool))}, (if decide (x.Op = 1) = true then A else if decide (x.Op = 2) = true then B else if decide (x.Op = 3) = true then C else if decide (x.Op = 5) = true then D else if decide (x.Op = 4) = true then E else if decide (x.Op = 6) = true then F else if decide (x.Op = 7) = true then G else if decide (x.Op = 8) = true then H else if decide (x.Op = 9) = true then I else if decide (x.Op = 10) = true then J else K) = J := by
   intros
   rw [if_neg (by simpa using q1), if_neg (by simpa using q2), if_neg (by simpa using q3), if_neg (by simpa using q5), if_neg (by simpa using q4), if_neg (by simpa using q6), if_neg (by simpa using q7), if_neg (by simpa using q8), if_neg (by simpa using q9), if_pos (by simpa using q10)]
  rw [if_pos q10]
  by_cases hb : (top m).kind = 3
  ·rw [if_pos hb]
   have e3 : ¬ decide ((if (1 : Int) > 0 then top m else z0).kind ≠ 3) = true := by simpa using hb
   cases hz' : (top m).isZ with
   | true =>
    refine ⟨w2 (pop (wS m (m.result.Steps + 1))) (at' + 1), ret_step (hh.trans ?_), ?_⟩
    ·have e4 : ¬ (!(if (1 : Int) > 0 then top m else z0).isZ) = true := by simpa using hz'
     rw [if_neg e3, if_neg e4]; rfl
    ·rw [if_pos rfl]; exact ⟨rfl, .inr ⟨hz, rfl⟩⟩
   | false =>
    refine ⟨w2 (pop (wS m (m.result.Steps + 1))) x.N, ret_step (hh.trans ?_), ?_⟩
    ·have e4 : (!(if (1 : Int) > 0 then top m else z0).isZ) = true := by simpa using hz'
     rw [if_neg e3, if_pos e4]; rfl
    ·rw [if_neg (by simp)]; exact ⟨rfl, .inr ⟨by show x.N ≠ -1; omega, rfl⟩⟩
  ·rw [if_neg hb]
   have e3 : decide ((if (1 : Int) > 0 then top m else z0).kind ≠ 3) = true := by simpa using hb
   refine ⟨⟨m.stack.dropLast.map cv2, m.slots.map cv2, at' + 1, r2 (wS m (m.result.Steps + 1)).result, false, 9⟩, ret_step (hh.trans ?_), ?_⟩
   ·rw [if_pos e3]; rfl
   ·exact ⟨rfl, by decide⟩
 rw [if_neg q10]
 have hh : ∀ {A B C D E F G H I J K L : Option (Fl M2 (Bool × Int × Int × Str × Bool))}, (if decide (x.Op = 1) = true then A else if decide (x.Op = 2) = true then B else if decide (x.Op = 3) = true then C else if decide (x.Op = 5) = true then D else if decide (x.Op = 4) = true then E else if decide (x.Op = 6) = true then F else if decide (x.Op = 7) = true then G else if decide (x.Op = 8) = true then H else if decide (x.Op = 9) = true then I else if decide (x.Op = 10) = true then J else if decide (x.Op = 11) = true then K else L) = if x.Op = 11 then K else L := by
  intros
  rw [if_neg (by simpa using q1), if_neg (by simpa using q2), if_neg (by simpa using q3), if_neg (by simpa using q5), if_neg (by simpa using q4), if_neg (by simpa using q6), if_neg (by simpa using q7), if_neg (by simpa using q8), if_neg (by simpa using q9), if_neg (by simpa using q10)]
  by_cases q : x.Op = 11
  ·rw [if_pos (by simpa using q), if_pos q]
  ·rw [if_neg (by simpa using q), if_neg q]
 by_cases q11 : x.Op = 11
 ·have hK : Rc.actK x.S = some t := by
   have e := he
   unfold Rc.eff at e
   rw [if_neg q1, if_neg q2, if_neg q3, if_neg q4, if_neg q5, if_neg q6, if_neg q7, if_neg q8, if_neg q9, if_neg q10, if_pos q11] at e
   split at e
   ·obtain ⟨y, hy, e2⟩ := Option.map_eq_some_iff.1 e
    cases e2; exact hy
   ·cases e
  have htn := need_t hK
  rw [if_pos q11]
  have hrr : ROK k (wS m (m.result.Steps + 1)).result := ⟨h.r.h, h.r.v, h.r.t⟩
  by_cases qn : needP x.S = 0
  ·rw [if_pos qn] at htn
   subst htn
   have hA := act2 (n := n) (k := k) (r := (wS m (m.result.Steps + 1)).result) (x := z0) hn (by omega) hrr hx (by simp [z0]) hK
   refine ⟨(⟨m.stack.map cv2, m.slots.map cv2, at' + 1, r2 (actP (wS m (m.result.Steps + 1)).result x.S z0).1, decide (x.S = [100, 101, 110, 121]), ((actP (wS m (m.result.Steps + 1)).result x.S z0).2).getD 0⟩ : M2), ret_step (hh.trans ?_), ?_⟩
   ·rw [if_pos q11]
    exact (congrArg (fun o => Option.bind o _) hA).trans rfl
   ·rw [if_pos qn]
    exact actS_done (p := (z0, wS m (m.result.Steps + 1))) (st := []) (sl := []) hz (actP_ok hrr).2.1 rfl
  ·rw [if_neg qn] at htn
   subst htn
   have htop := h.top
   have hA := act2 (n := n) (k := k) (r := (wS m (m.result.Steps + 1)).result) (x := top m) hn (by omega) hrr hx (by have := htop.1; omega) hK
   refine ⟨(⟨m.stack.dropLast.map cv2, m.slots.map cv2, at' + 1, r2 (actP (wS m (m.result.Steps + 1)).result x.S (top m)).1, decide (x.S = [100, 101, 110, 121]), ((actP (wS m (m.result.Steps + 1)).result x.S (top m)).2).getD 0⟩ : M2), ret_step (hh.trans ?_), ?_⟩
   ·rw [if_pos q11]
    exact (congrArg (fun o => Option.bind o _) hA).trans rfl
   ·rw [if_neg qn]
    exact actS_done (p := (top m, pop (wS m (m.result.Steps + 1)))) (st := []) (sl := []) hz (actP_ok hrr).2.1 rfl
 rw [if_neg q11]
 have q12 : x.Op = 12 := by
  have e := he
  unfold Rc.eff at e
  rw [if_neg q1, if_neg q2, if_neg q3, if_neg q4, if_neg q5, if_neg q6, if_neg q7, if_neg q8, if_neg q9, if_neg q10, if_neg q11] at e
  by_cases w : x.Op = 12
  ·exact w
  ·rw [if_neg w] at e; cases e
 have et := (htb.2.2.2.2.1 q12).1
 subst et
 refine ⟨⟨m.stack.map cv2, m.slots.map cv2, at' + 1, r2 (wS m (m.result.Steps + 1)).result, true, 0⟩, ret_step (hh.trans ?_), ?_⟩
 ·rw [if_neg q11]; rfl
 ·exact ⟨rfl, .inl ⟨rfl, rfl, rfl⟩⟩
end Rt.Rv
set_option linter.unusedVariables false
set_option linter.unusedSimpArgs false
open Go Go.SL Go.Proofs Pl Vary
namespace Rt.Rv
theorem VOK.mono {a b : Nat} {v : V1} (h : VOK a v) (hab : a ≤ b) : VOK b v := ⟨Nat.le_trans h.1 hab, h.2⟩
theorem MOK.up {k k' : Nat} {m : M1} (h : MOK k m) (hk : k ≤ k') (h8 : k' ≤ 800) : MOK k' m := ⟨h.i, h.r.up hk, h.st, h.sl, h.sn, Nat.le_trans h.tn hk, h.s0, by have := h.s1; omega, h8⟩
theorem MOK.steps {k : Nat} {m : M1} (h : MOK k m) {s : Int} (h0 : 0 ≤ s) (h1 : s ≤ 40 * k) : MOK k (wS m s) := ⟨h.i, ⟨h.r.h, h.r.v, h.r.t⟩, h.st, h.sl, h.sn, h.tn, h0, h1, h.k⟩
theorem MOK.pop {k : Nat} {m : M1} (h : MOK k m) : MOK k (Rv.pop m) :=
 ⟨h.i, h.r, fun v hv => h.st v (List.dropLast_subset _ hv), h.sl, h.sn, by have := h.tn; show (m.stack.dropLast).length ≤ k; rw [List.length_dropLast]; omega, h.s0, h.s1, h.k⟩
theorem push_ok {k : Nat} {m : M1} {v : V1} {o : Bool} {M : M1} (h : MOK k m) (h8 : k + 1 ≤ 800) (hv : VOK 40000 v) (he : pushP m v o = (none, M)) :
  MOK (k + 1) M ∧ M.inZ = m.inZ ∧ M.most = m.most ∧ M.stack = m.stack ++ [v] ∧ M.result.Steps ≤ m.result.Steps + 32 ∧ M.slots = m.slots := by
 unfold pushP at he
 by_cases q : v.s.length > 2048
 ·rw [if_pos q] at he; cases he
 ·rw [if_neg q] at he
  have hv2 : VOK 2048 v := ⟨by omega, hv.2⟩
  have hst : ∀ y ∈ m.stack ++ [v], VOK 2048 y := fun y hy => by
   rcases List.mem_append.1 hy with hy | hy
   ·exact h.st y hy
   ·rw [List.mem_singleton] at hy; subst hy; exact hv2
  have htn : (m.stack ++ [v]).length ≤ k + 1 := by have := h.tn; simp; omega
  have hr := h.r.up (Nat.le_succ k)
  have h0 := h.s0
  have h1 := h.s1
  split at he
  ·split at he
   ·cases he
   ·cases he
    refine ⟨⟨h.i, ⟨hr.h, hr.v, hr.t⟩, hst, h.sl, h.sn, htn, ?_, ?_, h8⟩, rfl, rfl, rfl, ?_, rfl⟩
    ·show 0 ≤ m.result.Steps + ((v.s.length / 64 : Nat) : Int); omega
    ·show m.result.Steps + ((v.s.length / 64 : Nat) : Int) ≤ 40 * ((k + 1 : Nat) : Int); omega
    ·show m.result.Steps + ((v.s.length / 64 : Nat) : Int) ≤ m.result.Steps + 32; omega
  ·cases he
   refine ⟨⟨h.i, hr, hst, h.sl, h.sn, htn, h0, by show m.result.Steps ≤ _; omega, h8⟩, rfl, rfl, rfl, ?_, rfl⟩
   show m.result.Steps ≤ m.result.Steps + 32; omega
structure Kp (k : Nat) (m : M1) (at' : Int) (x : I) (t l : Int) (nx : Int) (M : M1) : Prop where
 ok : MOK (k + 1) M
 inz : M.inZ = m.inZ
 most : M.most = m.most
 len : nx ≠ -1 → (M.stack.length : Int) = m.stack.length + (l - t)
 nx : nx = -1 ∨ (x.Op ≠ 9 ∧ x.Op ≠ 12 ∧ nx = at' + 1) ∨ (Rc.isJ x = true ∧ nx = x.N)
theorem nxP_some {at' nx : Int} {p : Err × M1} {M : M1} (h : nxP at' p = (nx, none, M)) : nx = at' + 1 ∧ p = (none, M) := by
 unfold nxP at h
 obtain ⟨a, b⟩ := p
 cases h; exact ⟨rfl, rfl⟩
theorem kp_push {k : Nat} {m m0 : M1} {x : I} {v : V1} {o : Bool} {at' nx t l : Int} {M : M1} (h : nxP at' (pushP m0 v o) = (nx, none, M)) (hm : MOK (k + 1) m0) (h8 : k + 2 ≤ 800)
  (hs : m0.result.Steps ≤ m.result.Steps + 1) (hs1 : m.result.Steps ≤ 40 * k) (hin : m0.inZ = m.inZ) (hmo : m0.most = m.most) (hv : VOK 40000 v) (hl : ((m0.stack.length : Int) + 1) = m.stack.length + (l - t)) (hk : m0.stack.length ≤ k) (h9 : x.Op ≠ 9 ∧ x.Op ≠ 12) (hR : ROK k m0.result) : Kp k m at' x t l nx M := by
 obtain ⟨rfl, h2⟩ := nxP_some h
 obtain ⟨h3, h4, h5, h6, h7, h8'⟩ := push_ok hm (by omega) hv h2
 refine ⟨⟨h3.i, ?_, h3.st, h3.sl, h3.sn, ?_, h3.s0, by omega, by omega⟩, by rw [h4, hin], by rw [h5, hmo], fun _ => by rw [h6]; simp; omega, .inr (.inl ⟨h9.1, h9.2, rfl⟩)⟩
 ·have : M.result.Headers = m0.result.Headers ∧ M.result.Vary = m0.result.Vary ∧ M.result.Tags = m0.result.Tags := by
   unfold pushP at h2
   split at h2
   ·cases h2
   ·split at h2
    ·split at h2
     ·cases h2
     ·cases h2; exact ⟨rfl, rfl, rfl⟩
    ·cases h2; exact ⟨rfl, rfl, rfl⟩
  have hR2 := hR.up (Nat.le_succ k)
  exact ⟨by rw [this.1]; exact hR2.h, by rw [this.2.1]; exact hR2.v, by rw [this.2.2]; exact hR2.t⟩
 ·rw [h6]; simp; omega
theorem keep {k : Nat} {m : M1} {x : I} {t l at' nx : Int} {M : M1} (h : MOK k m) (h8 : k + 2 ≤ 800) (hx : x.S.length ≤ 100000) (he : Rc.eff x = some (t, l)) (ht : t ≤ m.stack.length) (hs : stepP m at' x = (nx, none, M)) : Kp k m at' x t l nx M := by
 have hs0 := h.s0
 have hs1 := h.s1
 have hk := h.k
 have htn := h.tn
 have h1 : MOK (k + 1) (wS m (m.result.Steps + 1)) := (h.up (Nat.le_succ k) (by omega)).steps (by omega) (by omega)
 have hR : ROK k (wS m (m.result.Steps + 1)).result := ⟨h.r.h, h.r.v, h.r.t⟩
 have eS : (wS m (m.result.Steps + 1)).result.Steps = m.result.Steps + 1 := rfl
 have ePl : ((pop (wS m (m.result.Steps + 1))).stack.length : Int) = (m.stack.length - 1 : Nat) := by show ((m.stack.dropLast.length : Nat) : Int) = _; rw [List.length_dropLast]
 have hpn : (pop (wS m (m.result.Steps + 1))).stack.length ≤ k := by omega
 unfold stepP at hs
 by_cases q0 : m.result.Steps + 1 > m.most
 ·rw [if_pos q0] at hs; cases hs
 rw [if_neg q0] at hs
 have ev := he
 unfold Rc.eff at ev
 by_cases q1 : x.Op = 1
 ·rw [if_pos q1] at hs
  rw [if_pos q1] at ev
  split at ev
  ·cases ev
   exact kp_push hs h1 h8 (by rw [eS]; omega) hs1 rfl rfl (nm_ok _ _) (by show ((m.stack.length : Int) + 1) = _; omega) htn (by omega) hR
  ·cases ev
 rw [if_neg q1] at hs ev
 by_cases q2 : x.Op = 2
 ·rw [if_pos q2] at hs ev
  split at ev
  ·cases ev
   by_cases w : x.S.length ≤ 40000
   ·exact kp_push hs h1 h8 (by rw [eS]; omega) hs1 rfl rfl (tx_ok w) (by show ((m.stack.length : Int) + 1) = _; omega) htn (by omega) hR
   ·obtain ⟨_, h2⟩ := nxP_some hs
    unfold pushP at h2
    rw [if_pos (by show x.S.length > 2048; omega)] at h2; cases h2
  ·cases ev
 rw [if_neg q2] at hs ev
 by_cases q3 : x.Op = 3
 ·rw [if_pos q3] at hs ev
  split at ev
  ·rename_i w
   cases ev
   have hvl : VOK 2048 (m.slots.getD x.N.toNat z0) := by
    have hsn := h.sn
    rw [List.getD_eq_getElem?_getD, List.getElem?_eq_getElem (by omega)]; exact h.sl _ (List.getElem_mem _)
   exact kp_push hs h1 h8 (by rw [eS]; omega) hs1 rfl rfl (hvl.mono (by omega)) (by show ((m.stack.length : Int) + 1) = _; omega) htn (by omega) hR
  ·cases ev
 rw [if_neg q3] at hs ev
 by_cases q5 : x.Op = 5
 ·rw [if_pos q5] at hs
  rw [if_neg (by omega), if_pos q5] at ev
  split at ev
  ·cases ev
   obtain ⟨hp1, hp2⟩ := pre_eq (nm := x.S) h.i
   exact kp_push hs h1 h8 (by rw [eS]; omega) hs1 rfl rfl (hp2.mono (by omega)) (by show ((m.stack.length : Int) + 1) = _; omega) htn (by omega) hR
  ·cases ev
 rw [if_neg q5] at hs
 by_cases q4 : x.Op = 4
 ·rw [if_pos q4] at hs ev
  split at ev
  ·cases ev
   cases hs
   have h2 := h1.pop
   refine ⟨⟨h2.i, h2.r, h2.st, fun y hy => ?_, ?_, h2.tn, h2.s0, h2.s1, h2.k⟩, rfl, rfl, fun _ => ?_, .inr (.inl ⟨by omega, by omega, rfl⟩)⟩
   ·rcases List.mem_or_eq_of_mem_set hy with hy | rfl
    ·exact h.sl y hy
    ·exact h.top
   ·show (m.slots.set x.N.toNat (top m)).length = 512
    rw [List.length_set]; exact h.sn
   ·show ((pop (wS m (m.result.Steps + 1))).stack.length : Int) = _
    rw [ePl]; omega
  ·cases ev
 rw [if_neg q4] at hs ev
 rw [if_neg q5] at ev
 by_cases q6 : x.Op = 6
 ·rw [if_pos q6] at hs ev
  split at ev
  ·cases ev
   obtain ⟨hc1, hc2⟩ := call_eq (n := 0) (nm := x.S) h.i (by omega) h.top
   split at hs
   ·rename_i w
    exact kp_push hs h1.pop h8 (by show m.result.Steps + 1 ≤ _; omega) hs1 rfl rfl (hc2 w) (by rw [ePl]; omega) hpn (by omega) hR
   ·cases hs
  ·cases ev
 rw [if_neg q6] at hs ev
 by_cases q7 : x.Op = 7
 ·rw [if_pos q7] at hs ev
  split at ev
  ·cases ev
   obtain ⟨hc1, hc2⟩ := opr_eq' (op := x.S) (by omega) h.top2 h.top
   split at hs
   ·rename_i w
    have e2 : ((pop (pop (wS m (m.result.Steps + 1)))).stack.length : Int) = (m.stack.length - 1 - 1 : Nat) := by show ((m.stack.dropLast.dropLast.length : Nat) : Int) = _; rw [List.length_dropLast, List.length_dropLast]
    exact kp_push hs h1.pop.pop h8 (by show m.result.Steps + 1 ≤ _; omega) hs1 rfl rfl (hc2 w) (by rw [e2]; omega) (by omega) (by omega) hR
   ·cases hs
  ·cases ev
 rw [if_neg q7] at hs ev
 by_cases q8 : x.Op = 8
 ·rw [if_pos q8] at hs ev
  split at ev
  ·cases ev
   split at hs
   ·exact kp_push hs h1.pop h8 (by show m.result.Steps + 1 ≤ _; omega) hs1 rfl rfl (tr_ok _ _) (by rw [ePl]; omega) hpn (by omega) hR
   ·cases hs
  ·cases ev
 rw [if_neg q8] at hs ev
 by_cases q9 : x.Op = 9
 ·rw [if_pos q9] at hs ev
  split at ev
  ·cases ev
   cases hs
   exact ⟨h1, rfl, rfl, fun _ => by show (m.stack.length : Int) = _; omega, .inr (.inr ⟨by simp [Rc.isJ, q9], rfl⟩)⟩
  ·cases ev
 rw [if_neg q9] at hs ev
 by_cases q10 : x.Op = 10
 ·rw [if_pos q10] at hs ev
  split at ev
  ·cases ev
   split at hs
   ·split at hs
    ·cases hs
     exact ⟨h1.pop, rfl, rfl, fun _ => by rw [ePl]; omega, .inr (.inl ⟨by omega, by omega, rfl⟩)⟩
    ·cases hs
     exact ⟨h1.pop, rfl, rfl, fun _ => by rw [ePl]; omega, .inr (.inr ⟨by simp [Rc.isJ, q10], rfl⟩)⟩
   ·cases hs
  ·cases ev
 rw [if_neg q10] at hs ev
 by_cases q11 : x.Op = 11
 ·rw [if_pos q11] at hs ev
  split at ev
  ·obtain ⟨y, hy, e2⟩ := Option.map_eq_some_iff.1 ev
   cases e2
   have hyt := need_t hy
   have fin : ∀ p : V1 × M1, MOK (k + 1) p.2 → ROK k p.2.result → p.2.inZ = m.inZ → p.2.most = m.most → ((p.2.stack.length : Int) = m.stack.length + (0 - t)) → actS m at' x.S p = (nx, none, M) → Kp k m at' x t 0 nx M := by
    intro p hp hr hi hmo hl e
    obtain ⟨a1, a2, a3⟩ := actP_ok (s := x.S) (x := p.1) hr
    have hM : MOK (k + 1) (wR p.2 (actP p.2.result x.S p.1).1) := ⟨hp.i, a1, hp.st, hp.sl, hp.sn, hp.tn, by show 0 ≤ (actP p.2.result x.S p.1).1.Steps; rw [a3]; exact hp.s0, by show (actP p.2.result x.S p.1).1.Steps ≤ _; rw [a3]; exact hp.s1, hp.k⟩
    unfold actS at e
    split at e
    ·rename_i w
     have e2 := congrArg (fun z => z.2.1) e
     dsimp only at e2
     rw [e2] at w; cases w
    ·split at e
     ·cases e
      exact ⟨hM, hi, hmo, fun h => absurd rfl h, .inl rfl⟩
     ·cases e
      exact ⟨hM, hi, hmo, fun _ => hl, .inr (.inl ⟨by omega, by omega, rfl⟩)⟩
   by_cases qn : needP x.S = 0
   ·rw [if_pos qn] at hs hyt
    exact fin (z0, wS m (m.result.Steps + 1)) h1 hR rfl rfl (by show (m.stack.length : Int) = _; omega) hs
   ·rw [if_neg qn] at hs hyt
    exact fin (top m, pop (wS m (m.result.Steps + 1))) h1.pop hR rfl rfl (by rw [ePl]; omega) hs
  ·cases ev
 rw [if_neg q11] at hs
 cases hs
 exact ⟨h1, rfl, rfl, fun h => absurd rfl h, .inl rfl⟩
theorem joinA_get {a a' : Rc.AS} {d : Int} {σ : Int → Bool} (h : Rc.joinA a d σ = some a') : ∃ σ', a' = some (d, σ') := by
 unfold Rc.joinA at h
 split at h
 ·cases h; exact ⟨_, rfl⟩
 ·split at h
  ·rename_i e; cases h; exact ⟨_, by rw [e]⟩
  ·cases h
theorem joinA_keep {a' : Rc.AS} {d d' : Int} {σ σ' : Int → Bool} (h : Rc.joinA (some (d, σ)) d' σ' = some a') : ∃ σ'', a' = some (d, σ'') := by
 unfold Rc.joinA at h
 simp only at h
 split at h
 ·cases h; exact ⟨_, rfl⟩
 ·cases h
theorem far_keep {len i k : Nat} {x : I} {B B1 : Rc.AB} {d d' : Int} {σ σ' : Int → Bool} (h : Rc.far len i x B d' σ' = some B1) (hk : B k = some (d, σ)) : ∃ σ'', B1 k = some (d, σ'') := by
 unfold Rc.far at h
 split at h
 ·split at h
  ·cases h
  ·obtain ⟨a, ha, rfl⟩ := Option.map_eq_some_iff.1 h
   unfold Rc.updA
   split
   ·rename_i e
    rw [← e, hk] at ha
    exact joinA_keep ha
   ·exact ⟨_, hk⟩
 ·cases h; exact ⟨_, hk⟩
theorem near_keep {i k : Nat} {x : I} {B B1 : Rc.AB} {d d' : Int} {σ σ' : Int → Bool} (h : Rc.near i x B d' σ' = some B1) (hk : B k = some (d, σ)) : ∃ σ'', B1 k = some (d, σ'') := by
 unfold Rc.near at h
 split at h
 ·cases h; exact ⟨_, hk⟩
 ·obtain ⟨a, ha, rfl⟩ := Option.map_eq_some_iff.1 h
  unfold Rc.updA
  split
  ·rename_i e
   rw [← e, hk] at ha
   exact joinA_keep ha
  ·exact ⟨_, hk⟩
def At (c : List I) (k : Nat) (d : Int) : Prop := k < c.length ∧ ∃ B g σ G, Rc.wk c.length k (c.drop k) B g = some G ∧ B k = some (d, σ)
theorem adv {c : List I} : ∀ (j i k : Nat) (B : Rc.AB) (g d G : Int) (σ : Int → Bool), i + j = k → k < c.length → Rc.wk c.length i (c.drop i) B g = some G → B k = some (d, σ) → At c k d
 | 0, i, k, B, g, d, G, σ, e, hk, h, hB => by
  have : i = k := by omega
  subst this
  exact ⟨hk, B, g, σ, G, h, hB⟩
 | j + 1, i, k, B, g, d, G, σ, e, hk, h, hB => by
  rw [List.drop_eq_getElem_cons (by omega), Rc.wk_cons] at h
  obtain ⟨r, hr, h2⟩ := Option.bind_eq_some_iff.1 h
  obtain ⟨t, l, d0, σ0, he, hb, htd, h12, h3, h4, h5⟩ := Rc.stA_inv hr
  have n12 : c[i].Op ≠ 12 := fun q => by have := h12.1 q; omega
  obtain ⟨B1, hf, hn, _⟩ := h5 n12
  obtain ⟨σ1, hB1⟩ := far_keep hf hB
  obtain ⟨σ2, hB2⟩ := near_keep hn hB1
  exact adv j (i + 1) k r.1 r.2 d G σ2 (by omega) hk h2 hB2
theorem At.next {c : List I} {i : Nat} {d : Int} (h : At c i d) : ∃ t l, Rc.eff (c[i]'h.1) = some (t, l) ∧ t ≤ d ∧ (((c[i]'h.1).Op = 12) ↔ (i + 1 = c.length)) ∧ ((c[i]'h.1).Op ≠ 12 → ((c[i]'h.1).Op ≠ 9 → At c (i + 1) (d + (l - t))) ∧
  (Rc.isJ (c[i]'h.1) = true → (i : Int) < (c[i]'h.1).N ∧ (c[i]'h.1).N < c.length ∧ At c (c[i]'h.1).N.toNat (d + (l - t)))) := by
 obtain ⟨hi, B, g, σ, G, hw, hB⟩ := h
 rw [List.drop_eq_getElem_cons hi, Rc.wk_cons] at hw
 obtain ⟨r, hr, h2⟩ := Option.bind_eq_some_iff.1 hw
 obtain ⟨t, l, d0, σ0, he, hb, htd, h12, h3, h4, h5⟩ := Rc.stA_inv hr
 rw [hB] at hb
 cases hb
 refine ⟨t, l, he, htd, h12, fun n12 => ?_⟩
 obtain ⟨B1, hf, hn, _⟩ := h5 n12
 have hlt : i + 1 < c.length := by
  have : ¬ i + 1 = c.length := fun q => n12 (h12.2 q)
  omega
 refine ⟨fun n9 => ?_, fun hj => ?_⟩
 ·unfold Rc.near at hn
  rw [if_neg n9] at hn
  obtain ⟨a, ha, e⟩ := Option.map_eq_some_iff.1 hn
  obtain ⟨σ', ea⟩ := joinA_get ha
  refine ⟨hlt, r.1, r.2, σ', G, h2, ?_⟩
  rw [← e, ea]; simp [Rc.updA]
 ·unfold Rc.far at hf
  rw [if_pos hj] at hf
  split at hf
  ·cases hf
  ·rename_i hN
   obtain ⟨a, ha, e⟩ := Option.map_eq_some_iff.1 hf
   obtain ⟨σ', ea⟩ := joinA_get ha
   have hB1 : B1 (c[i]).N.toNat = some (d + (l - t), σ') := by rw [← e, ea]; simp [Rc.updA]
   obtain ⟨σ2, hB2⟩ := near_keep hn hB1
   exact ⟨by omega, by omega, adv ((c[i]).N.toNat - (i + 1)) (i + 1) _ r.1 r.2 _ G σ2 (by omega) (by omega) h2 hB2⟩
theorem at0 {c : List I} {G : Int} (h : Rc.depthOf c = some G) : At c 0 0 ∧ c.length ≤ 2048 := by
 unfold Rc.depthOf at h
 split at h
 ·cases h
 ·exact ⟨⟨by omega, Rc.B0, 0, fun _ => false, G, by simpa using h, rfl⟩, by omega⟩
def zR : R1 := ⟨[], [], [], [], [], 0, 0, 0, false, false⟩
noncomputable def runP (c : List I) : Nat → Nat → M1 → R1 × Err
 | 0, _, m => (m.result, none)
 | f + 1, i, m => match c[i]? with
  | none => (m.result, none)
  | some x => match (stepP m (i : Int) x).2.1 with
   | some e => (zR, some e)
   | none => if (stepP m (i : Int) x).1 = -1 then ((stepP m (i : Int) x).2.2.result, none) else runP c f (stepP m (i : Int) x).1.toNat (stepP m (i : Int) x).2.2
def Fin1 (p : R1 × Err) (o : Fl (R1 × Err) (Int × M1)) : Prop := match p.2 with
 | some e => o = .ret (zR, some e)
 | none => ∃ a m, o = .go (a, m) ∧ m.result = p.1
def Fin2 (p : R1 × Err) (w : M2) : Prop := match p.2 with
 | some e => w.code = e ∧ e ≠ 0
 | none => w.code = 0 ∧ w.r = r2 p.1
def flat (w : M2) := (w.stack, w.slots, w.atZ, w.r.Path, w.r.Query, w.r.Headers, w.r.Vary, w.r.Tags, w.r.TTL, w.r.Deny, w.r.Steps, w.r.Pass, w.r.Token, w.done, w.code)
noncomputable def run2 (c : List Rc.I2) (n : Nat) (i : In2) (most : Int) (f : Nat) (w : M2) := Ja9 c n i most f w.stack w.slots w.atZ w.r.Path w.r.Query w.r.Headers w.r.Vary w.r.Tags w.r.TTL w.r.Deny w.r.Steps w.r.Pass w.r.Token w.done w.code
theorem run2_stop {c : List Rc.I2} {n : Nat} {i : In2} {most : Int} {f : Nat} {w : M2} (h : w.done = true ∨ w.code ≠ 0) : run2 c n i most (f + 1) w = some (flat w) := by
 unfold run2
 rw [Ja9]
 rcases h with h | h
 ·rw [h, if_neg (by simp), Option.bind_some, if_neg (by simp)]; unfold flat; rw [h]
 ·cases hd : w.done with
  | true => unfold flat; rw [hd]; rfl
  | false => rw [if_pos (by simp), Option.bind_some, if_neg (by simpa using h)]; unfold flat; rw [hd]
theorem run2_go {c : List Rc.I2} {n : Nat} {i : In2} {most : Int} {f : Nat} {w w' : M2} {x : Rc.I2} (h : w.done = false ∧ w.code = 0) (hx : ix c w.atZ = some x) (hs : Jbv n w x i most = some w') : run2 c n i most (f + 1) w = run2 c n i most f w' := by
 obtain ⟨st, sl, a, ⟨r1, r2, r3, r4, r5, r6, r7, r8, r9, r10⟩, d, cd⟩ := w
 obtain ⟨h1, h2⟩ := h
 dsimp only at h1 h2 hx
 subst h1 h2
 unfold run2
 dsimp only
 rw [Ja9, if_pos (by simp), Option.bind_some, if_pos (by simp), hx, Option.bind_some, hs, Option.bind_some]
theorem ix_get {α : Type} {c : List α} {i : Nat} (h : i < c.length) : ix c (i : Int) = some c[i] := by
 unfold ix; rw [if_pos (by omega), Int.toNat_natCast, List.getElem?_eq_getElem h]
theorem run_sim {c : List I} {n : Nat} {i : In2} (hn : 1000002 ≤ n) (hc : c.length ≤ 700) (hS : ∀ x ∈ c, x.S.length ≤ 100000) (hi : IOK i) : ∀ (j f f1 f2 k : Nat) (d most : Int) (m : M1), c.length - k ≤ j → j < f → j + 1 < f1 → j + 1 < f2 → At c k d → MOK k m → m.inZ = inp i → m.most = most → (m.stack.length : Int) = d →
  (∃ o, JH c (inp i) f1 (k : Int) m = some o ∧ Fin1 (runP c f k m) o) ∧ (∃ w, run2 (c.map Rc.cv) n i most f2 (w2 m (k : Int)) = some (flat w) ∧ Fin2 (runP c f k m) w)
 | 0, f, f1, f2, k, d, most, m, hj, _, _, _, hA, _, _, _, _ => by have := hA.1; omega
 | j + 1, f, f1, f2, k, d, most, m, hj, hf, hf1, hf2, hA, hM, hin, hmo, hd => by
  obtain ⟨f, rfl⟩ : ∃ a, f = a + 1 := ⟨f - 1, by omega⟩
  obtain ⟨f1, rfl⟩ : ∃ a, f1 = a + 1 := ⟨f1 - 1, by omega⟩
  obtain ⟨f2, rfl⟩ : ∃ a, f2 = a + 1 := ⟨f2 - 1, by omega⟩
  have hk := hA.1
  obtain ⟨t, l, he, htd, h12, hnx⟩ := hA.next
  have hx := hS c[k] (List.getElem_mem hk)
  have hJ : Rc.isJ c[k] = true → 0 ≤ c[k].N := fun q => by
   have n12 : c[k].Op ≠ 12 := fun e => by unfold Rc.isJ at q; rw [e] at q; simp at q
   have := ((hnx n12).2 q).1; omega
  have e1 := step1 (at' := (k : Int)) hM hx he (by omega) (by omega) (by omega)
  obtain ⟨w, e2, hB⟩ := step2 (at' := (k : Int)) hn hM hi hin hx he (by omega) (by omega) (by omega) hJ
  rw [hmo] at e2
  have r1 : JH c (inp i) (f1 + 1) (k : Int) m = (if (stepP m (k : Int) c[k]).2.1.isSome then some (Fl.ret (zR, (stepP m (k : Int) c[k]).2.1)) else JH c (inp i) f1 (stepP m (k : Int) c[k]).1 (⟨inp i, (stepP m (k : Int) c[k]).2.2.most, (stepP m (k : Int) c[k]).2.2.result, (stepP m (k : Int) c[k]).2.2.stack, (stepP m (k : Int) c[k]).2.2.slots⟩ : M1)) := by
   rw [JH, if_pos (by simp), ix_get hk, Option.bind_some]
   have : (⟨inp i, m.most, m.result, m.stack, m.slots⟩ : M1) = m := by rw [← hin]
   rw [this, e1, Option.bind_some]; rfl
  have r2 : run2 (c.map Rc.cv) n i most (f2 + 1) (w2 m (k : Int)) = run2 (c.map Rc.cv) n i most f2 w := by
   refine run2_go ⟨rfl, rfl⟩ ?_ e2
   show ix (c.map Rc.cv) (k : Int) = some (Rc.cv c[k])
   rw [ix_get (by simpa using hk)]; simp
  have r3 : runP c (f + 1) k m = match (stepP m (k : Int) c[k]).2.1 with
   | some e => (zR, some e)
   | none => if (stepP m (k : Int) c[k]).1 = -1 then ((stepP m (k : Int) c[k]).2.2.result, none) else runP c f (stepP m (k : Int) c[k]).1.toNat (stepP m (k : Int) c[k]).2.2 := by
   rw [runP, List.getElem?_eq_getElem hk]
  rw [r1, r2, r3]
  cases e3 : (stepP m (k : Int) c[k]).2.1 with
  | some c1 =>
   unfold Beh at hB
   rw [e3] at hB
   simp only at hB
   refine ⟨⟨_, rfl, ?_⟩, ?_⟩
   ·simp [Fin1]
   ·obtain ⟨g2, rfl⟩ : ∃ a, f2 = a + 1 := ⟨f2 - 1, by omega⟩
    exact ⟨w, run2_stop (.inr (by rw [hB.1]; exact hB.2)), hB.1, hB.2⟩
  | none =>
   have eP : stepP m (k : Int) c[k] = ((stepP m (k : Int) c[k]).1, none, (stepP m (k : Int) c[k]).2.2) := by rw [← e3]
   have hK := keep hM (by omega) hx he (by omega) eP
   unfold Beh at hB
   rw [e3] at hB
   simp only at hB
   obtain ⟨b1, b2⟩ := hB
   rw [if_neg (by simp)]
   have eM : (⟨inp i, (stepP m (k : Int) c[k]).2.2.most, (stepP m (k : Int) c[k]).2.2.result, (stepP m (k : Int) c[k]).2.2.stack, (stepP m (k : Int) c[k]).2.2.slots⟩ : M1) = (stepP m (k : Int) c[k]).2.2 := by
    rw [← hin, ← hK.inz]
   rw [eM]
   by_cases qn : (stepP m (k : Int) c[k]).1 = -1
   ·simp only [qn, if_true]
    rcases b2 with ⟨_, b3, b4⟩ | ⟨b3, _⟩
    ·obtain ⟨g1, rfl⟩ : ∃ a, f1 = a + 1 := ⟨f1 - 1, by omega⟩
     obtain ⟨g2, rfl⟩ : ∃ a, f2 = a + 1 := ⟨f2 - 1, by omega⟩
     refine ⟨⟨.go (-1, ⟨inp i, (stepP m (k : Int) c[k]).2.2.most, (stepP m (k : Int) c[k]).2.2.result, (stepP m (k : Int) c[k]).2.2.stack, (stepP m (k : Int) c[k]).2.2.slots⟩), ?_, _, _, rfl, rfl⟩, w, run2_stop (.inl b3), b1, b4⟩
     rw [JH, if_neg (by simp)]
    ·exact absurd qn b3
   ·simp only [qn, if_false]
    rcases b2 with ⟨b3, _⟩ | ⟨_, b3⟩
    ·exact absurd b3 qn
    ·have hlen := hK.len qn
     obtain ⟨k', hk', hkk, hA'⟩ : ∃ k' : Nat, (stepP m (k : Int) c[k]).1 = (k' : Int) ∧ k < k' ∧ At c k' (d + (l - t)) := by
      rcases hK.nx with e | ⟨n9, n12, e⟩ | ⟨hj, e⟩
      ·exact absurd e qn
      ·exact ⟨k + 1, by rw [e]; omega, by omega, (hnx n12).1 n9⟩
      ·have n12 : c[k].Op ≠ 12 := fun e => by unfold Rc.isJ at hj; rw [e] at hj; simp at hj
       obtain ⟨j1, j2, j3⟩ := (hnx n12).2 hj
       exact ⟨c[k].N.toNat, by rw [e]; omega, by omega, j3⟩
     have hkl := hA'.1
     rw [b3, hk', Int.toNat_natCast]
     exact run_sim hn hc hS hi j f f1 f2 k' (d + (l - t)) most _ (by omega) (by omega) (by omega) (by omega) hA' (hK.ok.up (by omega) (by omega)) (hK.inz.trans hin) (hK.most.trans hmo) (by rw [hlen]; omega)
end Rt.Rv
set_option linter.unusedVariables false
set_option linter.unusedSimpArgs false
open Go Go.SL Go.Proofs Pl Vary
namespace Rt.Rv
theorem run_mono {c : List I} {i : In1} : ∀ (f f' : Nat) (a : Int) (m : M1) (r : Fl (R1 × Err) (Int × M1)), f ≤ f' → JH c i f a m = some r → JH c i f' a m = some r
 | 0, f', a, m, r, _, h => by rw [JH] at h; cases h
 | f + 1, 0, a, m, r, hf, h => by omega
 | f + 1, f' + 1, a, m, r, hf, h => by
  rw [JH] at h ⊢
  by_cases q : decide (a ≥ 0) = true
  ·rw [if_pos q] at h ⊢
   obtain ⟨x, hx, h⟩ := Option.bind_eq_some_iff.1 h
   obtain ⟨p, hp, h⟩ := Option.bind_eq_some_iff.1 h
   rw [hx, Option.bind_some, hp, Option.bind_some]
   by_cases q2 : p.2.1.isSome = true
   ·rw [if_pos q2] at h ⊢; exact h
   ·rw [if_neg q2] at h ⊢
    exact run_mono f f' _ _ r (by omega) h
  ·rw [if_neg q] at h ⊢; exact h
theorem vRun_mono {c : List I} {i : In1} {most : Int} {f f' : Nat} {r : R1 × Err} (hf : f ≤ f') (h : JaB f c i most = some r) : JaB f' c i most = some r := by
 unfold JaB at h ⊢
 obtain ⟨x, hx, h⟩ := Option.bind_eq_some_iff.1 h
 rw [hx, Option.bind_some]
 by_cases q : x.isSome = true
 ·rw [if_pos q] at h ⊢; exact h
 ·rw [if_neg q] at h ⊢
  obtain ⟨s, hs, h⟩ := Option.bind_eq_some_iff.1 h
  rw [run_mono f f' _ _ _ hf hs, Option.bind_some]; exact h
theorem awake0 : JaD 10 = some true := by decide +kernel
theorem awake_eq' {n : Nat} (hn : 10 ≤ n) : JaD n = some true := by
 have h := awake0
 unfold JaD at h ⊢
 obtain ⟨x, hx, h⟩ := Option.bind_eq_some_iff.1 h
 rw [vRun_mono hn hx, Option.bind_some]; exact h
def m0 (i : In2) (most : Int) : M1 := ⟨inp i, most, ⟨i.Path, i.Query, [], [], [], -1, 0, 0, false, false⟩, [], List.replicate 512 z0⟩
theorem m0_ok {i : In2} {most : Int} (h : IOK i) : MOK 0 (m0 i most) :=
 ⟨⟨i, h, rfl⟩, ⟨⟨Nat.le_refl _, (fun x hx => by cases hx)⟩, Nat.le_refl _, Nat.le_refl _⟩, (fun v hv => by cases hv), (fun v hv => by rw [show v = z0 from (List.mem_replicate.1 hv).2]; exact z0_ok _), List.length_replicate, Nat.le_refl _, Int.le_refl _, (by show (0 : Int) ≤ 40 * ((0 : Nat) : Int); omega), by omega⟩
theorem runP_ok {c : List I} (hc : c.length ≤ 700) (hS : ∀ x ∈ c, x.S.length ≤ 100000) : ∀ (f k : Nat) (d : Int) (m : M1), At c k d → MOK k m → (m.stack.length : Int) = d → ROK 800 (runP c f k m).1
 | 0, k, d, m, hA, hM, hd => hM.r.up (by have := hM.k; omega)
 | f + 1, k, d, m, hA, hM, hd => by
  have hk := hA.1
  obtain ⟨t, l, he, htd, h12, hnx⟩ := hA.next
  have hx := hS c[k] (List.getElem_mem hk)
  rw [runP, List.getElem?_eq_getElem hk]
  simp only
  cases e3 : (stepP m (k : Int) c[k]).2.1 with
  | some c1 => exact ⟨⟨Nat.zero_le _, fun x hx => by cases hx⟩, Nat.zero_le _, Nat.zero_le _⟩
  | none =>
   simp only
   have eP : stepP m (k : Int) c[k] = ((stepP m (k : Int) c[k]).1, none, (stepP m (k : Int) c[k]).2.2) := by rw [← e3]
   have hK := keep hM (by omega) hx he (by omega) eP
   by_cases qn : (stepP m (k : Int) c[k]).1 = -1
   ·rw [if_pos qn]; exact hK.ok.r.up (by omega)
   ·rw [if_neg qn]
    have hlen := hK.len qn
    obtain ⟨k', hk', hkk, hA'⟩ : ∃ k' : Nat, (stepP m (k : Int) c[k]).1 = (k' : Int) ∧ k < k' ∧ At c k' (d + (l - t)) := by
     rcases hK.nx with e | ⟨n9, n12, e⟩ | ⟨hj, e⟩
     ·exact absurd e qn
     ·exact ⟨k + 1, by rw [e]; omega, by omega, (hnx n12).1 n9⟩
     ·have n12 : c[k].Op ≠ 12 := fun e => by unfold Rc.isJ at hj; rw [e] at hj; simp at hj
      obtain ⟨j1, j2, j3⟩ := (hnx n12).2 hj
      exact ⟨c[k].N.toNat, by rw [e]; omega, by omega, j3⟩
    have hkl := hA'.1
    rw [hk', Int.toNat_natCast]
    exact runP_ok hc hS f k' _ _ hA' (hK.ok.up (by omega) (by omega)) (by rw [hlen]; omega)
theorem Run_both {c : List I} {n : Nat} {i : In2} {most G : Int} (hn : 1000002 ≤ n) (hc : c.length ≤ 700) (hS : ∀ x ∈ c, x.S.length ≤ 100000) (hi : IOK i) (hG : Rc.depthOf c = some G) :
  ∃ r : R1 × Err, r = runP c 701 0 (m0 i most) ∧ r.2 ≠ some 0 ∧ ROK 800 r.1 ∧ (r.2 ≠ none → r.1 = zR) ∧ JaB n c (inp i) most = some r ∧ Jcq n (c.map Rc.cv) i most = some (r2 r.1, r.2.getD 0) := by
 obtain ⟨hA, _⟩ := at0 hG
 obtain ⟨⟨o, h1, h2⟩, ⟨w, h3, h4⟩⟩ := run_sim (n := n) hn hc hS hi 700 701 n n 0 0 most (m0 i most) (by omega) (by omega) (by omega) (by omega) hA (m0_ok hi) rfl rfl rfl
 have h5 := runP_ok hc hS 701 0 0 (m0 i most) hA (m0_ok hi) rfl
 have hck := Rc.Check45_pure hS
 have hdp := Rc.Depth_pure hS
 rw [hG] at hck hdp
 have h6 : (runP c 701 0 (m0 i most)).2 ≠ none → (runP c 701 0 (m0 i most)).1 = zR := by
  have : ∀ (f k : Nat) (m : M1), (runP c f k m).2 ≠ none → (runP c f k m).1 = zR := by
   intro f
   induction f with
   | zero => intro k m h; exact absurd rfl h
   | succ f ih =>
    intro k m h
    rw [runP] at h ⊢
    split
    ·rename_i q; rw [q] at h; exact absurd rfl h
    ·rename_i x q
     rw [q] at h
     simp only at h
     split
     ·rfl
     ·rename_i q2
      rw [q2] at h
      simp only at h
      split
      ·rename_i q3; rw [if_pos q3] at h; exact absurd rfl h
      ·rename_i q3; rw [if_neg q3] at h; exact ih _ _ h
  exact this _ _ _
 refine ⟨runP c 701 0 (m0 i most), rfl, ?_, h5, h6, ?_, ?_⟩
 ·unfold Fin2 at h4
  cases e : (runP c 701 0 (m0 i most)).2 with
  | none => simp
  | some v => rw [e] at h4; simpa using h4.2
 ·unfold JaB
  rw [hck, Option.bind_some, if_neg (by simp)]
  refine (congrArg (fun o => Option.bind o _) h1).trans ?_
  rw [Option.bind_some]
  unfold Fin1 at h2
  generalize runP c 701 0 (m0 i most) = p at *
  obtain ⟨p1, p2⟩ := p
  cases p2 with
  | none => obtain ⟨a, M, rfl, hM⟩ := h2; rw [Rt.el_go]; simp only [hM]
  | some v =>
   simp only at h2 h6
   rw [h2, h6 (by simp)]; rfl
 ·unfold Jcq
  rw [hdp, Option.bind_some, if_neg (by simp), show Jco i = some (⟨i.Path, i.Query, [], [], [], (-1), 0, 0, false, false⟩ : R2) from rfl, Option.bind_some, chk_bind (by decide)]
  have e0 : w2 (m0 i most) 0 = ⟨[], List.replicate (Int.toNat 512) ((⟨0, 0, ([] : Str), false⟩ : Ji) : Ji), 0, r2 (m0 i most).result, false, 0⟩ := by
   unfold w2 m0
   dsimp only
   rw [List.map_replicate]; rfl
  rw [show ((0 : Nat) : Int) = 0 from rfl, e0] at h3
  generalize List.replicate (Int.toNat 512) ((⟨0, 0, ([] : Str), false⟩ : Ji) : Ji) = SL at h3 ⊢
  refine (congrArg (fun o => Option.bind o _) h3).trans ?_
  rw [Option.bind_some]
  unfold flat
  dsimp only
  unfold Fin2 at h4
  generalize runP c 701 0 (m0 i most) = p at *
  obtain ⟨p1, p2⟩ := p
  cases p2 with
  | none =>
   simp only at h4
   rw [if_neg (by simpa using h4.1), h4.2]; rfl
  | some v =>
   simp only at h4 h6
   rw [if_pos (by simpa [h4.1] using h4.2), h4.1, h6 (by simp)]; rfl
end Rt.Rv
set_option linter.unusedVariables false
set_option linter.unusedSimpArgs false
open Go Go.SL Go.Proofs Pl Vary
namespace Rt.Rv
theorem runP_go {c : List I} {f i k : Nat} {m M : M1} {x : I} (hx : c[i]? = some x) (h : stepP m (i : Int) x = ((k : Int), none, M)) : runP c (f + 1) i m = runP c f k M := by
 rw [runP, hx]
 simp only [h]
 rw [if_neg (by omega), Int.toNat_natCast]
theorem runP_stop {c : List I} {f i : Nat} {m M : M1} {x : I} (hx : c[i]? = some x) (h : stepP m (i : Int) x = (-1, none, M)) : runP c (f + 1) i m = (M.result, none) := by
 rw [runP, hx]
 simp only [h, if_true]
def put (m : M1) (s : Int) (l : List V1) : M1 := wT (wS m s) l
theorem pushP_plain {m : M1} {v : V1} {o : Bool} (hv : v.s.length ≤ 2048) (ho : ¬ (o = true ∧ v.kind = 1)) : pushP m v o = (none, wT m (m.stack ++ [v])) := by
 unfold pushP
 rw [if_neg (by omega), if_neg ho]
theorem pushP_text {m : M1} {v : V1} (hv : v.s.length ≤ 2048) (hk : v.kind = 1) (hs : m.result.Steps + ((v.s.length / 64 : Nat) : Int) ≤ m.most) : pushP m v true = (none, wT (wS m (m.result.Steps + ((v.s.length / 64 : Nat) : Int))) (m.stack ++ [v])) := by
 unfold pushP
 rw [if_neg (by omega), if_pos ⟨rfl, hk⟩, if_neg (by omega)]
theorem st_push {m : M1} {k : Nat} {N : Int} {S : Str} (hs : m.result.Steps + 1 ≤ m.most) : stepP m (k : Int) ⟨1, N, S⟩ = (((k + 1 : Nat) : Int), none, put m (m.result.Steps + 1) (m.stack ++ [nm' N])) := by
 unfold stepP
 rw [if_neg (by omega), if_pos rfl, pushP_plain (by simp [nm']) (by simp)]
 rfl
theorem st_op {m : M1} {k : Nat} {N : Int} {S : Str} {st : List V1} {a b v : V1} (hm : m.stack = st ++ [a, b]) (hs : m.result.Steps + 1 ≤ m.most) (hv : opP S a b = (v, true)) (hl : v.s = []) : stepP m (k : Int) ⟨7, N, S⟩ = (((k + 1 : Nat) : Int), none, put m (m.result.Steps + 1) (st ++ [v])) := by
 have e1 : top m = b := by unfold top; rw [hm]; simp
 have e2 : (pop m).stack = st ++ [a] := by show m.stack.dropLast = _; rw [hm, List.dropLast_append_of_ne_nil (by simp)]; rfl
 have e3 : top (pop m) = a := by unfold top; rw [e2]; simp
 have e4 : (pop (pop (wS m (m.result.Steps + 1)))).stack = st := by show m.stack.dropLast.dropLast = st; have : m.stack.dropLast = st ++ [a] := e2; rw [this]; simp
 unfold stepP
 rw [if_neg (by omega), if_neg (by simp), if_neg (by simp), if_neg (by simp), if_neg (by simp), if_neg (by simp), if_neg (by simp), if_pos rfl]
 simp only [e1, e3, hv, if_true]
 by_cases q : v.kind = 1
 ·rw [pushP_text (by rw [hl]; simp) q (by rw [hl]; show m.result.Steps + 1 + 0 ≤ m.most; omega), e4, hl]
  unfold nxP put wS wT pop wT
  simp
 ·rw [pushP_plain (by rw [hl]; simp) (by simp [q]), e4]
  rfl
theorem st_call {m : M1} {k : Nat} {N : Int} {S : Str} {st : List V1} {a v : V1} (hm : m.stack = st ++ [a]) (hs : m.result.Steps + 1 ≤ m.most) (hv : callP S a m.inZ = (v, true)) (hl : v.s.length < 64) : stepP m (k : Int) ⟨6, N, S⟩ = (((k + 1 : Nat) : Int), none, put m (m.result.Steps + 1) (st ++ [v])) := by
 have e1 : top m = a := by unfold top; rw [hm]; simp
 have e4 : (pop (wS m (m.result.Steps + 1))).stack = st := by show m.stack.dropLast = st; rw [hm]; simp
 have e5 : ((v.s.length / 64 : Nat) : Int) = 0 := by omega
 unfold stepP
 rw [if_neg (by omega), if_neg (by simp), if_neg (by simp), if_neg (by simp), if_neg (by simp), if_neg (by simp), if_pos rfl]
 simp only [e1, hv, if_true]
 by_cases q : v.kind = 1
 ·rw [pushP_text (by omega) q (by rw [e5]; show m.result.Steps + 1 + 0 ≤ m.most; omega), e4, e5]
  unfold nxP put wS wT pop wT
  simp
 ·rw [pushP_plain (by omega) (by simp [q]), e4]
  rfl
theorem call_text {x : Int} {j : In1} (h0 : -1099511627776 ≤ x) (h1 : x ≤ 1099511627776) : callP [116, 101, 120, 116] ⟨2, x, [], false⟩ j = (tx' (Go.Lib.itoa x), true) := by
 unfold callP JK
 rw [if_pos (by decide), if_neg (by simp), if_pos (by decide), show (⟨2, x, [], false⟩ : V1).n = x from rfl, itoaM_eq h0 h1]; rfl
theorem st_tag {m : M1} {k : Nat} {N : Int} {st : List V1} {v : V1} (hm : m.stack = st ++ [v]) (hs : m.result.Steps + 1 ≤ m.most) (hv : v.kind = 1) : stepP m (k : Int) ⟨11, N, [116, 97, 103]⟩ = (((k + 1 : Nat) : Int), none, wR (put m (m.result.Steps + 1) st) { (wS m (m.result.Steps + 1)).result with Tags := onceF m.result.Tags v.s }) := by
 have e1 : top m = v := by unfold top; rw [hm]; simp
 have e4 : pop (wS m (m.result.Steps + 1)) = put m (m.result.Steps + 1) st := by unfold pop put; congr 1; show m.stack.dropLast = st; rw [hm]; simp
 have en : needP [116, 97, 103] = 1 := by decide
 have ea : ∀ r : R1, actP r [116, 97, 103] v = ({ r with Tags := onceF r.Tags v.s }, none) := fun r => by
  unfold actP
  rw [if_neg (by rw [en, hv]; simp), if_neg (by decide), if_neg (by decide), if_pos rfl]
 unfold stepP
 rw [if_neg (by omega), if_neg (by simp), if_neg (by simp), if_neg (by simp), if_neg (by simp), if_neg (by simp), if_neg (by simp), if_neg (by simp), if_neg (by simp), if_neg (by simp), if_neg (by simp), if_pos rfl, if_neg (by rw [en]; decide), e1, e4]
 unfold actS
 rw [ea, if_neg (by simp), if_neg (show ¬ ([116, 97, 103] : Str) = [100, 101, 110, 121] by decide)]
 rfl
theorem st_halt {m : M1} {k : Nat} {N : Int} {S : Str} (hs : m.result.Steps + 1 ≤ m.most) : stepP m (k : Int) ⟨12, N, S⟩ = (-1, none, wS m (m.result.Steps + 1)) := by
 unfold stepP
 rw [if_neg (by omega), if_neg (by simp), if_neg (by simp), if_neg (by simp), if_neg (by simp), if_neg (by simp), if_neg (by simp), if_neg (by simp), if_neg (by simp), if_neg (by simp), if_neg (by simp), if_neg (by simp)]
theorem op_mul {a b : Int} (a0 : -1099511627776 ≤ a) (a1 : a ≤ 1099511627776) (b0 : -1099511627776 ≤ b) (b1 : b ≤ 1099511627776) : opP [42] ⟨2, a, [], false⟩ ⟨2, b, [], false⟩ = (nm' (a * b), true) := by
 unfold opP Jo
 rw [if_neg (by simp), if_neg (by decide), if_neg (by decide), if_pos (by decide), if_neg (by simp), prod_eq a0 a1 b0 b1]; rfl
theorem op_add {a b : Int} (a0 : -1099511627776 ≤ a) (a1 : a ≤ 1099511627776) (b0 : -1099511627776 ≤ b) (b1 : b ≤ 1099511627776) : opP [43] ⟨2, a, [], false⟩ ⟨2, b, [], false⟩ = (nm' (a + b), true) := by
 unfold opP Jo
 rw [if_neg (by simp), if_pos (by decide), if_neg (by simp), chk_bind (by show InI (a + b); constructor <;> omega)]; rfl
theorem op_sub {a b : Int} (a0 : -1099511627776 ≤ a) (a1 : a ≤ 1099511627776) (b0 : -1099511627776 ≤ b) (b1 : b ≤ 1099511627776) : opP [45] ⟨2, a, [], false⟩ ⟨2, b, [], false⟩ = (nm' (a - b), true) := by
 unfold opP Jo
 rw [if_neg (by simp), if_neg (by decide), if_pos (by decide), chk_bind (by show InI (a - b); constructor <;> omega)]; rfl
theorem nm_id {n : Int} (h0 : -1099511627776 ≤ n) (h1 : n ≤ 1099511627776) : nm' n = ⟨2, n, [], false⟩ := by
 unfold nm' clip; congr 1; omega
end Rt.Rv
