/- The library: facts about walks, over any program. -/
import Derived.Test.YtiaaooopklhobaaGreatDoorLE
import Derived.SizedLaws
import Derived.ChangeArms
import Derived.DataReads
set_option linter.unusedVariables false
set_option linter.unusedSimpArgs false
set_option linter.unusedSectionVars false
namespace Go.SL
open Go
abbrev Str := List UInt8
abbrev Rp (α : Type) := Hp → List Value → α → Prop
structure qha {α : Type} (n : Nat) (R : Rp α) : Prop where
 mono : ∀ {K K' : Hp} {cs : List Value} {a : α}, K.Le K' → R K cs a → R K' cs a
 len : ∀ {K : Hp} {cs : List Value} {a : α}, R K cs a → cs.length = n
 one : ∀ {K : Hp} {cs : List Value} {a : α}, R K cs a → ∀ v ∈ cs, v.oneCell' = true
def qxk (k : IntKind) : Rp Int := fun _ cs a => cs = [.int k a] ∧ InK k a
def qwc : Rp Bool := fun _ cs b => cs = [.bool b]
def strR : Rp Str := fun _ cs l => cs = [str l] ∧ l.length ≤ maxLen
structure LiR {α : Type} (sz : Nat) (R : Rp α) (K : Hp) (a : Option Addr) (l : List α) : Prop where
 ex : ∃ css, RdS K a sz css ∧ css.length = l.length ∧ ∀ (i : Nat) (c : List Value) (x : α), css[i]? = some c → l[i]? = some x → R K c x
def slR {α : Type} (sz : Nat) (R : Rp α) : Rp (List α) := fun K cs l => ∃ a cap, cs = [.slice a l.length cap] ∧ l.length ≤ cap ∧ cap ≤ maxLen ∧ LiR sz R K a l
theorem LiR.mono {α : Type} {sz : Nat} {R : Rp α} (hR : qha sz R) {K K' : Hp} {a : Option Addr} {l : List α} (hk : K.Le K') (h : LiR sz R K a l) : LiR sz R K' a l :=
 let ⟨css, h1, h2, h3⟩ := h.ex; ⟨css, h1.mono hk, h2, fun i c x hc hx => hR.mono hk (h3 i c x hc hx)⟩
theorem LiR.has {α : Type} {sz : Nat} {R : Rp α} {K : Hp} {a : Option Addr} {l : List α} (h : LiR sz R K a l) (hn : 0 < l.length) : Has a :=
 let ⟨_, h1, h2, _⟩ := h.ex; h1.has (by omega)
theorem LiR.nil {α : Type} {sz : Nat} {R : Rp α} {K : Hp} {a : Option Addr} : LiR sz R K a [] := ⟨[], .nil, rfl, fun _ _ _ h => by simp at h⟩
theorem LiR.flat {α : Type} {sz : Nat} {R : Rp α} {enc : α → List Value} (hf : ∀ K cs a, R K cs a → cs = enc a) {K : Hp} {a : Option Addr} {l : List α} (h : LiR sz R K a l) : RdS K a sz (l.map enc) := by
 obtain ⟨css, h1, h2, h3⟩ := h.ex
 have : css = l.map enc := by
  apply List.ext_getElem?
  intro i
  rcases Nat.lt_or_ge i css.length with hi | hi
  ·have e1 : css[i]? = some css[i] := List.getElem?_eq_getElem hi
   have e2 : l[i]? = some (l[i]'(by omega)) := List.getElem?_eq_getElem (by omega)
   rw [List.getElem?_map, e1, e2, hf _ _ _ (h3 i _ _ e1 e2)]; rfl
  ·rw [List.getElem?_eq_none hi, List.getElem?_eq_none (by simp; omega)]
 rw [← this]; exact h1
theorem qtj : qha 1 strR := ⟨fun _ h => h, fun h => by simp [h.1], fun h v hv => by rw [h.1] at hv; simp at hv; subst hv; rfl⟩
section
variable {P : Program} {Bd : Nat}
def qtk {H : Type} (Bd : Nat) (P : Program) (t : TypeId) (d : DataW H) : Prop := ∀ n ∈ DataW.weights P t d, n ≤ Bd
theorem qe6 {H : Type} {e : TypeId} : ∀ {l : List (DataW H)} {d : DataW H} {n : Nat}, d ∈ l → n ∈ d.weights P e → n ∈ DataW.weightsAll P e l
 | x :: l, d, n, hd, hn => by
  simp only [DataW.weightsAll, List.mem_append]
  rcases List.mem_cons.1 hd with rfl | hd
  ·exact .inl hn
  ·exact .inr (qe6 hd hn)
def Rdr {α : Type} (Bd : Nat) (P : Program) (m : Nat) (t : TypeId) (R : Rp α) : Prop :=
 ∀ {H : Type} (enc : TypeId × Value → H) (w : World) (spare : Nat → Bool) (held : Bool) (fuel : Nat) (cs : List Value) (x : DataW H × List MemPlace),
  fuel ≤ m → DataW.trod enc P w 0 spare held fuel t cs = some x → qtk Bd P t x.1 → ∃ a, R (old w) cs a
theorem qpa {k : IntKind} {n : Int} (h : (Lit.int k n).wf = true) : InK k n := by
 cases k <;> simp [Lit.wf, IntKind.min, IntKind.max, IntKind.bits, IntKind.signed] at h <;> simp only [InK] <;> omega
theorem Rdr.int {m : Nat} {t : TypeId} {k : IntKind} (ht : P.underlying t = some (.int k)) : Rdr Bd P m t (qxk k) := fun enc w sp held fuel cs x _ h _ =>
 let ⟨n, e, _, hw⟩ := DataW.trod_int ht h; ⟨n, e, qpa hw⟩
theorem Rdr.bool {m : Nat} {t : TypeId} (ht : P.underlying t = some .bool) : Rdr Bd P m t qwc := fun enc w sp held fuel cs x _ h _ =>
 let ⟨b, e, _⟩ := DataW.trod_bool ht h; ⟨b, e⟩
theorem Rdr.str {m : Nat} {t : TypeId} (ht : P.underlying t = some .string) : Rdr Bd P m t strR := fun enc w sp held fuel cs x _ h _ =>
 let ⟨s, e, _, hs⟩ := DataW.trod_string ht h; ⟨s.data.toList, by simp [e, SL.str], by simpa using hs⟩
theorem Rdr.le {α : Type} {m m' : Nat} {t : TypeId} {R : Rp α} (h : Rdr Bd P m' t R) (hm : m ≤ m') : Rdr Bd P m t R := fun enc w sp held fuel cs x hf ht hz => h enc w sp held fuel cs x (by omega) ht hz
theorem cells?_get {w : World} {a : Addr} {n : Nat} {cs : List Value} (h : w.cells? 0 a n = some cs) : cs.length = n ∧ ∀ j v, cs[j]? = some v → w.cell? (a.add j) = some v := by
 obtain ⟨_, h1, h2⟩ := World.cells?_some h
 refine ⟨h1, fun j v hv => ?_⟩
 have hj : j < n := by rw [← h1]; exact (List.getElem?_eq_some_iff.1 hv).1
 rw [h2 j hj]; exact hv
theorem Rdr.slice {α : Type} {m : Nat} {t e sz : Nat} {R : Rp α} (ht : P.underlying t = some (.slice e)) (hsz : P.cellsOf e = sz) (h0 : 0 < sz) (hR : qha sz R) (hr : Rdr Bd P m e R) : Rdr Bd P (m + 1) t (slR sz R) := by
 intro H enc w sp held fuel cs x hf h hz
 rcases DataW.trod_slice ht h with ⟨e0, _⟩ | ⟨a, len, cap, elems, rest, n, hm, rfl, rfl, hb, hl, hmx, hlen, hel, _, _⟩
 ·exact ⟨[], none, 0, by simp [e0], by simp, by simp, .nil⟩
 rw [hsz] at hel
 have each : ∀ i, i < len → ∃ l y, w.cells? 0 (a.add (i * sz)) sz = some l ∧ R (old w) l y := fun i hi => by
  have := hel i hi
  rw [List.getElem?_eq_getElem (by omega)] at this
  obtain ⟨l, h1, h2⟩ := Option.bind_eq_some_iff.1 this
  obtain ⟨y, hy⟩ := hr enc w sp held n l _ (by omega) h2 (fun q hq => hz q (by
   simp only [DataW.weights, ht, List.mem_cons, List.mem_append]
   exact .inr (.inl (qe6 (List.mem_map.2 ⟨_, List.getElem_mem (by omega), rfl⟩) hq))))
  exact ⟨l, y, h1, hy⟩
 obtain ⟨l, css, hcl, hll, hcs⟩ : ∃ (l : List α) (css : List (List Value)), css.length = len ∧ l.length = len ∧ ∀ i, i < len → ∃ c y, css[i]? = some c ∧ l[i]? = some y ∧ w.cells? 0 (a.add (i * sz)) sz = some c ∧ R (old w) c y := by
  rename_i sp1 sp2; clear sp1 sp2 hz h hlen hl hel
  induction len with
  | zero => exact ⟨[], [], rfl, rfl, fun i hi => by omega⟩
  | succ len ih =>
   obtain ⟨l, css, h1, h2, h3⟩ := ih fun i hi => each i (by omega)
   obtain ⟨c, y, h4, h5⟩ := each len (by omega)
   refine ⟨l ++ [y], css ++ [c], by simp [h1], by simp [h2], fun i hi => ?_⟩
   rcases Nat.lt_or_ge i len with hi' | hi'
   ·obtain ⟨c', y', g1, g2, g3⟩ := h3 i hi'
    exact ⟨c', y', by rw [List.getElem?_append_left (by omega)]; exact g1, by rw [List.getElem?_append_left (by omega)]; exact g2, g3⟩
   ·have : i = len := by omega
    subst this
    exact ⟨c, y, by rw [List.getElem?_append_right (by omega)]; simp [h1], by rw [List.getElem?_append_right (by omega)]; simp [h2], h4, h5⟩
 refine ⟨l, some a, cap, by rw [hll], by omega, hmx, css, ⟨?_, ?_, ?_⟩, by omega, ?_⟩
 ·intro c hc
  obtain ⟨i, hi⟩ := List.getElem?_of_mem hc
  obtain ⟨c', y, g1, _, g3, _⟩ := hcs i (by rw [← hcl]; exact (List.getElem?_eq_some_iff.1 hi).1)
  rw [hi] at g1; cases g1
  exact (cells?_get g3).1
 ·intro c hc
  obtain ⟨i, hi⟩ := List.getElem?_of_mem hc
  obtain ⟨c', y, g1, _, _, g4⟩ := hcs i (by rw [← hcl]; exact (List.getElem?_eq_some_iff.1 hi).1)
  rw [hi] at g1; cases g1
  exact hR.one g4
 ·intro hne
  have hlen0 : 0 < len := by rw [← hcl]; exact List.length_pos_iff.2 hne
  obtain ⟨c0, y0, q1, q2, q3, q4⟩ := hcs 0 hlen0
  have hc0 := cells?_get q3
  obtain ⟨v0, hv0⟩ : ∃ v, c0[0]? = some v := ⟨c0[0]'(by omega), List.getElem?_eq_getElem (by omega)⟩
  have hcell := hc0.2 0 v0 hv0
  have ea : a.add (0 * sz) = a := by simp [Addr.add]
  have ea' : ∀ b : Addr, b.add 0 = b := fun b => by simp [Addr.add]
  rw [ea, ea'] at hcell
  obtain ⟨b, off, spot⟩ := a
  have hblk : ∃ c T fz, w.heap[b]? = some (.cells c T fz) ∧ spot = none := by
   simp only [World.cell?] at hcell
   split at hcell
   ·rename_i c T fz hw
    split at hcell
    ·cases hcell
    ·rename_i hs
     refine ⟨c, T, fz, hw, ?_⟩
     cases spot
     ·rfl
     ·simp at hs
   ·cases hcell
  obtain ⟨c, T, fz, hw, rfl⟩ := hblk
  refine ⟨b, off, c, T, fz, rfl, hw, fun i v hv => ?_⟩
  have hlens : ∀ c ∈ css, c.length = sz := fun c hc => by
   obtain ⟨i, hi⟩ := List.getElem?_of_mem hc
   obtain ⟨c', y, g1, _, g3, _⟩ := hcs i (by rw [← hcl]; exact (List.getElem?_eq_some_iff.1 hi).1)
   rw [hi] at g1; cases g1
   exact (cells?_get g3).1
  have hfl := qb8 hlens
  have hi : i < css.length * sz := by rw [← hfl]; exact (List.getElem?_eq_some_iff.1 hv).1
  have hq : i / sz < len := by rw [← hcl]; exact Nat.div_lt_of_lt_mul (by rw [Nat.mul_comm]; exact hi)
  obtain ⟨c', y, g1, _, g3, _⟩ := hcs (i / sz) hq
  have hg := cells?_get g3
  have hmod : i % sz < c'.length := by rw [hg.1]; exact Nat.mod_lt _ h0
  have hv' := qdr hlens g1 (i % sz) _ (List.getElem?_eq_getElem hmod)
  have hdm : i / sz * sz + i % sz = i := by rw [Nat.mul_comm]; exact Nat.div_add_mod i sz
  rw [hdm, hv] at hv'
  have := hg.2 (i % sz) v (by rw [List.getElem?_eq_getElem hmod]; exact hv'.symm)
  rw [qbj, qbj, Nat.add_assoc, hdm] at this
  simpa [World.cell?, hw] using this
 ·intro i c x hc hx
  obtain ⟨c', y, g1, g2, _, g4⟩ := hcs i (by rw [← hcl]; exact (List.getElem?_eq_some_iff.1 hc).1)
  rw [hc] at g1; cases g1
  rw [hx] at g2; cases g2
  exact g4
theorem qpb {H : Type} {enc : TypeId × Value → H} {w : World} {sp : Nat → Bool} {held : Bool} {fuel m : Nat} {t : TypeId} {cs : List Value} {x : DataW H × List MemPlace} {fs : Array Field}
  (ht : P.underlying t = some (.struct fs)) (hf : fuel ≤ m + 1) (h : DataW.trod enc P w 0 sp held fuel t cs = some x) (hz : qtk Bd P t x.1) :
  cs.length = P.cellsOf t ∧ ∀ (i : Nat) (f : Field) {α : Type} {R : Rp α}, fs[i]? = some f → Rdr Bd P m f.type R → ∃ a, R (old w) ((cs.drop f.offset).take (P.cellsOf f.type)) a := by
 obtain ⟨xs, n, hn, hx, hl, hxl, hf'⟩ := DataW.trod_struct ht h
 refine ⟨hl, fun i f α R hi hr => ?_⟩
 have hlt : i < xs.length := by rw [hxl]; exact (Array.getElem?_eq_some_iff.1 hi).1
 have := hf' i f hi
 rw [List.getElem?_eq_getElem hlt] at this
 refine hr enc w sp held n _ _ (by omega) this fun q hq => hz q ?_
 rw [hx]
 simp only [DataW.weights, ht]
 exact DataW.weights_mem_each (j := i) (by simp [hi]) (by rw [List.getElem?_map, List.getElem?_eq_getElem hlt]; rfl) q hq
theorem qtl {H : Type} {enc : TypeId × Value → H} {w : World} {sp : Nat → Bool} {held : Bool} {fuel n cap : Nat} {t e : TypeId} {cs : List Value} {x : DataW H × List MemPlace} {a : Option Addr} (ht : P.underlying t = some (.slice e)) (hb : Nat.ble 1 (P.bytesOf e) = true)
  (h : DataW.trod enc P w 0 sp held fuel t cs = some x) (hz : qtk Bd P t x.1) (hc : cs = [.slice a n cap]) : n ≤ Bd := by
 rcases DataW.trod_slice ht h with ⟨e0, _⟩ | ⟨a', len, cap', elems, rest, m, hm, rfl, rfl, _, hl, hmx, hlen, _, _, _⟩
 ·rw [e0] at hc; simp at hc; omega
 ·simp at hc
  have := hz ((elems.length + rest.length) * P.bytesOf e) (by simp [DataW.weights, ht])
  have hb' := Nat.le_of_ble_eq_true hb
  have h2 : (elems.length + rest.length) * 1 ≤ (elems.length + rest.length) * P.bytesOf e := Nat.mul_le_mul_left _ hb'
  omega
end
open Go
abbrev Err := Option Int
inductive Fl (R S : Type) where
 | ret (r : R)
 | go (s : S)
def lim : Nat := 68719476736
def ck (n : Int) : Option Int := if -9223372036854775808 ≤ n ∧ n ≤ 9223372036854775807 then some n else none
def ix {α : Type} (l : List α) (i : Int) : Option α := if 0 ≤ i then l[i.toNat]? else none
def app {α : Type} (l x : List α) : Option (List α) := if l.length + x.length ≤ lim then some (l ++ x) else none
def sub? {α : Type} (l : List α) (lo hi : Int) : Option (List α) := if 0 ≤ lo ∧ lo ≤ hi ∧ hi ≤ l.length then some ((l.drop lo.toNat).take (hi - lo).toNat) else none
def set? {α : Type} (l : List α) (i : Int) (x : α) : Option (List α) := if 0 ≤ i ∧ i < l.length then some (l.set i.toNat x) else none
def quo (a b : Int) : Option Int := if b = 0 then none else ck (a.tdiv b)
def lk {α : Type} (l : List α) : Option Unit := if l.length ≤ lim then some () else none
def qj5 (n : Int) : UInt8 := UInt8.ofNat (n % 256).toNat
section
variable {α β : Type} {r : β}
theorem bnd {m : Option α} {f : α → Option β} (h : m.bind f = some r) : ∃ x, m = some x ∧ f x = some r := by
 cases m with
 | none => cases h
 | some x => exact ⟨x, rfl, h⟩
theorem si {a b : α} (h : some a = some b) : a = b := by cases h; rfl
def chk (p : Prop) [Decidable p] : Option Unit := if p then some () else none
abbrev InI (n : Int) : Prop := -9223372036854775808 ≤ n ∧ n ≤ 9223372036854775807
theorem qax {p : Prop} [Decidable p] {f : Unit → Option β} (h : (chk p).bind f = some r) : p ∧ f () = some r := by
 unfold chk at h; split at h
 ·rename_i hk; exact ⟨hk, h⟩
 ·cases h
@[simp] theorem qwd {p : Prop} [Decidable p] (h : p) : chk p = some () := by unfold chk; rw [qx2 h]
def Fl.el {R S : Type} (s : Fl R S) (f : R → Option β) (g : S → Option β) : Option β := match s with
 | .ret r => f r
 | .go t => g t
theorem elg {R S : Type} {t : S} {f : R → Option β} {g : S → Option β} (h : (Fl.go t).el f g = some r) : g t = some r := h
theorem ift {c : Bool} {A B : Option β} (h : c = true) (hm : (if c = true then A else B) = some r) : A = some r := by rw [qx2 h] at hm; exact hm
theorem qbd {c : Bool} {A B : Option β} (h : c = false) (hm : (if c = true then A else B) = some r) : B = some r := by rw [qx1 (by rw [h]; decide)] at hm; exact hm
theorem qc1 {a b : Bool} (h : a = true) (k : b = true) : (a && b) = true := by rw [h, k]; rfl
theorem qbh {a b : Bool} (h : a = false) : (a && b) = false := by rw [h]; rfl
theorem qc2 {a b : Bool} (h : a = true) (k : b = false) : (a && b) = false := by rw [h, k]; rfl
theorem qco {a b : Bool} (h : a = true) : (a || b) = true := by rw [h]; rfl
theorem qi2 {a b : Bool} (h : a = false) (k : b = true) : (a || b) = true := by rw [h, k]; rfl
theorem qf1 {a b : Bool} (h : a = false) (k : b = false) : (a || b) = false := by rw [h, k]; rfl
theorem qgu {a : Bool} (h : a = false) : (!a) = true := by rw [h]; rfl
theorem qdx {a : Bool} (h : a = true) : (!a) = false := by rw [h]; rfl
theorem ixb {l : List α} {i : Int} {f : α → Option β} (h : (ix l i).bind f = some r) : ∃ x, 0 ≤ i ∧ l[i.toNat]? = some x ∧ f x = some r := by
 unfold ix at h; split at h
 ·rename_i hk
  obtain ⟨x, h1, h2⟩ := bnd h
  exact ⟨x, hk, h1, h2⟩
 ·cases h
end
theorem ltx {α : Type} {l : List α} {i : Nat} (h : decide ((i : Int) < (l.length : Int)) = true) : ∃ x, l[i]? = some x ∧ l.drop i = x :: l.drop (i + 1) := by
 have hi : i < l.length := by simpa using h
 exact ⟨l[i], List.getElem?_eq_getElem hi, List.drop_eq_getElem_cons hi⟩
theorem lty {α : Type} {l : List α} {i : Nat} (h : decide ((i : Int) < (l.length : Int)) = false) : l.drop i = [] := by
 have hi : l.length ≤ i := by simpa using h
 exact List.drop_eq_nil_of_le hi
theorem cnt {α : Type} {l : List α} {i : Nat} {x : α} (h : l[i]? = some x) (hl : l.length ≤ lim) : InK .i64 ((i : Int) + 1) := by
 have := (List.getElem?_eq_some_iff.1 h).1
 simp only [lim] at hl
 simp only [InK]; omega
theorem ltm {α : Type} {l : List α} {i : Nat} {x : α} (h : l[i]? = some x) : l.length - (i + 1) < l.length - i := by
 have := (List.getElem?_eq_some_iff.1 h).1
 omega
theorem nn (n : Nat) : (0 : Int) ≤ n := Int.natCast_nonneg n
theorem ltn {n : Int} {i : Nat} (h : decide ((i : Int) < n) = true) : n.toNat - i = (n.toNat - (i + 1)) + 1 := by
 have : (i : Int) < n := by simpa using h
 omega
theorem lto {n : Int} {i : Nat} (h : decide ((i : Int) < n) = false) : n.toNat - i = 0 := by
 have : n ≤ (i : Int) := by simpa using h
 omega
theorem qk5 {n : Int} {i : Nat} (h : decide ((i : Int) < n) = true) (hn : InK .i64 n) : InK .i64 ((i : Int) + 1) := by
 have : (i : Int) < n := by simpa using h
 simp only [InK] at hn ⊢; omega
theorem qup {n : Int} {i : Nat} (h : decide ((i : Int) < n) = true) : n.toNat - (i + 1) < n.toNat - i := by
 have := ltn h; omega
abbrev eI (k : IntKind) (n : Int) : List Value := [.int k n]
abbrev eN (n : Int) : List Value := [.int .i64 n]
abbrev eB (b : Bool) : List Value := [.bool b]
abbrev eS (s : Str) : List Value := [str s]
abbrev eU (x : UInt8) : List Value := [.int .u8 (x.toNat : Int)]
theorem mp {α : Type} {enc : α → List Value} {l : List α} {i : Nat} {x : α} (h : l[i]? = some x) : (l.map enc)[i]? = some (enc x) := by simp [h]
abbrev RdL {α : Type} (enc : α → List Value) (K : Hp) (a : Option Addr) (sz : Nat) (l : List α) : Prop := RdS K a sz (l.map enc)
abbrev OwnL {α : Type} (enc : α → List Value) (a : Option Addr) (e sz cap : Nat) (l : List α) : HProp := OwnA a e sz cap (l.map enc)
theorem qea {α : Type} {enc : α → List Value} {K : Hp} {a : Option Addr} {sz i : Nat} {l : List α} {x : α} (h : RdL enc K a sz l) (hx : l[i]? = some x) : Has a :=
 h.has (by have := (List.getElem?_eq_some_iff.1 hx).1; simp; omega)
theorem qcz {α : Type} {a : Option Addr} {i : Nat} {l : List α} {x : α} (h : 0 < l.length → Has a) (hx : l[i]? = some x) : Has a :=
 h (by have := (List.getElem?_eq_some_iff.1 hx).1; omega)
theorem qwe {α : Type} {i : Int} {l : List α} {x : α} (h0 : 0 ≤ i) (hx : l[i.toNat]? = some x) : i < (l.length : Int) := by
 have := (List.getElem?_eq_some_iff.1 hx).1; omega
theorem qbp {α : Type} {i : Nat} {l : List α} {x : α} (hx : l[i]? = some x) : (i : Int) < (l.length : Int) := by
 have := (List.getElem?_eq_some_iff.1 hx).1; omega
theorem r0 {A : HProp} {L : List HProp} : Rem A (A :: L) L := .here
theorem r1 {A B : HProp} {L : List HProp} : Rem A (B :: A :: L) (B :: L) := .there .here
theorem r2 {A B C : HProp} {L : List HProp} : Rem A (B :: C :: A :: L) (B :: C :: L) := .there r1
theorem r3 {A B C D : HProp} {L : List HProp} : Rem A (B :: C :: D :: A :: L) (B :: C :: D :: L) := .there r2
theorem r4 {A B C D E : HProp} {L : List HProp} : Rem A (B :: C :: D :: E :: A :: L) (B :: C :: D :: E :: L) := .there r3
theorem r5 {A B C D E F : HProp} {L : List HProp} : Rem A (B :: C :: D :: E :: F :: A :: L) (B :: C :: D :: E :: F :: L) := .there r4
theorem r6 {A B C D E F G : HProp} {L : List HProp} : Rem A (B :: C :: D :: E :: F :: G :: A :: L) (B :: C :: D :: E :: F :: G :: L) := .there r5
theorem r7 {A B C D E F G H : HProp} {L : List HProp} : Rem A (B :: C :: D :: E :: F :: G :: H :: A :: L) (B :: C :: D :: E :: F :: G :: H :: L) := .there r6
theorem r8 {A B C D E F G H I : HProp} {L : List HProp} : Rem A (B :: C :: D :: E :: F :: G :: H :: I :: A :: L) (B :: C :: D :: E :: F :: G :: H :: I :: L) := .there r7
theorem r9 {A B C D E F G H I J : HProp} {L : List HProp} : Rem A (B :: C :: D :: E :: F :: G :: H :: I :: J :: A :: L) (B :: C :: D :: E :: F :: G :: H :: I :: J :: L) := .there r8
theorem m0 {α : Type} {a : α} {l : List α} : a ∈ a :: l := .head _
theorem m1 {α : Type} {a b : α} {l : List α} : a ∈ b :: a :: l := .tail _ m0
theorem m2 {α : Type} {a b c : α} {l : List α} : a ∈ b :: c :: a :: l := .tail _ m1
theorem m3 {α : Type} {a b c d : α} {l : List α} : a ∈ b :: c :: d :: a :: l := .tail _ m2
theorem m4 {α : Type} {a b c d e : α} {l : List α} : a ∈ b :: c :: d :: e :: a :: l := .tail _ m3
section
variable {P : Program} {K : Hp} {H H' : List HProp} {c : Value → Prop}
theorem qob {a : Bool} (h : (!a) = true) : a = false := by cases a; rfl; cases h
theorem qkr {a : Bool} (h : (!a) = false) : a = true := by cases a; cases h; rfl
theorem qj6 {x y : UInt8} {n m : Int} (e1 : n = x.toNat) (e2 : m = y.toNat) (h : c (.int .u8 ((x + y).toNat : Int))) : IntStep .u8 (n + m) c := by
 subst e1 e2
 have hw : IntKind.u8.wrap ((x.toNat : Int) + y.toNat) = ((x + y).toNat : Int) := by
  rw [UInt8.toNat_add]; simp only [IntKind.wrap, IntKind.bits, IntKind.signed]; simp
 exact ⟨by rw [hw]; exact h⟩
theorem qj7 {x y : UInt8} {n m : Int} (e1 : n = x.toNat) (e2 : m = y.toNat) (h : c (.int .u8 ((x - y).toNat : Int))) : IntStep .u8 (n - m) c := by
 subst e1 e2
 have hw : IntKind.u8.wrap ((x.toNat : Int) - y.toNat) = ((x - y).toNat : Int) := by
  have := x.toNat_lt; have := y.toNat_lt
  rw [UInt8.toNat_sub]; simp only [IntKind.wrap, IntKind.bits, IntKind.signed]; simp; omega
 exact ⟨by rw [hw]; exact h⟩
def qc3 (t : TypeId) (e : Err) : Value := match e with
 | none => .nilIface
 | some n => .iface t (.int .i64 n)
theorem qe7 {t u : TypeId} {ms : Array (String × TypeId)} {xo : Operand} {cv : Value} {e : Err} (ht : P.underlying t = some (.interface ms)) (h : c (.bool e.isNone)) : NStep P (.bin .eql t xo (.const cv) (qc3 u e) .nilIface) c := by
 cases e with
 | none => exact qtg ht h
 | some n => exact qkx ht h
theorem qa7 {t u : TypeId} {ms : Array (String × TypeId)} {xo : Operand} {cv : Value} {e : Err} (ht : P.underlying t = some (.interface ms)) (h : c (.bool e.isSome)) : NStep P (.bin .neq t xo (.const cv) (qc3 u e) .nilIface) c := by
 cases e with
 | none => exact qq7 ht h
 | some n => exact qj4 ht h
theorem qv5 (x : UInt8) : InK .i64 (x.toNat : Int) := by
 have := x.toNat_lt; simp only [InK]; omega
theorem qtm {t : TypeId} {xo yo : Operand} {k : IntKind} {a b : Int} (hb : b ≠ 0) (h : c (.int k (a.tmod b))) : NStep P (.bin .rem t xo yo (.int k a) (.int k b)) c :=
 NStep.mk _ (fun w => by simp [M.sem, eqGuard, binOp, Op.intDiv, hb]) h
theorem qpc {t : TypeId} {xo yo : Operand} {k : IntKind} {a b : Int} (hb : b ≠ 0) (hi : InK k (a.tdiv b)) (h : c (.int k (a.tdiv b))) : NStep P (.bin .quo t xo yo (.int k a) (.int k b)) c :=
 NStep.mk _ (fun w => by simp [M.sem, eqGuard, binOp, Op.intDiv, hb, qdq hi]) h
theorem qtn {n : Int} {x : UInt8} (h : n % 256 = (x.toNat : Int)) : IntKind.u8.wrap n = (x.toNat : Int) := by
 have := x.toNat_lt
 simp only [IntKind.wrap, IntKind.bits, IntKind.signed]; simp; omega
theorem quu (n : Int) : n % 256 = ((qj5 n).toNat : Int) := by
 unfold qj5
 have h1 : (n % 256).toNat < 256 := by omega
 rw [UInt8.toNat_ofNat']
 omega
theorem qto {src dst : TypeId} {k : IntKind} {n : Int} (ht : P.underlying dst = some (.int .u8)) (hs : (P.underlying src).isSome) (h : c (.int .u8 ((qj5 n).toNat : Int))) : NStep P (.conv src dst (.int k n)) c :=
 NStep.mk _ (fun w => by
  cases hu : P.underlying src with
  | none => simp [hu] at hs
  | some d => simp [M.sem, convert, run_underlying hu, run_underlying ht, Conv.intToInt, qtn (quu n)]) h
theorem qa0 {t : TypeId} {k : IntKind} {s : Str} {i : Int} {x : UInt8} (ht : P.underlying t = some .string) (h0 : 0 ≤ i) (hx : s[i.toNat]? = some x) (h : c (.int .u8 (x.toNat : Int))) : NStep P (.index t (str s) (.int k i)) c :=
 NStep.mk _ (fun w => by
  have : (⟨s.toArray⟩ : ByteArray)[i.toNat]? = some x := by
   have h1 := (List.getElem?_eq_some_iff.1 hx).1
   have h2 : i.toNat < (⟨s.toArray⟩ : ByteArray).size := by simpa [ByteArray.size] using h1
   rw [getElem?_pos (⟨s.toArray⟩ : ByteArray) i.toNat h2]
   have : s[i.toNat] = x := (List.getElem?_eq_some_iff.1 hx).2
   rw [← this]; rfl
  simp [M.sem, Instr.index, asIntOf, run_underlying ht, str, h0, this]) h
theorem qby {t : TypeId} {xo yo : Operand} {a b : Str} (hl : a.length + b.length ≤ lim) (h : c (str (a ++ b))) : NStep P (.bin .add t xo yo (str a) (str b)) c :=
 qtf (by simp only [lim] at hl; omega) h
end
open Go
structure ElT (P : Program) (t e sz : Nat) : Prop where
 ht : P.underlying t = some (.slice e)
 hsz : qbc P e = some sz
 hz : ∃ z, qbk P e = some z ∧ z.cells.size = sz
 hpos : 0 < sz
 hby : ∃ bytes, qej P e = some bytes ∧ bytes ≤ 2048
def zOK (P : Program) (e sz : Nat) : Bool := match qbk P e with
 | some z => z.cells.size == sz
 | none => false
def qw9 (P : Program) (e : Nat) : Bool := match qej P e with
 | some n => n ≤ 2048
 | none => false
theorem ElT.mk' {P : Program} {t e sz : Nat} (ht : P.underlying t = some (.slice e)) (hsz : qbc P e = some sz) (hz : zOK P e sz = true) (hp : Nat.ble 1 sz = true) (hb : qw9 P e = true) : ElT P t e sz := by
 refine ⟨ht, hsz, ?_, Nat.le_of_ble_eq_true hp, ?_⟩
 ·unfold zOK at hz; split at hz
  ·rename_i z h; exact ⟨z, h, by simpa using hz⟩
  ·cases hz
 ·unfold qw9 at hb; split at hb
  ·rename_i n h; exact ⟨n, h, by simpa using hb⟩
  ·cases hb
section
variable {P : Program} {K : Hp} {H H' : List HProp} {α : Type} {enc : α → List Value} {a : Option Addr} {t tx e ty sz cap : Nat} {l new : List α} {cs : Array Bool} {c : VP}
theorem qwf {n bytes : Nat} (hn : n ≤ lim) (hb : bytes ≤ 2048) : n * bytes ≤ 140737488355328 := by
 have := Nat.mul_le_mul hn hb
 simp only [lim] at this
 omega
theorem ap {x : Value} (hr : Rem (OwnL enc a e sz cap l) H H') (T : ElT P t e sz) (hs : qfz P K H' sz tx x (new.map enc)) (hl : l.length + new.length ≤ lim)
  (h : ∀ a' cap', (0 < (l ++ new).length → Has a') → c (.slice a' (l ++ new).length cap') K (OwnL enc a' e sz cap' (l ++ new) :: H')) :
  WStep P (.builtin .append #[t, tx] ty cs [.slice a l.length cap, x]) K H c := by
 obtain ⟨z, hz, hzs⟩ := T.hz
 obtain ⟨by_, hby, hbb⟩ := T.hby
 refine qh9 hr (by simp) T.ht T.hsz hz hzs T.hpos hby hs (qwf (by simpa using hl) hbb) (by simp only [List.length_map, lim] at hl ⊢; omega) fun a' cap' ha => ?_
 have := h a' cap' (by simpa using ha)
 rw [List.length_append] at this
 rw [List.length_map, List.length_map, ← List.map_append]
 exact this
theorem quv {n e' : Nat} (ht : P.underlying tx = some (.slice e')) (hr : RdL enc K a sz new) (hn : n = new.length) : qfz P K H sz tx (.slice a n cap) (new.map enc) :=
 qut ht hr (by simpa using hn)
theorem qme : ∀ (css : List (List Value)) (i sz : Nat) (y : List Value) (o : Nat) (vs : List Value) (cur : List Value), (∀ l ∈ css, l.length = sz) → (hi : i < css.length) → splice o vs css[i] = y → y.length = sz →
  o + vs.length ≤ sz → (∀ (j : Nat) (v : Value), css.flatten[j]? = some v → cur[j]? = some v) → css.flatten.length ≤ cur.length → ∀ (j : Nat) (v : Value), (css.set i y).flatten[j]? = some v → (splice (i * sz + o) vs cur)[j]? = some v := by
 intro css i sz y o vs cur hl hi hy hys ho hc hcl j v hv
 have hfl := qb8 hl
 have hl' : ∀ l ∈ css.set i y, l.length = sz := fun l hm => by
  rcases List.mem_or_eq_of_mem_set hm with h | h
  ·exact hl l h
  ·rw [h]; exact hys
 have hfl' := qb8 hl'
 have hsz0 : 0 < sz := by
  have : j < (css.set i y).flatten.length := (List.getElem?_eq_some_iff.1 hv).1
  rw [hfl'] at this
  rcases Nat.eq_zero_or_pos sz with h | h
  ·rw [h] at this; simp at this
  ·exact h
 have hj : j < css.length * sz := by have := (List.getElem?_eq_some_iff.1 hv).1; rw [hfl'] at this; simpa using this
 have hq : j / sz < css.length := Nat.div_lt_of_lt_mul (by rw [Nat.mul_comm]; exact hj)
 have hdm : j / sz * sz + j % sz = j := by rw [Nat.mul_comm]; exact Nat.div_add_mod j sz
 have hml : j % sz < sz := Nat.mod_lt _ hsz0
 have hbound : i * sz + o + vs.length ≤ cur.length := by
  have : (i + 1) * sz ≤ css.length * sz := Nat.mul_le_mul_right _ hi
  rw [Nat.succ_mul] at this
  omega
 rw [qct _ _ _ _ hbound]
 by_cases e : j / sz = i
 ·have h1 : (css.set i y)[j / sz]? = some y := by rw [e]; simp [hi]
  have h2 := qdr hl' h1 (j % sz)
  have h3 : y[j % sz]? = some v := by
   have hyl : j % sz < y.length := by omega
   have := h2 _ (List.getElem?_eq_getElem hyl)
   rw [hdm, hv] at this
   rw [List.getElem?_eq_getElem hyl]; exact this.symm
  have hci : css[i].length = sz := hl _ (List.getElem_mem hi)
  rw [← hy, qct _ _ _ _ (by omega)] at h3
  rw [e] at hdm
  by_cases c1 : j % sz < o
  ·rw [qx2 c1] at h3
   rw [qx2 (by omega)]
   refine hc j v ?_
   have := qdr hl (List.getElem?_eq_getElem hi) (j % sz) v h3
   rw [hdm] at this; exact this
  ·rw [qx1 c1] at h3
   rw [qx1 (by omega)]
   by_cases c2 : j % sz < o + vs.length
   ·rw [qx2 c2] at h3
    rw [qx2 (by omega)]
    rw [show j - (i * sz + o) = j % sz - o from by omega]; exact h3
   ·rw [qx1 c2] at h3
    rw [qx1 (by omega)]
    refine hc j v ?_
    have := qdr hl (List.getElem?_eq_getElem hi) (j % sz) v h3
    rw [hdm] at this; exact this
 ·have h1 : (css.set i y)[j / sz]? = some css[j / sz] := by rw [List.getElem?_set_ne (fun h => e h.symm)]; exact List.getElem?_eq_getElem hq
  have hlq : css[j / sz].length = sz := hl _ (List.getElem_mem hq)
  have h2 := qdr hl' h1 (j % sz) _ (List.getElem?_eq_getElem (by omega))
  rw [hdm, hv] at h2
  have h3 := qdr hl (List.getElem?_eq_getElem hq) (j % sz) _ (List.getElem?_eq_getElem (by omega))
  rw [hdm, ← h2] at h3
  have hcur := hc j v h3
  have hout : j < i * sz + o ∨ i * sz + o + vs.length ≤ j := by
   rcases Nat.lt_or_ge (j / sz) i with h | h
   ·left
    have : (j / sz + 1) * sz ≤ i * sz := Nat.mul_le_mul_right _ h
    rw [Nat.succ_mul] at this; omega
   ·right
    have : (i + 1) * sz ≤ j / sz * sz := Nat.mul_le_mul_right _ (by omega)
    rw [Nat.succ_mul] at this; omega
  rcases hout with h | h
  ·rw [qx2 h]; exact hcur
  ·rw [qx1 (by omega), qx1 (by omega)]; exact hcur
theorem qe8 {i o k n : Nat} {v : Value} {y : α} (x : α) (hr : Rem (OwnL enc a e sz cap l) H H') (ht : qbc P t = some n) (hx : l[i]? = some x) (hk : k = i * sz + o)
  (hv : cellsL v fun vs => n = vs.length ∧ allOne vs = true ∧ o + n ≤ sz ∧ splice o vs (enc x) = enc y ∧ (enc y).length = sz ∧ allOne (enc y) = true) (h : c undef K (OwnL enc a e sz cap (l.set i y) :: H')) :
  WStep P (.store t (eptr a k) v) K H c := by
 rw [qbm] at hv
 obtain ⟨h1, h2, h3, h4, h5, h6⟩ := hv
 subst hk
 refine ⟨fun Γ w s => ?_⟩
 obtain ⟨hl, ho, hA⟩ := (s.rem hr).own
 have hi : i < l.length := (List.getElem?_eq_some_iff.1 hx).1
 rcases hA with ⟨_, _, hn, _⟩ | ⟨b, cur, fz, hfz, rfl, k1, k2, k3, k4, s0⟩
 ·simp at hn; subst hn; simp at hi
 have him : i < (l.map enc).length := by simpa using hi
 have hge : (l.map enc)[i] = enc x := by
  have := (List.getElem?_eq_some_iff.1 hx).2
  simp [this]
 have hfl := qb8 hl
 have hb1 : (i + 1) * sz ≤ cap * sz := Nat.mul_le_mul_right _ (by simp at k2; omega)
 rw [Nat.succ_mul] at hb1
 obtain ⟨w', hrun, hs⟩ := Sat.storeCellsF (P := P) (fz := fz) v.cells.toList (i * sz + o) 0 cur.toList w (by simpa using s0) (by simp [k1]; simp at h1; omega) (qbn h2) (by simpa using hfz)
 refine ⟨_, w', undef, K, _, ?_, .inr ⟨rfl, rfl⟩, ?_, h⟩
 ·have hsz : v.cells.size = n := by rw [h1]; simp
  rw [qbt]
  simp [M.sem, Instr.storeAt, Instr.sureAddr, storeVar, qbi ht, hsz, hrun]
 ·have hset : (l.set i y).map enc = (l.map enc).set i (enc y) := by simp [List.map_set]
  show Sat Γ K (OwnA _ _ _ _ ((l.set i y).map enc) :: H') w'
  rw [hset]
  have hall : ∀ m ∈ (l.map enc).set i (enc y), m.length = sz ∧ ∀ v ∈ m, v.oneCell' = true := fun m hm => by
   rcases List.mem_or_eq_of_mem_set hm with h | h
   ·exact ⟨hl m h, ho m h⟩
   ·rw [h]; exact ⟨h5, qbn h6⟩
  refine hs.mkOwnF ?_ (fun m hm => (hall m hm).1) (fun m hm => (hall m hm).2) ?_ (by simpa using k2) k3 ?_
  ·rcases hfz with h | h
   ·exact .inl h
   ·rcases splice_len (i * sz + o + 0) v.cells.toList cur.toList with h' | h'
    ·right; rw [show (splice (i * sz + o + 0) v.cells.toList cur.toList).toArray.size = cur.toList.length from by simpa using h']; simpa using h
    ·simp [k1] at h'; simp at h1; omega
  ·rcases splice_len (i * sz + o + 0) v.cells.toList cur.toList with h | h
   ·rw [show (splice (i * sz + o + 0) v.cells.toList cur.toList).toArray.size = cur.size from by simpa using h]; exact k1
   ·simp at h; simp at h1; omega
  ·intro j u hu
   have := qme (l.map enc) i sz (enc y) o v.cells.toList cur.toList hl him (by rw [hge]; exact h4) h5 (by omega) (fun j v hv => by simpa using k4 j v hv) (by rw [hfl]; exact Nat.le_trans (Nat.mul_le_mul_right _ k2) (by simpa using k1)) j u hu
   simpa using this
theorem qng {Γ : World} {w : World} {i o : Nat} {x : α} {v : Value} (s : Sat Γ K (OwnL enc a e sz cap l :: H) w) (hx : l[i]? = some x) (hv : (enc x)[o]? = some v) :
  ∃ b, a = some ⟨b, 0, none⟩ ∧ w.cell? ⟨b, i * sz + o, none⟩ = some v := by
 obtain ⟨hl, ho, hA⟩ := s.own
 have hi : i < l.length := (List.getElem?_eq_some_iff.1 hx).1
 rcases hA with ⟨_, _, hn, _⟩ | ⟨b, cur, fz, hfz, rfl, k1, k2, k3, k4, s0⟩
 ·simp at hn; subst hn; simp at hi
 refine ⟨b, rfl, ?_⟩
 have := qdr hl (mp hx) o v hv
 have hc := k4 _ _ this
 have := qd3 (cs := cur.toList) (T := e) (fz := fz) (by simpa using s0.blk) (i * sz + o)
 rw [this]; simpa using hc
theorem qb2 {i o k : Nat} {x : α} {v : Value} {c : Value → Prop} (hr : Rem (OwnL enc a e sz cap l) H H') (ht : tyShape P t = some none) (hx : l[i]? = some x) (hv : (enc x)[o]? = some v) (hk : k = i * sz + o) (h : c v) :
  RStepS P (.load t (eptr a k)) K H c := by
 subst hk
 refine RStepS.mk v (fun Γ w s => ?_) h
 obtain ⟨b, rfl, hc⟩ := qng (s.rem hr) hx hv
 rw [qbt]
 simp [M.sem, Instr.loadAt, Instr.sureAddr, qb4 ht (by simpa using hc)]
theorem qj8 {i k : Nat} {x : α} {c : Value → Prop} (hr : Rem (OwnL enc a e sz cap l) H H') (ht : tyShape P t = some (some sz)) (hx : l[i]? = some x) (hl : (enc x).length = sz) (hk : k = i * sz) (h : c (.agg (enc x).toArray)) :
  RStepS P (.load t (eptr a k)) K H c := by
 subst hk
 refine RStepS.mk _ (fun Γ w s => ?_) h
 have s' := s.rem hr
 obtain ⟨hl', ho, hA⟩ := s'.own
 have hi : i < l.length := (List.getElem?_eq_some_iff.1 hx).1
 rcases hA with ⟨_, _, hn, _⟩ | ⟨b, cur, fz, hfz, rfl, _⟩
 ·simp at hn; subst hn; simp at hi
 rw [qbt]
 have := qbs (P := P) (a := ⟨b, 0 + i * sz, none⟩) (w := w) ht hl (fun j v hj => by
  obtain ⟨b', e1, hc⟩ := qng s' hx hj
  cases e1
  rw [qbj, Nat.zero_add]; exact hc)
 simp only [Nat.zero_add] at this
 simp [M.sem, Instr.loadAt, Instr.sureAddr, this]
theorem Sat.fz {Γ : World} {w : World} (hr : Rem (OwnL enc a e sz cap l) H H') (s : Sat Γ K H w) : ∃ K' : Hp, K.Le K' ∧ RdL enc K' a sz l ∧ Sat Γ K' H' w := (s.rem hr).ownFreeze
theorem Sat.lit {Γ : World} {w : World} {b : Nat} {cl : List Value} (s : Sat Γ K (Cells b e cl :: H) w) (hc : (l.map enc).flatten = cl) (hl : ∀ x ∈ l, (enc x).length = sz) (ho : allOne cl = true) (hlen : l.length ≤ lim) :
  Sat Γ K (OwnL enc (some ⟨b, 0, none⟩) e sz l.length l :: H) w := by
 have hone := qbn ho
 have hl' : ∀ m ∈ l.map enc, m.length = sz := by simpa using hl
 refine Sat.mkOwn (cur := cl.toArray) s hl' (fun m hm v hv => hone v (by rw [← hc]; exact List.mem_flatten.2 ⟨m, hm, hv⟩)) ?_ (by simp) (by simp only [lim] at hlen; simp only [maxLen]; omega) (fun j v hv => by rw [hc] at hv; simpa using hv)
 rw [← hc]
 have := qb8 hl'
 exact Nat.le_of_eq (by simpa using this.symm)
theorem Sat.nilO {Γ : World} {w : World} (s : Sat Γ K H w) : Sat Γ K (OwnL enc none e sz 0 [] :: H) w := s.mkNil
theorem qjd {root : Code} {n : Nat} {p : List Nat} {env : List Value} {Q : Exit → KP} (enc : α → List Value) (e sz : Nat) (h : CStep P root n p env K (OwnL enc none e sz 0 [] :: H) Q) : CStep P root n p env K H Q :=
 CStep.conv fun Γ w s => ⟨K, _, s.nilO, h⟩
theorem qcp {K0 : Hp} {F : HProp} {R : VP} {v : Value} (enc : α → List Value) (e sz : Nat) (h : EndStep K0 F R v K (OwnL enc none e sz 0 [] :: H)) : EndStep K0 F R v K H :=
 EndStep.conv fun Γ w s => ⟨K, _, s.nilO, h⟩
theorem qxa {f : FuncId} {args : List Value} (hf : ∀ a w, (callFunc f a).run P w = .ok (.enter f a) w) (enc : α → List Value) (e sz : Nat) (h : CallStep P f args K (OwnL enc none e sz 0 [] :: H) c) : CallStep P f args K H c :=
 CallStep.conv hf fun Γ w s => ⟨K, _, s.nilO, h⟩
end
end Go.SL
