/- How data lie in memory, and that arguments are read so. -/
import Derived.SizedLaws
import Derived.Test.YtpmdpondlmkojaaSL10
import Derived.ChangeArms
import Derived.DataReads
set_option linter.unusedVariables false
namespace Go.SL
open Go

abbrev Str := List UInt8
/-- How data of a type lie in memory: knowledge, cells, data. -/
abbrev Rp (α : Type) := Hp → List Value → α → Prop
/-- Such a predicate lasts; 'n' cells. -/
structure RpOK {α : Type} (n : Nat) (R : Rp α) : Prop where
  mono : ∀ {K K' : Hp} {cs : List Value} {a : α}, K.Le K' → R K cs a → R K' cs a
  len : ∀ {K : Hp} {cs : List Value} {a : α}, R K cs a → cs.length = n
  one : ∀ {K : Hp} {cs : List Value} {a : α}, R K cs a → ∀ v ∈ cs, v.oneCell' = true

def intR (k : IntKind) : Rp Int := fun _ cs a => cs = [.int k a] ∧ InK k a
def boolR : Rp Bool := fun _ cs b => cs = [.bool b]
def strR : Rp Str := fun _ cs l => cs = [str l] ∧ l.length ≤ maxLen
/-- The elements of a slice. -/
structure LiR {α : Type} (sz : Nat) (R : Rp α) (K : Hp) (a : Option Addr) (l : List α) : Prop where
  ex : ∃ css, RdS K a sz css ∧ css.length = l.length ∧ ∀ (i : Nat) (c : List Value) (x : α), css[i]? = some c → l[i]? = some x → R K c x
def slR {α : Type} (sz : Nat) (R : Rp α) : Rp (List α) := fun K cs l => ∃ a cap, cs = [.slice a l.length cap] ∧ l.length ≤ cap ∧ cap ≤ maxLen ∧ LiR sz R K a l

theorem LiR.mono {α : Type} {sz : Nat} {R : Rp α} (hR : RpOK sz R) {K K' : Hp} {a : Option Addr} {l : List α} (hk : K.Le K') (h : LiR sz R K a l) : LiR sz R K' a l :=
  let ⟨css, h1, h2, h3⟩ := h.ex; ⟨css, h1.mono hk, h2, fun i c x hc hx => hR.mono hk (h3 i c x hc hx)⟩
theorem LiR.has {α : Type} {sz : Nat} {R : Rp α} {K : Hp} {a : Option Addr} {l : List α} (h : LiR sz R K a l) (hn : 0 < l.length) : Has a :=
  let ⟨_, h1, h2, _⟩ := h.ex; h1.has (by omega)
theorem LiR.nil {α : Type} {sz : Nat} {R : Rp α} {K : Hp} {a : Option Addr} : LiR sz R K a [] := ⟨[], .nil, rfl, fun _ _ _ h => by simp at h⟩
theorem LiR.flat {α : Type} {sz : Nat} {R : Rp α} {enc : α → List Value} (hf : ∀ K cs a, R K cs a → cs = enc a) {K : Hp} {a : Option Addr} {l : List α} (h : LiR sz R K a l) : RdS K a sz (l.map enc) := by
  obtain ⟨css, h1, h2, h3⟩ := h.ex
  have : css = l.map enc := by
    apply List.ext_getElem?
    intro i
    rcases Nat.lt_or_ge i css.length with hi | hi
    · have e1 : css[i]? = some css[i] := List.getElem?_eq_getElem hi
      have e2 : l[i]? = some (l[i]'(by omega)) := List.getElem?_eq_getElem (by omega)
      rw [List.getElem?_map, e1, e2, hf _ _ _ (h3 i _ _ e1 e2)]; rfl
    · rw [List.getElem?_eq_none hi, List.getElem?_eq_none (by simp; omega)]
  rw [← this]; exact h1

theorem intR_ok (k : IntKind) : RpOK 1 (intR k) := ⟨fun _ h => h, fun h => by simp [h.1], fun h v hv => by rw [h.1] at hv; simp at hv; subst hv; rfl⟩
theorem boolR_ok : RpOK 1 boolR := ⟨fun _ h => h, fun h => by unfold boolR at h; simp [h], fun h v hv => by unfold boolR at h; rw [h] at hv; simp at hv; subst hv; rfl⟩
theorem strR_ok : RpOK 1 strR := ⟨fun _ h => h, fun h => by simp [h.1], fun h v hv => by rw [h.1] at hv; simp at hv; subst hv; rfl⟩
theorem slR_ok {α : Type} {sz : Nat} {R : Rp α} (hR : RpOK sz R) : RpOK 1 (slR sz R) :=
  ⟨fun hk ⟨a, cap, h1, h2, h3, h4⟩ => ⟨a, cap, h1, h2, h3, h4.mono hR hk⟩, fun ⟨a, cap, h1, _⟩ => by simp [h1], fun ⟨a, cap, h1, _⟩ v hv => by rw [h1] at hv; simp at hv; subst hv; rfl⟩

section
variable {P : Program} {Bd : Nat}
/-- No part of the datum is greater than the address space. -/
def SzOK {H : Type} (Bd : Nat) (P : Program) (t : TypeId) (d : DataW H) : Prop := ∀ n ∈ DataW.weights P t d, n ≤ Bd
theorem weightsAll_mem {H : Type} {e : TypeId} : ∀ {l : List (DataW H)} {d : DataW H} {n : Nat}, d ∈ l → n ∈ d.weights P e → n ∈ DataW.weightsAll P e l
  | x :: l, d, n, hd, hn => by
    simp only [DataW.weightsAll, List.mem_append]
    rcases List.mem_cons.1 hd with rfl | hd
    · exact .inl hn
    · exact .inr (weightsAll_mem hd hn)
/-- What is read as data of type 't' lies so in memory. -/
def Rdr {α : Type} (Bd : Nat) (P : Program) (m : Nat) (t : TypeId) (R : Rp α) : Prop :=
  ∀ {H : Type} (enc : TypeId × Value → H) (w : World) (spare : Nat → Bool) (held : Bool) (fuel : Nat) (cs : List Value) (x : DataW H × List MemPlace),
    fuel ≤ m → DataW.trod enc P w 0 spare held fuel t cs = some x → SzOK Bd P t x.1 → ∃ a, R (old w) cs a

theorem inK_of_wf {k : IntKind} {n : Int} (h : (Lit.int k n).wf = true) : InK k n := by
  cases k <;> simp [Lit.wf, IntKind.min, IntKind.max, IntKind.bits, IntKind.signed] at h <;> simp only [InK] <;> omega

theorem Rdr.int {m : Nat} {t : TypeId} {k : IntKind} (ht : P.underlying t = some (.int k)) : Rdr Bd P m t (intR k) := fun enc w sp held fuel cs x _ h _ =>
  let ⟨n, e, _, hw⟩ := DataW.trod_int ht h; ⟨n, e, inK_of_wf hw⟩
theorem Rdr.bool {m : Nat} {t : TypeId} (ht : P.underlying t = some .bool) : Rdr Bd P m t boolR := fun enc w sp held fuel cs x _ h _ =>
  let ⟨b, e, _⟩ := DataW.trod_bool ht h; ⟨b, e⟩
theorem Rdr.str {m : Nat} {t : TypeId} (ht : P.underlying t = some .string) : Rdr Bd P m t strR := fun enc w sp held fuel cs x _ h _ =>
  let ⟨s, e, _, hs⟩ := DataW.trod_string ht h; ⟨s.data.toList, by simp [e, SL.str], by simpa using hs⟩
theorem Rdr.le {α : Type} {m m' : Nat} {t : TypeId} {R : Rp α} (h : Rdr Bd P m' t R) (hm : m ≤ m') : Rdr Bd P m t R := fun enc w sp held fuel cs x hf ht hz => h enc w sp held fuel cs x (by omega) ht hz

theorem cells?_get {w : World} {a : Addr} {n : Nat} {cs : List Value} (h : w.cells? 0 a n = some cs) : cs.length = n ∧ ∀ j v, cs[j]? = some v → w.cell? (a.add j) = some v := by
  obtain ⟨_, h1, h2⟩ := World.cells?_some h
  refine ⟨h1, fun j v hv => ?_⟩
  have hj : j < n := by rw [← h1]; exact (List.getElem?_eq_some_iff.1 hv).1
  rw [h2 j hj]; exact hv

theorem Rdr.slice {α : Type} {m : Nat} {t e sz : Nat} {R : Rp α} (ht : P.underlying t = some (.slice e)) (hsz : P.cellsOf e = sz) (h0 : 0 < sz) (hR : RpOK sz R) (hr : Rdr Bd P m e R) : Rdr Bd P (m + 1) t (slR sz R) := by
  intro H enc w sp held fuel cs x hf h hz
  rcases DataW.trod_slice ht h with ⟨e0, _⟩ | ⟨a, len, cap, elems, rest, n, hm, rfl, rfl, hb, hl, hmx, hlen, hel, _, _⟩
  · exact ⟨[], none, 0, by simp [e0], by simp, by simp, .nil⟩
  rw [hsz] at hel
  have each : ∀ i, i < len → ∃ l y, w.cells? 0 (a.add (i * sz)) sz = some l ∧ R (old w) l y := fun i hi => by
    have := hel i hi
    rw [List.getElem?_eq_getElem (by omega)] at this
    obtain ⟨l, h1, h2⟩ := Option.bind_eq_some_iff.1 this
    obtain ⟨y, hy⟩ := hr enc w sp held n l _ (by omega) h2 (fun q hq => hz q (by
      simp only [DataW.weights, ht, List.mem_cons, List.mem_append]
      exact .inr (.inl (weightsAll_mem (List.mem_map.2 ⟨_, List.getElem_mem (by omega), rfl⟩) hq))))
    exact ⟨l, y, h1, hy⟩
  obtain ⟨l, css, hcl, hll, hcs⟩ : ∃ (l : List α) (css : List (List Value)), css.length = len ∧ l.length = len ∧ ∀ i, i < len → ∃ c y, css[i]? = some c ∧ l[i]? = some y ∧ w.cells? 0 (a.add (i * sz)) sz = some c ∧ R (old w) c y := by
    rename_i sp1 sp2; clear sp1 sp2 hz h hlen hl hel
    induction len with
    | zero => exact ⟨[], [], rfl, rfl, fun i hi => by omega⟩
    | succ len ih =>
      obtain ⟨l, css, h1, h2, h3⟩ := ih fun i hi => each i (by omega)
      obtain ⟨c, y, h4, h5⟩ := each len (by omega)
      refine ⟨l ++ [y], css ++ [c], by simp [h1], by simp [h2], fun i hi => ?_⟩
      rcases Nat.lt_or_ge i len with hi' | hi'
      · obtain ⟨c', y', g1, g2, g3⟩ := h3 i hi'
        exact ⟨c', y', by rw [List.getElem?_append_left (by omega)]; exact g1, by rw [List.getElem?_append_left (by omega)]; exact g2, g3⟩
      · have : i = len := by omega
        subst this
        exact ⟨c, y, by rw [List.getElem?_append_right (by omega)]; simp [h1], by rw [List.getElem?_append_right (by omega)]; simp [h2], h4, h5⟩
  refine ⟨l, some a, cap, by rw [hll], by omega, hmx, css, ⟨?_, ?_, ?_⟩, by omega, ?_⟩
  · intro c hc
    obtain ⟨i, hi⟩ := List.getElem?_of_mem hc
    obtain ⟨c', y, g1, _, g3, _⟩ := hcs i (by rw [← hcl]; exact (List.getElem?_eq_some_iff.1 hi).1)
    rw [hi] at g1; cases g1
    exact (cells?_get g3).1
  · intro c hc
    obtain ⟨i, hi⟩ := List.getElem?_of_mem hc
    obtain ⟨c', y, g1, _, _, g4⟩ := hcs i (by rw [← hcl]; exact (List.getElem?_eq_some_iff.1 hi).1)
    rw [hi] at g1; cases g1
    exact hR.one g4
  · intro hne
    have hlen0 : 0 < len := by rw [← hcl]; exact List.length_pos_iff.2 hne
    obtain ⟨c0, y0, q1, q2, q3, q4⟩ := hcs 0 hlen0
    have hc0 := cells?_get q3
    obtain ⟨v0, hv0⟩ : ∃ v, c0[0]? = some v := ⟨c0[0]'(by omega), List.getElem?_eq_getElem (by omega)⟩
    have hcell := hc0.2 0 v0 hv0
    have ea : a.add (0 * sz) = a := by simp [Addr.add]
    have ea' : ∀ b : Addr, b.add 0 = b := fun b => by simp [Addr.add]
    rw [ea, ea'] at hcell
    obtain ⟨b, off, spot⟩ := a
    have hblk : ∃ c T fz, w.heap[b]? = some (.cells c T fz) ∧ spot = none := by
      simp only [World.cell?] at hcell
      split at hcell
      · rename_i c T fz hw
        split at hcell
        · cases hcell
        · rename_i hs
          refine ⟨c, T, fz, hw, ?_⟩
          cases spot
          · rfl
          · simp at hs
      · cases hcell
    obtain ⟨c, T, fz, hw, rfl⟩ := hblk
    refine ⟨b, off, c, T, fz, rfl, hw, fun i v hv => ?_⟩
    have hlens : ∀ c ∈ css, c.length = sz := fun c hc => by
      obtain ⟨i, hi⟩ := List.getElem?_of_mem hc
      obtain ⟨c', y, g1, _, g3, _⟩ := hcs i (by rw [← hcl]; exact (List.getElem?_eq_some_iff.1 hi).1)
      rw [hi] at g1; cases g1
      exact (cells?_get g3).1
    have hfl := flat_len hlens
    have hi : i < css.length * sz := by rw [← hfl]; exact (List.getElem?_eq_some_iff.1 hv).1
    have hq : i / sz < len := by rw [← hcl]; exact Nat.div_lt_of_lt_mul (by rw [Nat.mul_comm]; exact hi)
    obtain ⟨c', y, g1, _, g3, _⟩ := hcs (i / sz) hq
    have hg := cells?_get g3
    have hmod : i % sz < c'.length := by rw [hg.1]; exact Nat.mod_lt _ h0
    have hv' := flat_at hlens g1 (i % sz) _ (List.getElem?_eq_getElem hmod)
    have hdm : i / sz * sz + i % sz = i := by rw [Nat.mul_comm]; exact Nat.div_add_mod i sz
    rw [hdm, hv] at hv'
    have := hg.2 (i % sz) v (by rw [List.getElem?_eq_getElem hmod]; exact hv'.symm)
    rw [addr_add, addr_add, Nat.add_assoc, hdm] at this
    simpa [World.cell?, hw] using this
  · intro i c x hc hx
    obtain ⟨c', y, g1, g2, _, g4⟩ := hcs i (by rw [← hcl]; exact (List.getElem?_eq_some_iff.1 hc).1)
    rw [hc] at g1; cases g1
    rw [hx] at g2; cases g2
    exact g4

/-- The fields of a struct that is read. -/
theorem rd_struct {H : Type} {enc : TypeId × Value → H} {w : World} {sp : Nat → Bool} {held : Bool} {fuel m : Nat} {t : TypeId} {cs : List Value} {x : DataW H × List MemPlace} {fs : Array Field}
    (ht : P.underlying t = some (.struct fs)) (hf : fuel ≤ m + 1) (h : DataW.trod enc P w 0 sp held fuel t cs = some x) (hz : SzOK Bd P t x.1) :
    cs.length = P.cellsOf t ∧ ∀ (i : Nat) (f : Field) {α : Type} {R : Rp α}, fs[i]? = some f → Rdr Bd P m f.type R → ∃ a, R (old w) ((cs.drop f.offset).take (P.cellsOf f.type)) a := by
  obtain ⟨xs, n, hn, hx, hl, hxl, hf'⟩ := DataW.trod_struct ht h
  refine ⟨hl, fun i f α R hi hr => ?_⟩
  have hlt : i < xs.length := by rw [hxl]; exact (Array.getElem?_eq_some_iff.1 hi).1
  have := hf' i f hi
  rw [List.getElem?_eq_getElem hlt] at this
  refine hr enc w sp held n _ _ (by omega) this fun q hq => hz q ?_
  rw [hx]
  simp only [DataW.weights, ht]
  exact DataW.weights_mem_each (j := i) (by simp [hi]) (by rw [List.getElem?_map, List.getElem?_eq_getElem hlt]; rfl) q hq
/-- How long a slice that is read can be. -/
theorem sl_size {H : Type} {enc : TypeId × Value → H} {w : World} {sp : Nat → Bool} {held : Bool} {fuel n cap : Nat} {t e : TypeId} {cs : List Value} {x : DataW H × List MemPlace} {a : Option Addr} (ht : P.underlying t = some (.slice e)) (hb : Nat.ble 1 (P.bytesOf e) = true)
    (h : DataW.trod enc P w 0 sp held fuel t cs = some x) (hz : SzOK Bd P t x.1) (hc : cs = [.slice a n cap]) : n ≤ Bd := by
  rcases DataW.trod_slice ht h with ⟨e0, _⟩ | ⟨a', len, cap', elems, rest, m, hm, rfl, rfl, _, hl, hmx, hlen, _, _, _⟩
  · rw [e0] at hc; simp at hc; omega
  · simp at hc
    have := hz ((elems.length + rest.length) * P.bytesOf e) (by simp [DataW.weights, ht])
    have hb' := Nat.le_of_ble_eq_true hb
    have h2 : (elems.length + rest.length) * 1 ≤ (elems.length + rest.length) * P.bytesOf e := Nat.mul_le_mul_left _ hb'
    omega
end
end Go.SL
