/- The library: facts about walks, over any program. -/
import Derived.Test.YtkpipkpdnbconaaDoorLI
import Derived.Shelf.Sort.Plain
import Derived.Shelf.Slices.In.SortNone
set_option linter.unusedVariables false
set_option linter.unusedSimpArgs false
namespace Go.SL
open Go
end Go.SL
set_option linter.unusedVariables false
set_option linter.unusedSimpArgs false
namespace Go.SL
open Go Go.ChangeShapes Go.WideShapes Go.ChangeAt Go.RowKit
section
variable {P : Program} {Bd : Nat}
theorem arr_addr {t e k sz b off : Nat} {n : Int} (i : Nat) {c : Value → Prop} (hn : n = (i : Int)) (ht : P.underlying t = some (.array k e)) (hs : tySize P e = some sz) (hi : Nat.blt i k = true)
  (h : forceN (off + i * sz) fun o' => c (.pointer (some ⟨b, o', none⟩))) : NStep P (.indexAddr t (.pointer (some ⟨b, off, none⟩)) (.int .i64 n)) c := by
 subst hn
 rw [forceN_eq] at h
 have hi' : i < k := by simpa [Nat.blt_eq] using hi
 refine NStep.mk _ (fun w => ?_) h
 simp [M.sem, Instr.indexAt, asIntOf, run_underlying ht, run_sizeOf' hs, addr_add, Instr.sureAddr, hi', Int.natCast_nonneg, Int.toNat_natCast]
end
end Go.SL
set_option linter.unusedVariables false
set_option linter.unusedSimpArgs false
namespace Go.SL
open Go Go.ChangeShapes Go.WideShapes Go.ChangeAt Go.RowKit
section
variable {P : Program} {α : Type} {Bd : Nat}
theorem Rdr.zero {t : TypeId} {R : Rp α} : Rdr Bd P 0 t R := by
 intro H enc w sp held fuel cs x hf h hz
 have : fuel = 0 := by omega
 subst this; simp [DataW.trod] at h
theorem Rdr.slrM {m : Nat} {t e sz : Nat} {R : Rp α} (ht : P.underlying t = some (.slice e)) (hsz : P.cellsOf e = sz) (h0 : Nat.ble 1 sz = true) (hR : RpOK sz R) (hr : ∀ m', m' < m → Rdr Bd P m' e R) : Rdr Bd P m t (slR sz R) := by
 cases m with
 | zero => exact Rdr.zero
 | succ m => exact Rdr.slice ht hsz (Nat.le_of_ble_eq_true h0) hR (hr m (by omega))
theorem Rdr.slxM {m : Nat} {t e sz : Nat} {R : Rp α} {ok : α → Prop} (ht : P.underlying t = some (.slice e)) (hsz : P.cellsOf e = sz) (h0 : Nat.ble 1 sz = true) (hR : RpOK sz R)
  (hr : ∀ m', m' < m → Rdr Bd P m' e (fun K cs x => R K cs x ∧ ok x)) (hby : Nat.ble 1 (P.bytesOf e) = true) : Rdr Bd P m t (fun K cs l => sliR R sz K cs l ∧ (l.length ≤ Bd ∧ ∀ x ∈ l, ok x)) := fun en w sp held fuel cs x hf h hz => by
 have hR' : RpOK sz (fun K cs x => R K cs x ∧ ok x) := ⟨fun hk h => ⟨hR.mono hk h.1, h.2⟩, fun h => hR.len h.1, fun h => hR.one h.1⟩
 obtain ⟨l, a, cap, e1, e2, e3, e4⟩ := Rdr.slrM ht hsz h0 hR' hr en w sp held fuel cs x hf h hz
 obtain ⟨css, g1, g2, g3⟩ := e4.ex
 refine ⟨l, ⟨a, cap, e1, ⟨css, g1, g2, fun i c x hc hx => (g3 i c x hc hx).1⟩, e2⟩, sl_size ht hby h hz e1, fun y hy => ?_⟩
 obtain ⟨i, hi⟩ := List.getElem?_of_mem hy
 obtain ⟨css, c, _, _, h3⟩ := e4.get hi
 exact h3.2
theorem rd_structM {H : Type} {enc : TypeId × Value → H} {w : World} {sp : Nat → Bool} {held : Bool} {m n : Nat} {t : TypeId} {cs : List Value} {x : DataW H × List MemPlace} {fs : Array Field}
  (ht : P.underlying t = some (.struct fs)) (hn : P.cellsOf t = n) (h : DataW.trod enc P w 0 sp held (m + 1) t cs = some x) (hz : SzOK Bd P t x.1) :
  cs.length = n ∧ ∀ (i off sz : Nat) (ft : TypeId) {β : Type} {R : Rp β}, (match fs[i]? with | some f => f.offset = off ∧ f.type = ft ∧ P.cellsOf f.type = sz | none => False) → Rdr Bd P m ft R → ∃ a, R (old w) ((cs.drop off).take sz) a := by
 have := rd_struct (m := m) ht (Nat.le_refl _) h hz
 refine ⟨by rw [this.1, hn], fun i off sz ft β R hf hr => ?_⟩
 split at hf
 ·rename_i f hfi
  obtain ⟨rfl, rfl, rfl⟩ := hf
  exact this.2 i f hfi hr
 ·exact hf.elim
theorem RdrA.rec {t : TypeId} {R : Rp α} (h : ∀ m, (∀ m', m' < m + 1 → Rdr Bd P m' t R) → ∀ {H : Type} (enc : TypeId × Value → H) (w : World) (spare : Nat → Bool) (held : Bool) (cs : List Value) (x : DataW H × List MemPlace),
  DataW.trod enc P w 0 spare held (m + 1) t cs = some x → SzOK Bd P t x.1 → ∃ a, R (old w) cs a) : RdrA Bd P t R := by
 intro m
 induction m using Nat.strongRecOn with
 | ind m ih =>
  intro H enc w sp held fuel cs x hf hx hz
  cases fuel with
  | zero => exact (Rdr.zero (P := P) (t := t) (R := R)) enc w sp held 0 cs x (Nat.le_refl _) hx hz
  | succ f => exact h f (fun m' hm => ih m' (by omega)) enc w sp held cs x hx hz
end
end Go.SL
set_option linter.unusedVariables false
set_option linter.unusedSimpArgs false
namespace Go.SL
open Go
def star (A B : HProp) : HProp := fun h => SepL [A, B] h
theorem sep_last (H : List HProp) (G A : HProp) (h : Hp) : SepL (H ++ [star G A]) h ↔ SepL (H ++ [G, A]) h := by
 induction H generalizing h with
 | nil =>
  constructor
  ·rintro ⟨h1, h2, d, l1, l2, x, _⟩
   exact SepL.mono l1 x
  ·intro x
   exact ⟨h, fun _ => none, fun _ => .inr rfl, .refl _, Hp.emp_le _, x, trivial⟩
 | cons B H ih =>
  constructor
  ·rintro ⟨h1, h2, d, l1, l2, b, x⟩; exact ⟨h1, h2, d, l1, l2, b, (ih h2).1 x⟩
  ·rintro ⟨h1, h2, d, l1, l2, b, x⟩; exact ⟨h1, h2, d, l1, l2, b, (ih h2).2 x⟩
theorem rem_last (L M : List HProp) (A : HProp) : Rem A (L ++ A :: M) (L ++ M) := by
 induction L with
 | nil => exact .here
 | cons B L ih => exact .there ih
theorem sep_move (L M : List HProp) (A : HProp) (h : Hp) : SepL (L ++ A :: M) h ↔ SepL (A :: (L ++ M)) h := ⟨(rem_last L M A).sep, (rem_last L M A).sep'⟩
theorem sep_swap (H : List HProp) (G A B : HProp) (h : Hp) : SepL (H ++ [star (star G A) B]) h ↔ SepL (H ++ [star (star G B) A]) h := by
 have key : ∀ (A B : HProp), SepL (H ++ [star (star G A) B]) h ↔ SepL (H ++ [G, A, B]) h := fun A B => by
  rw [sep_last]
  constructor
  ·intro x
   have x' := (sep_move H [B] (star G A) h).1 x
   obtain ⟨h1, h2, d, l1, l2, g, r⟩ := x'
   have x'' : SepL ([G, A] ++ (H ++ [B])) h := SepL.flat d l1 l2 g r
   have y : SepL (A :: (H ++ [G, B])) h := by
    obtain ⟨k1, k2, kd, m1, m2, g', r'⟩ := x''
    obtain ⟨k3, k4, kd', m3, m4, a', r''⟩ := r'
    refine ⟨k3, k1.join k4, (Hp.Disj.join (kd.symm.mono m3 (.refl _)) kd'), m3.trans m2, Hp.join_le m1 (m4.trans m2), a', ?_⟩
    exact (sep_move H [B] G _).2 ⟨k1, k4, kd.mono (.refl _) m4, Hp.Le.joinL _ _, Hp.Le.joinR (kd.mono (.refl _) m4), g', r''⟩
   have z := (sep_move (H ++ [G]) [B] A h).2 (by simpa using y)
   simpa using z
  ·intro x
   have x1 := (sep_move (H ++ [G]) [B] A h).1 (by simpa using x)
   obtain ⟨h1, h2, d, l1, l2, a, r⟩ := x1
   have r1 := (sep_move H [B] G h2).1 (by simpa using r)
   obtain ⟨k1, k2, kd, m1, m2, g, q⟩ := r1
   refine (sep_move H [B] (star G A) h).2 ⟨k1.join h1, k2, ?_, Hp.join_le (m1.trans l2) l1, m2.trans l2, ?_, q⟩
   ·exact (Hp.Disj.join kd.symm (d.symm.mono m2 (.refl _))).symm
   ·exact ⟨k1, h1, d.symm.mono m1 (.refl _), Hp.Le.joinL _ _, Hp.Le.joinR (d.symm.mono m1 (.refl _)), g, h1, fun _ => none, fun _ => .inr rfl, .refl _, Hp.emp_le _, a, trivial⟩
 rw [key, key]
 have sw : ∀ (A B : HProp), SepL (H ++ [G, A, B]) h → SepL (H ++ [G, B, A]) h := fun A B x => by
  have x1 := (sep_move (H ++ [G]) [B] A h).1 (by simpa using x)
  have : SepL (H ++ [G] ++ [B] ++ A :: []) h := (sep_move (H ++ [G] ++ [B]) [] A h).2 (by simpa using x1)
  simpa using this
 exact ⟨sw A B, sw B A⟩
theorem star_swap {G A B : HProp} {h : Hp} (x : star (star G A) B h) : star (star G B) A h := by
 have y := (sep_swap [] G A B h).1 ⟨h, fun _ => none, fun _ => .inr rfl, .refl _, Hp.emp_le _, x, trivial⟩
 obtain ⟨h1, h2, d, l1, l2, z, _⟩ := y
 exact SepL.mono l1 z
theorem star_mono {G G' A : HProp} (hg : ∀ h, G h → G' h) {h : Hp} (x : star G A h) : star G' A h := by
 obtain ⟨h1, h2, d, l1, l2, g, r⟩ := x
 exact ⟨h1, h2, d, l1, l2, hg _ g, r⟩
abbrev Fam := HProp → World → Prop
def Fam.blk (C : Fam) (b : Nat) (o : Obj) : Fam := fun G => C (star G (Blk b o))
structure Good (I : World → Prop) (C : Fam) : Prop where
 inv : ∀ G w, C G w → I w
 push : ∀ G w o, C G w → C (star G (Blk w.heap.size o)) { w with heap := w.heap.push o }
 mono : ∀ G G' w, (∀ h, G h → G' h) → C G w → C G' w
theorem Good.blk {I : World → Prop} {C : Fam} (h : Good I C) (b : Nat) (o : Obj) : Good I (C.blk b o) :=
 ⟨fun G w x => h.inv _ w x, fun G w o' x => h.mono _ _ _ (fun _ => star_swap) (h.push _ w o' x), fun G G' w hg x => h.mono _ _ w (fun _ => star_mono hg) x⟩
section
variable {P : Program} {D : Dr} {I : World → Prop} {ops : Array Oper}
end
end Go.SL
set_option linter.unusedVariables false
set_option linter.unusedSimpArgs false
namespace Go.SL
open Go
end Go.SL
set_option linter.unusedVariables false
set_option linter.unusedSimpArgs false
namespace Go.SL
open Go
abbrev SlD (α : Type) := Option Addr × Nat × List α
section
variable {P : Program} {κ α : Type}
abbrev pSl (p : κ × SlD α) : κ × List α := (p.1, p.2.2.2)
structure MS (enc : α → List Value) (sz : Nat) (K : Hp) (me : List (κ × SlD α)) (m : List (κ × List α)) : Prop where
 eq : me.map pSl = m
 rd : ∀ p ∈ me, RdC enc K p.2.1 p.2.2.1 sz p.2.2.2
theorem MS.nil {enc : α → List Value} {sz : Nat} {K : Hp} : MS (κ := κ) enc sz K [] [] := ⟨rfl, fun p h => by cases h⟩
theorem MS.mono {enc : α → List Value} {sz : Nat} {K K' : Hp} {me : List (κ × SlD α)} {m : List (κ × List α)} (h : MS enc sz K me m) (hk : K.Le K') : MS enc sz K' me m := ⟨h.eq, fun p hp => (h.rd p hp).mono hk⟩
theorem MS.len {enc : α → List Value} {sz : Nat} {K : Hp} {me : List (κ × SlD α)} {m : List (κ × List α)} (h : MS enc sz K me m) : me.length = m.length := by rw [← h.eq, List.length_map]
variable [DecidableEq κ]
theorem mget_pSl (me : List (κ × SlD α)) (k : κ) : mget (me.map pSl) k = (mget me k).map (·.2.2) := by
 induction me with
 | nil => rfl
 | cons p me ih =>
  rw [List.map_cons, mget_cons, mget_cons, ih]
  by_cases h : p.1 = k
  ·rw [if_pos h, if_pos (show (pSl p).1 = k from h)]; rfl
  ·rw [if_neg h, if_neg (show ¬ (pSl p).1 = k from h)]
theorem MS.get {enc : α → List Value} {sz : Nat} {K : Hp} {me : List (κ × SlD α)} {m : List (κ × List α)} (h : MS enc sz K me m) (k : κ) : mget m k = (mget me k).map (·.2.2) := by rw [← h.eq, mget_pSl]
theorem MS.set {enc : α → List Value} {sz : Nat} {K : Hp} {me : List (κ × SlD α)} {m : List (κ × List α)} (h : MS enc sz K me m) (k : κ) {a : Option Addr} {cap : Nat} {l : List α} (hr : RdC enc K a cap sz l) : MS enc sz K (mset me k (a, cap, l)) (mset m k l) := by
 constructor
 ·unfold mset
  rw [h.get]
  cases mget me k with
  | none => simp [← h.eq, pSl]
  | some x =>
   simp only [Option.map_some, ← h.eq, List.map_map]
   apply List.map_congr_left
   intro p _
   by_cases h : p.1 = k
   ·simp [pSl, h]
   ·simp [pSl, h]
 ·intro p hp
  unfold mset at hp
  cases hg : mget me k with
  | none =>
   rw [hg] at hp
   rcases List.mem_append.1 hp with hp | hp
   ·exact h.rd p hp
   ·simp at hp; subst hp; exact hr
  | some x =>
   rw [hg] at hp
   obtain ⟨q, hq, rfl⟩ := List.mem_map.1 hp
   split
   ·exact hr
   ·exact h.rd q hq
end
end Go.SL
