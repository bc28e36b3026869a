/- The library: facts about walks, over any program. -/
import Derived.Test.YtiaaooopklhobaaGreatDoorLI
import Derived.Shelf.Sort.Plain
import Derived.Shelf.Slices.In.SortNone
set_option linter.unusedVariables false
set_option linter.unusedSimpArgs false
set_option linter.unusedSectionVars false
namespace Go.SL
open Go
def sortS (l : List Str) : List Str := l.mergeSort fun x y => decide (x ≤ y)
section
variable {P : Program} {α : Type} [Inhabited α]
theorem qk6 (enc : α → Value) (off : Nat) (d : Array α) (c : Array Value) (k : Nat) : (Sort.putCells enc off d c)[k]? = (c[k]?).map fun x => if off ≤ k ∧ k < off + d.size then enc d[k - off]! else x := by
 unfold Sort.putCells
 simp
theorem qpe {enc : α → Value} {Γ : World} {K : Hp} {b e cap n : Nat} {l l' : List α} {F : List HProp} {w : World} {os : Array Obj} {fz : Nat × Nat} {cur : Array Value} (hfz : fz = (0, 0) ∨ cur.size ≤ fz.1) (k1 : cap ≤ cur.size) (k2 : l.length ≤ cap) (k3 : cap ≤ maxLen)
  (s : Sat Γ K (Blk b (.cells cur e fz) :: F) w) (hl : l'.length = l.length) (ho : ∀ x, (enc x).oneCell' = true) :
  Sat Γ K (OwnL (fun x => [enc x]) (some ⟨b, 0, none⟩) e 1 cap l' :: F) (Sort.grow (Sort.putRow enc (Sort.ahead w n) b 0 l'.toArray) os) := by
 have hb := s.blk
 have hblt : b < w.heap.size := (Array.getElem?_eq_some_iff.1 hb).1
 have h1 : (Sort.putRow enc (Sort.ahead w n) b 0 l'.toArray).heap[b]? = some (.cells (Sort.putCells enc 0 l'.toArray cur) e fz) := by
  simp only [Sort.putRow, Sort.mapBlock, Sort.ahead, Array.getElem?_modify, if_true, hb, Option.map_some, Sort.onCells]
 have h2 : ∀ i, i ≠ b → (Sort.putRow enc (Sort.ahead w n) b 0 l'.toArray).heap[i]? = w.heap[i]? := fun i hi => by
  simp only [Sort.putRow, Sort.mapBlock, Sort.ahead, Array.getElem?_modify]; rw [qx1 (fun e => hi e.symm)]
 have s1 : Sat Γ K (Blk b (.cells (Sort.putCells enc 0 l'.toArray cur) e fz) :: F) (Sort.putRow enc (Sort.ahead w n) b 0 l'.toArray) := s.upd rfl rfl rfl h1 h2
 have hgrow : ∀ i o, (Sort.putRow enc (Sort.ahead w n) b 0 l'.toArray).heap[i]? = some o → (Sort.grow (Sort.putRow enc (Sort.ahead w n) b 0 l'.toArray) os).heap[i]? = some o := fun i o h => by
  simp only [Sort.grow]
  rw [Array.getElem?_append_left (Array.getElem?_eq_some_iff.1 h).1]; exact h
 have s2 : Sat Γ K (Blk b (.cells (Sort.putCells enc 0 l'.toArray cur) e fz) :: F) (Sort.grow (Sort.putRow enc (Sort.ahead w n) b 0 l'.toArray) os) := by
  obtain ⟨h, d, x, y⟩ := s1.heap
  exact ⟨s1.os, s1.tape, s1.output, fun i o hi => hgrow i o (s1.know i o hi), h, d, x, fun i o hi => hgrow i o (y i o hi)⟩
 have hsz : (Sort.putCells enc 0 l'.toArray cur).size = cur.size := by simp [Sort.putCells]
 refine s2.mkOwnF (by rw [hsz]; exact hfz) (by simp) (by simp; exact fun x _ => ho x) (by rw [hsz, Nat.mul_one]; exact k1) (by simpa [hl] using k2) k3 ?_
 intro i v hv
 have hfl : ∀ (m : List α), (m.map fun x => [enc x]).flatten = m.map enc := fun m => by induction m with
  | nil => rfl
  | cons x m ih => simp [ih]
 rw [hfl] at hv
 have hlt : i < l'.length := by have := (List.getElem?_eq_some_iff.1 hv).1; simpa using this
 rw [qk6]
 have hcur : cur[i]? = some cur[i]! := by
  have : i < cur.size := by omega
  simp [this]
 rw [hcur]
 simp only [Option.map_some, Nat.zero_le, Nat.zero_add, true_and, List.size_toArray, hlt, if_true, Nat.sub_zero]
 rw [List.getElem?_map, List.getElem?_eq_getElem hlt] at hv
 simp only [Option.map_some, Option.some.injEq] at hv
 rw [← hv]
 simp [hlt]
end
section
variable {P : Program} {α : Type} [Inhabited α]
theorem qrf {f : FuncId} (enc : α → Value) (ho : ∀ x, (enc x).oneCell' = true) (le : α → α → Bool) (hc : ∀ a w, (callFunc f a).run P w = .ok (.enter f a) w)
  (h1 : ∀ (blk off cap : Nat) (ss : List α) (w : World), Sort.Holds enc w blk off ss.toArray → blk < w.heap.size → ss.length < 4611686018427387904 →
   Calls P f #[.slice (some ⟨blk, off, none⟩) ss.length cap] w fun e w' => e = .returned (.tuple #[]) ∧ ∃ n os, w' = Sort.grow (Sort.putRow enc (Sort.ahead w n) blk off (ss.mergeSort le).toArray) os)
  (h0 : ∀ (p : Option Addr) (cap : Nat) (w : World), Calls P f #[.slice p 0 cap] w fun e w' => e = .returned (.tuple #[]) ∧ w' = w)
  {a : Option Addr} {n e cap : Nat} {l : List α} {K : Hp} (hl : l.length ≤ lim) (hn : n = l.length) :
  Fn P f [.slice a n cap] K [OwnL (fun x => [enc x]) a e 1 cap l] (fun v K' H' => v = .tuple #[] ∧ H' = [OwnL (fun x => [enc x]) a e 1 cap (l.mergeSort le)]) := by
 subst hn
 refine ⟨hc, fun F Γ w s => ?_⟩
 obtain ⟨hll, hoo, ⟨rfl, rfl, hn, s1⟩ | ⟨b, cur, fz, hfz, rfl, k1, k2, k3, k4, s1⟩⟩ := (show Sat Γ K (OwnA a e 1 cap (l.map fun x => [enc x]) :: [F]) w from s).own
 ·have hn : l = [] := by simpa using hn
  subst hn
  refine (h0 none 0 w).mono fun e' w' ⟨g1, g2⟩ => ?_
  subst g2
  exact ⟨_, K, _, g1, .refl _, ⟨rfl, rfl⟩, by simpa using s⟩
 ·rw [Nat.mul_one] at k1
  have hb := s1.blk
  have hflat : ∀ m : List α, (m.map fun x => [enc x]).flatten = m.map enc := fun m => by
   induction m with
   | nil => rfl
   | cons x m ih => simp [ih]
  refine (h1 b 0 cap l w (fun j hj => ?_) (Array.getElem?_eq_some_iff.1 hb).1 (by simp only [lim] at hl; omega)).mono fun e' w' ⟨g1, m, os, g2⟩ => ?_
  ·have hj' : j < l.length := by simpa using hj
   have hc4 := k4 j (enc l[j]) (by rw [hflat l]; simp [hj'])
   have hjc : j < cur.size := (Array.getElem?_eq_some_iff.1 hc4).1
   constructor
   ·simp only [World.cell?, hb, Nat.zero_add]
    simp only [Option.isSome_none, Bool.false_eq_true, if_false]
    rw [hc4]
    simp [hj']
   ·simp only [World.frozen?, hb, Nat.zero_add]
    rcases hfz with rfl | h
    ·simp
    ·simp; intro h'; omega
  ·subst g2
   refine ⟨_, K, _, g1, .refl _, ⟨rfl, rfl⟩, ?_⟩
   have := qpe (enc := enc) (n := m) (os := os) (l := l) (l' := l.mergeSort le) hfz k1 (by simpa using k2) k3 s1 (by simp [List.length_mergeSort]) ho
   exact this
end
def qif (l : List Str) : Option (List Str) := if l.length ≤ lim then some (sortS l) else none
theorem qig {l r : List Str} (h : qif l = some r) : l.length ≤ lim ∧ r = l.mergeSort fun x y => decide (x ≤ y) := by
 unfold qif at h; split at h
 ·rename_i h1; cases h; exact ⟨h1, rfl⟩
 ·cases h
theorem qb9 {l r : List Str} (h : qif l = some r) : r.length = l.length := by
 obtain ⟨_, rfl⟩ := qig h; exact List.length_mergeSort _
open Go Go.ChangeShapes Go.WideShapes Go.ChangeAt Go.RowKit
section
variable {P : Program} {Bd : Nat}
theorem qrg {t e k sz b off : Nat} {n : Int} (i : Nat) {c : Value → Prop} (hn : n = (i : Int)) (ht : P.underlying t = some (.array k e)) (hs : qbc P e = some sz) (hi : Nat.blt i k = true)
  (h : qe5 (off + i * sz) fun o' => c (.pointer (some ⟨b, o', none⟩))) : NStep P (.indexAddr t (.pointer (some ⟨b, off, none⟩)) (.int .i64 n)) c := by
 subst hn
 rw [qck] at h
 have hi' : i < k := by simpa [Nat.blt_eq] using hi
 refine NStep.mk _ (fun w => ?_) h
 simp [M.sem, Instr.indexAt, asIntOf, run_underlying ht, qbi hs, qbj, Instr.sureAddr, hi', Int.natCast_nonneg, Int.toNat_natCast]
end
open Go Go.ChangeShapes Go.WideShapes Go.ChangeAt Go.RowKit
section
variable {P : Program} {α : Type} {Bd : Nat}
theorem Rdr.zero {t : TypeId} {R : Rp α} : Rdr Bd P 0 t R := by
 intro H enc w sp held fuel cs x hf h hz
 have : fuel = 0 := by omega
 subst this; simp [DataW.trod] at h
theorem RdrA.rec {t : TypeId} {R : Rp α} (h : ∀ m, (∀ m', m' < m + 1 → Rdr Bd P m' t R) → ∀ {H : Type} (enc : TypeId × Value → H) (w : World) (spare : Nat → Bool) (held : Bool) (cs : List Value) (x : DataW H × List MemPlace),
  DataW.trod enc P w 0 spare held (m + 1) t cs = some x → qtk Bd P t x.1 → ∃ a, R (old w) cs a) : RdrA Bd P t R := by
 intro m
 induction m using Nat.strongRecOn with
 | ind m ih =>
  intro H enc w sp held fuel cs x hf hx hz
  cases fuel with
  | zero => exact (Rdr.zero (P := P) (t := t) (R := R)) enc w sp held 0 cs x (Nat.le_refl _) hx hz
  | succ f => exact h f (fun m' hm => ih m' (by omega)) enc w sp held cs x hx hz
end
open Go
def qjg (A B : HProp) : HProp := fun h => SepL [A, B] h
theorem qj9 (H : List HProp) (G A : HProp) (h : Hp) : SepL (H ++ [qjg G A]) h ↔ SepL (H ++ [G, A]) h := by
 induction H generalizing h with
 | nil =>
  constructor
  ·rintro ⟨h1, h2, d, l1, l2, x, _⟩
   exact SepL.mono l1 x
  ·intro x
   exact ⟨h, fun _ => none, fun _ => .inr rfl, .refl _, Hp.emp_le _, x, trivial⟩
 | cons B H ih =>
  constructor
  ·rintro ⟨h1, h2, d, l1, l2, b, x⟩; exact ⟨h1, h2, d, l1, l2, b, (ih h2).1 x⟩
  ·rintro ⟨h1, h2, d, l1, l2, b, x⟩; exact ⟨h1, h2, d, l1, l2, b, (ih h2).2 x⟩
theorem qnh (L M : List HProp) (A : HProp) : Rem A (L ++ A :: M) (L ++ M) := by
 induction L with
 | nil => exact .here
 | cons B L ih => exact .there ih
theorem qcm (L M : List HProp) (A : HProp) (h : Hp) : SepL (L ++ A :: M) h ↔ SepL (A :: (L ++ M)) h := ⟨(qnh L M A).sep, (qnh L M A).sep'⟩
theorem qrh (H : List HProp) (G A B : HProp) (h : Hp) : SepL (H ++ [qjg (qjg G A) B]) h ↔ SepL (H ++ [qjg (qjg G B) A]) h := by
 have key : ∀ (A B : HProp), SepL (H ++ [qjg (qjg G A) B]) h ↔ SepL (H ++ [G, A, B]) h := fun A B => by
  rw [qj9]
  constructor
  ·intro x
   have x' := (qcm H [B] (qjg G A) h).1 x
   obtain ⟨h1, h2, d, l1, l2, g, r⟩ := x'
   have x'' : SepL ([G, A] ++ (H ++ [B])) h := SepL.flat d l1 l2 g r
   have y : SepL (A :: (H ++ [G, B])) h := by
    obtain ⟨k1, k2, kd, m1, m2, g', r'⟩ := x''
    obtain ⟨k3, k4, kd', m3, m4, a', r''⟩ := r'
    refine ⟨k3, k1.join k4, (Hp.Disj.join (kd.symm.mono m3 (.refl _)) kd'), m3.trans m2, Hp.join_le m1 (m4.trans m2), a', ?_⟩
    exact (qcm H [B] G _).2 ⟨k1, k4, kd.mono (.refl _) m4, Hp.Le.joinL _ _, Hp.Le.joinR (kd.mono (.refl _) m4), g', r''⟩
   have z := (qcm (H ++ [G]) [B] A h).2 (by simpa using y)
   simpa using z
  ·intro x
   have x1 := (qcm (H ++ [G]) [B] A h).1 (by simpa using x)
   obtain ⟨h1, h2, d, l1, l2, a, r⟩ := x1
   have r1 := (qcm H [B] G h2).1 (by simpa using r)
   obtain ⟨k1, k2, kd, m1, m2, g, q⟩ := r1
   refine (qcm H [B] (qjg G A) h).2 ⟨k1.join h1, k2, ?_, Hp.join_le (m1.trans l2) l1, m2.trans l2, ?_, q⟩
   ·exact (Hp.Disj.join kd.symm (d.symm.mono m2 (.refl _))).symm
   ·exact ⟨k1, h1, d.symm.mono m1 (.refl _), Hp.Le.joinL _ _, Hp.Le.joinR (d.symm.mono m1 (.refl _)), g, h1, fun _ => none, fun _ => .inr rfl, .refl _, Hp.emp_le _, a, trivial⟩
 rw [key, key]
 have sw : ∀ (A B : HProp), SepL (H ++ [G, A, B]) h → SepL (H ++ [G, B, A]) h := fun A B x => by
  have x1 := (qcm (H ++ [G]) [B] A h).1 (by simpa using x)
  have : SepL (H ++ [G] ++ [B] ++ A :: []) h := (qcm (H ++ [G] ++ [B]) [] A h).2 (by simpa using x1)
  simpa using this
 exact ⟨sw A B, sw B A⟩
theorem qih {G A B : HProp} {h : Hp} (x : qjg (qjg G A) B h) : qjg (qjg G B) A h := by
 have y := (qrh [] G A B h).1 ⟨h, fun _ => none, fun _ => .inr rfl, .refl _, Hp.emp_le _, x, trivial⟩
 obtain ⟨h1, h2, d, l1, l2, z, _⟩ := y
 exact SepL.mono l1 z
theorem qpf {G G' A : HProp} (hg : ∀ h, G h → G' h) {h : Hp} (x : qjg G A h) : qjg G' A h := by
 obtain ⟨h1, h2, d, l1, l2, g, r⟩ := x
 exact ⟨h1, h2, d, l1, l2, hg _ g, r⟩
theorem qka (H : List HProp) {G G' : HProp} (hg : ∀ h, G h → G' h) : ∀ {h : Hp}, SepL (H ++ [G]) h → SepL (H ++ [G']) h := by
 induction H with
 | nil => rintro h ⟨h1, h2, d, l1, l2, g, r⟩; exact ⟨h1, h2, d, l1, l2, hg _ g, r⟩
 | cons B H ih => rintro h ⟨h1, h2, d, l1, l2, b, r⟩; exact ⟨h1, h2, d, l1, l2, b, ih r⟩
theorem SepL.unglue' {H : List HProp} {h : Hp} (x : SepL H h) : SepL (H ++ [qou []]) h := by
 have := SepL.glue (M := H) (R := []) (h := h) (by simpa using x)
 exact this
abbrev Fam := HProp → World → Prop
def Fam.blk (C : Fam) (b : Nat) (o : Obj) : Fam := fun G => C (qjg G (Blk b o))
structure Good (I : World → Prop) (C : Fam) : Prop where
 inv : ∀ G w, C G w → I w
 push : ∀ G w o, C G w → C (qjg G (Blk w.heap.size o)) { w with heap := w.heap.push o }
 mono : ∀ G G' w, (∀ h, G h → G' h) → C G w → C G' w
theorem Good.blk {I : World → Prop} {C : Fam} (h : Good I C) (b : Nat) (o : Obj) : Good I (C.blk b o) :=
 ⟨fun G w x => h.inv _ w x, fun G w o' x => h.mono _ _ _ (fun _ => qih) (h.push _ w o' x), fun G G' w hg x => h.mono _ _ w (fun _ => qpf hg) x⟩
theorem qni {I : World → Prop} {C : Fam} (h : Good I C) (b b' : Nat) (o o' : Obj) : (C.blk b o).blk b' o' = (C.blk b' o').blk b o := by
 funext G w
 exact propext ⟨fun x => h.mono _ _ _ (fun _ => qih) x, fun x => h.mono _ _ _ (fun _ => qih) x⟩
inductive qwi where
 | n | r | a | w
 deriving DecidableEq
def clsF (P : Program) (D : Dr) : Op → qwi
 | .buildSlice .. => .a
 | .alloc .. => .a
 | .makeSlice .. => .a
 | op => match clsOf P D op with
  | .n => .n
  | .r => .r
  | .w => .w
def qpg : qwi → qwi → Bool
 | .n, _ => true
 | .r, .w => false
 | .r, _ => true
 | .w, .n | .w, .a => true
 | .a, .n | .a, .a => true
 | _, _ => false
def AX (P : Program) (o : Oper) (a : Act) (f : Nat → Value) (ob : Obj) : Prop := ∀ w : World, (execOp a.eval o).run P w = .ok (.value (f w.heap.size)) { w with heap := w.heap.push ob }
section
variable {P : Program} {D : Dr} {I : World → Prop} {ops : Array Oper}
theorem qph {o : Oper} {a : Act} {f f' : Nat → Value} {ob ob' : Obj} (h : AX P o a f ob) (h' : AX P o a f' ob') (w0 : World) : f = f' ∧ ob = ob' := by
 have key : ∀ n, f n = f' n ∧ ob = ob' := fun n => by
  have e := (h { w0 with heap := Array.replicate n ob }).symm.trans (h' { w0 with heap := Array.replicate n ob })
  simp only [Result.ok.injEq, Next.value.injEq, World.mk.injEq, true_and, and_true, Array.size_replicate] at e
  have e2 := e.2
  have : (Array.push (Array.replicate n ob) ob).back? = (Array.push (Array.replicate n ob) ob').back? := by rw [e2]
  simp at this
  exact ⟨e.1, this⟩
 exact ⟨funext fun n => (key n).1, (key 0).2⟩
def SOpF (P : Program) (D : Dr) (I : World → Prop) (ops : Array Oper) (i : Nat) (next : Act → Fam → Prop) (a : Act) (C : Fam) : Prop :=
 match ops[i]? with
 | none => next a C
 | some o =>
  if Region.wanted o (yielded ops a.tmps) = true then
   match clsF P D o.op with
   | .n => ∃ v, (∀ w, I w → (execOp a.eval o).run P w = .ok (.value v) w) ∧ next (a.put o.dst v) C
   | .r => ∃ v, (∀ G w, C G w → (execOp a.eval o).run P w = .ok (.value v) w) ∧ next (a.put o.dst v) C
   | .a => ∃ f ob, AX P o a f ob ∧ ∀ b, (∃ G w, C.blk b ob G w) → next (a.put o.dst (f b)) (C.blk b ob)
   | .w => ∀ G w, C G w → o.wp P a w (fun a' w' => ∃ v C', a' = a.put o.dst v ∧ C' G w' ∧ Good I C' ∧ next a' C') (fun _ _ _ => False)
  else next (a.put o.dst undef) C
def YF (P : Program) (D : Dr) (I : World → Prop) (ops : Array Oper) (o : Oper) (v : Value) (a : Act) (C : Fam) : Prop :=
 if Region.wanted o (yielded ops a.tmps) = true then
  match clsF P D o.op with
  | .n => ∀ w, I w → (execOp a.eval o).run P w = .ok (.value v) w
  | .r => ∀ G w, C G w → (execOp a.eval o).run P w = .ok (.value v) w
  | _ => False
 else v = undef
def qpi (P : Program) (D : Dr) (ops : Array Oper) (o : Oper) (a : Act) : Prop := (clsF P D o.op = .n ∨ clsF P D o.op = .r) ∨ Region.wanted o (yielded ops a.tmps) ≠ true
theorem qbo {i : Nat} {o : Oper} {next : Act → Fam → Prop} {a : Act} {C : Fam} (h : ops[i]? = some o) (hq : qpi P D ops o a) :
  SOpF P D I ops i next a C ↔ ∃ v, YF P D I ops o v a C ∧ next (a.put o.dst v) C := by
 simp only [SOpF, h, YF]
 by_cases hw : Region.wanted o (yielded ops a.tmps) = true
 ·simp only [hw, if_true]
  rcases hq with (hq | hq) | hq
  ·simp [hq]
  ·simp [hq]
  ·exact absurd hw hq
 ·rw [qx1 hw]; simp [hw]
theorem qel {i : Nat} {o : Oper} {next : Act → Fam → Prop} {a : Act} {C : Fam} (h : ops[i]? = some o) (hc : clsF P D o.op = .a) (hw : Region.wanted o (yielded ops a.tmps) = true) :
  SOpF P D I ops i next a C ↔ ∃ f ob, AX P o a f ob ∧ ∀ b, (∃ G w, C.blk b ob G w) → next (a.put o.dst (f b)) (C.blk b ob) := by
 simp only [SOpF, h, hw, if_true, hc]
theorem qk7 {i : Nat} {o : Oper} {next : Act → Fam → Prop} {a : Act} {C : Fam} (h : ops[i]? = some o) (hc : clsF P D o.op = .w) (hw : Region.wanted o (yielded ops a.tmps) = true) :
  SOpF P D I ops i next a C ↔ ∀ G w, C G w → o.wp P a w (fun a' w' => ∃ v C', a' = a.put o.dst v ∧ C' G w' ∧ Good I C' ∧ next a' C') (fun _ _ _ => False) := by
 simp only [SOpF, h, hw, if_true, hc]
theorem three (P : Program) (D : Dr) (ops : Array Oper) (o : Oper) (a : Act) : qpi P D ops o a ∨ (clsF P D o.op = .a ∧ Region.wanted o (yielded ops a.tmps) = true) ∨ (clsF P D o.op = .w ∧ Region.wanted o (yielded ops a.tmps) = true) := by
 by_cases hw : Region.wanted o (yielded ops a.tmps) = true
 ·cases hc : clsF P D o.op with
  | n => exact .inl (.inl (.inl hc))
  | r => exact .inl (.inl (.inr hc))
  | a => exact .inr (.inl ⟨rfl, hw⟩)
  | w => exact .inr (.inr ⟨rfl, hw⟩)
 ·exact .inl (.inr hw)
theorem qpj {i : Nat} {next next' : Act → Fam → Prop} {a : Act} {C : Fam} (hne : ∃ G w, C G w) (hC : Good I C)
  (hm : ∀ a C, (∃ G w, C G w) → Good I C → next a C → next' a C) (h : SOpF P D I ops i next a C) : SOpF P D I ops i next' a C := by
 unfold SOpF at *
 split
 ·rename_i ho; simp only [ho] at h; exact hm _ _ hne hC h
 ·rename_i o ho
  simp only [ho] at h
  split
  ·rename_i hw
   simp only [hw, if_true] at h
   cases hc : clsF P D o.op with
   | n => simp only [hc] at h; exact let ⟨v, h1, h2⟩ := h; ⟨v, h1, hm _ _ hne hC h2⟩
   | r => simp only [hc] at h; exact let ⟨v, h1, h2⟩ := h; ⟨v, h1, hm _ _ hne hC h2⟩
   | a =>
    simp only [hc] at h
    obtain ⟨f, ob, h1, h2⟩ := h
    exact ⟨f, ob, h1, fun b hb => hm _ _ hb (hC.blk b ob) (h2 b hb)⟩
   | w =>
    simp only [hc] at h
    exact fun G w hw' => Oper.wp_mono (fun a' w' ⟨v, C', e, c, ci, n⟩ => ⟨v, C', e, c, ci, hm _ _ ⟨G, w', c⟩ ci n⟩) (h G w hw')
  ·rename_i hw; rw [qx1 hw] at h; exact hm _ _ hne hC h
theorem qhb {o : Oper} (hs : ∀ cs b, o.op ≠ .select cs b) {a : Act} {dst : Option Tmp} {u : Value} (hap : ∀ d, dst = some d → d ∉ o.looksAt ops) {v : Value} {C : Fam} :
  YF P D I ops o v (a.put dst u) C ↔ YF P D I ops o v a C := by
 unfold YF
 rw [wanted_put o a dst u hap, execOp_put o hs a dst u hap]
theorem qii {o : Oper} (hs : ∀ cs b, o.op ≠ .select cs b) {a : Act} {dst : Option Tmp} {u : Value} (hap : ∀ d, dst = some d → d ∉ o.looksAt ops) {f : Nat → Value} {ob : Obj} :
  AX P o (a.put dst u) f ob ↔ AX P o a f ob := by
 unfold AX
 rw [execOp_put o hs a dst u hap]
theorem qc0 {o : Oper} {a : Act} {dst : Option Tmp} {u : Value} (hap : ∀ d, dst = some d → d ∉ o.looksAt ops) : qpi P D ops o (a.put dst u) ↔ qpi P D ops o a := by
 unfold qpi; rw [wanted_put o a dst u hap]
theorem qmh {o : Oper} {v : Value} {a : Act} {C C' : Fam} (hn : clsF P D o.op ≠ .r ∨ Region.wanted o (yielded ops a.tmps) ≠ true) (y : YF P D I ops o v a C) : YF P D I ops o v a C' := by
 unfold YF at y ⊢
 split
 ·rename_i hw
  simp only [hw, if_true] at y
  cases hc : clsF P D o.op with
  | n => simp only [hc] at y ⊢; exact y
  | r => rcases hn with h | h <;> contradiction
  | a => simp only [hc] at y
  | w => simp only [hc] at y
 ·rename_i hw; rw [qx1 hw] at y; exact y
theorem quy {o : Oper} {v : Value} {a : Act} {C : Fam} {b : Nat} {ob : Obj} (y : YF P D I ops o v a C) : YF P D I ops o v a (C.blk b ob) := by
 unfold YF at y ⊢
 split
 ·rename_i hw
  simp only [hw, if_true] at y
  cases hc : clsF P D o.op with
  | n => simp only [hc] at y ⊢; exact y
  | r => simp only [hc] at y ⊢; exact fun G w h => y _ w h
  | a => simp only [hc] at y
  | w => simp only [hc] at y
 ·rename_i hw; rw [qx1 hw] at y; exact y
theorem qpk {o : Oper} {v v' : Value} {a : Act} {C C' : Fam} (hn : clsF P D o.op ≠ .r ∨ Region.wanted o (yielded ops a.tmps) ≠ true) {w : World} (hw0 : I w) (y : YF P D I ops o v a C) (y' : YF P D I ops o v' a C') : v = v' := by
 unfold YF at y y'
 split at y
 ·rename_i hw
  simp only [hw, if_true] at y'
  cases hc : clsF P D o.op with
  | n =>
   simp only [hc] at y y'
   have := (y w hw0).symm.trans (y' w hw0)
   simpa using this
  | r => rcases hn with h | h <;> contradiction
  | a => simp only [hc] at y
  | w => simp only [hc] at y
 ·rename_i hw; rw [qx1 hw] at y'; rw [y, y']
theorem qpl {x i : Nat} {ox oi : Oper} (hx : ops[x]? = some ox) (hi : ops[i]? = some oi) (hap : ox.apart ops oi = true)
  (hsx : ∀ cs b, ox.op ≠ .select cs b) (hsi : ∀ cs b, oi.op ≠ .select cs b) (hk : qpg (clsF P D ox.op) (clsF P D oi.op) = true)
  {next : Act → Fam → Prop} {a : Act} {C : Fam} (hne : ∃ G w, C G w) (hC : Good I C)
  (h : SOpF P D I ops x (fun a C => SOpF P D I ops i next a C) a C) : SOpF P D I ops i (fun a C => SOpF P D I ops x next a C) a C := by
 obtain ⟨h1, h2, h3⟩ := Oper.apart_spec hap
 have h2' : ∀ d, oi.dst = some d → ox.dst ≠ some d := fun d hd e => h2 d e hd
 have wi : ∀ v, Region.wanted oi (yielded ops (a.put ox.dst v).tmps) = Region.wanted oi (yielded ops a.tmps) := fun v => wanted_put oi a ox.dst v h1
 have wx : ∀ v, Region.wanted ox (yielded ops (a.put oi.dst v).tmps) = Region.wanted ox (yielded ops a.tmps) := fun v => wanted_put ox a oi.dst v h3
 rcases three P D ops ox a with qx | ⟨cx, wtx⟩ | ⟨cx, wtx⟩
 ·obtain ⟨vx, yx, hn⟩ := (qbo hx qx).1 h
  rcases three P D ops oi a with qi | ⟨ci, wti⟩ | ⟨ci, wti⟩
  ·obtain ⟨vi, yi, hn'⟩ := (qbo hi ((qc0 h1).2 qi)).1 hn
   refine (qbo hi qi).2 ⟨vi, (qhb hsi h1).1 yi, (qbo hx ((qc0 h3).2 qx)).2 ⟨vx, (qhb hsx h3).2 yx, ?_⟩⟩
   rw [← Act.put_comm a vx vi h2]; exact hn'
  ·obtain ⟨f, ob, hA, hb⟩ := (qel hi ci (by rw [wi]; exact wti)).1 hn
   refine (qel hi ci wti).2 ⟨f, ob, (qii hsi h1).1 hA, fun b hbn => (qbo hx ((qc0 h3).2 qx)).2 ⟨vx, (qhb hsx h3).2 (quy yx), ?_⟩⟩
   rw [← Act.put_comm a vx (f b) h2]; exact hb b hbn
  ·rw [qk7 hi ci (by rw [wi]; exact wti)] at hn
   rw [qk7 hi ci wti]
   have hnr : clsF P D ox.op ≠ .r ∨ Region.wanted ox (yielded ops a.tmps) ≠ true := .inl fun e => by rw [e, ci] at hk; cases hk
   intro G w hw
   have hn2 := hn G w hw
   refine Oper.wp_mono ?_ (qsi hsi h1 (fun d hd e => h2 d hd e) (K := fun a' w' => ∃ C', C' G w' ∧ Good I C' ∧ next a' C') (K' := fun a' w' => ∃ C', C' G w' ∧ Good I C' ∧ next (a'.put ox.dst vx) C')
    (fun v w' ⟨C', c, ci, n⟩ => ⟨C', c, ci, n⟩) (Oper.wp_mono ?_ hn2))
   ·rintro a' w' ⟨v, rfl, C', c, cg, n⟩
    exact ⟨v, C', rfl, c, cg, (qbo hx ((qc0 h3).2 qx)).2 ⟨vx, (qhb hsx h3).2 (qmh hnr yx), n⟩⟩
   ·rintro a' w' ⟨v, C', rfl, c, cg, n⟩
    exact ⟨v, rfl, C', c, cg, n⟩
 ·-- a literal is moved behind
  obtain ⟨fx, obx, hAx, hb⟩ := (qel hx cx wtx).1 h
  have hne1 : ∃ b, ∃ G w, C.blk b obx G w := let ⟨G, w, hw⟩ := hne; ⟨w.heap.size, G, _, hC.push G w obx hw⟩
  rcases three P D ops oi a with qi | ⟨ci, wti⟩ | ⟨ci, wti⟩
  ·have hnr : clsF P D oi.op ≠ .r ∨ Region.wanted oi (yielded ops a.tmps) ≠ true := .inl fun e => by rw [cx, e] at hk; cases hk
   obtain ⟨b0, hb0⟩ := hne1
   obtain ⟨vi, yi, _⟩ := (qbo hi ((qc0 h1).2 qi)).1 (hb b0 hb0)
   have yi' := qmh (C' := C) hnr ((qhb hsi h1).1 yi)
   refine (qbo hi qi).2 ⟨vi, yi', (qel hx cx (by rw [wx]; exact wtx)).2 ⟨fx, obx, (qii hsx h3).2 hAx, fun b hbn => ?_⟩⟩
   obtain ⟨vi2, yi2, hn⟩ := (qbo hi ((qc0 h1).2 qi)).1 (hb b hbn)
   obtain ⟨G, w, hw⟩ := hne
   have e := qpk hnr (hC.inv G w hw) yi' ((qhb hsi h1).1 yi2)
   subst e
   rw [← Act.put_comm a (fx b) vi h2]; exact hn
  ·obtain ⟨b0, hb0⟩ := hne1
   obtain ⟨fi, obi, hAi, _⟩ := (qel hi ci (by rw [wi]; exact wti)).1 (hb b0 hb0)
   have hAi' := (qii hsi h1).1 hAi
   refine (qel hi ci wti).2 ⟨fi, obi, hAi', fun bi hbi => (qel hx cx (by rw [wx]; exact wtx)).2 ⟨fx, obx, (qii hsx h3).2 hAx, fun bx hbx => ?_⟩⟩
   obtain ⟨G, w, hw⟩ := hbx
   have hw' : (C.blk bx obx).blk bi obi G w := by rw [qni hC]; exact hw
   obtain ⟨fi2, obi2, hAi2, hb2⟩ := (qel hi ci (by rw [wi]; exact wti)).1 (hb bx ⟨_, w, hw'⟩)
   obtain ⟨e1, e2⟩ := qph hAi' ((qii hsi h1).1 hAi2) w
   subst e1 e2
   have := hb2 bi ⟨G, w, hw'⟩
   rw [qni hC, Act.put_comm a (fx bx) (fi bi) h2] at this
   exact this
  ·exfalso; rw [cx, ci] at hk; cases hk
 ·rw [qk7 hx cx wtx] at h
  rcases three P D ops oi a with qi | ⟨ci, wti⟩ | ⟨ci, wti⟩
  ·have hnr : clsF P D oi.op ≠ .r ∨ Region.wanted oi (yielded ops a.tmps) ≠ true := .inl fun e => by rw [cx, e] at hk; cases hk
   obtain ⟨G0, w0, hw0⟩ := hne
   obtain ⟨a1, w1, v1, C1, rfl, c1, g1, n1⟩ := Oper.wp_some (h G0 w0 hw0)
   obtain ⟨vi, yi, _⟩ := (qbo hi ((qc0 h1).2 qi)).1 n1
   have yi' : YF P D I ops oi vi a C := qmh hnr ((qhb hsi h1).1 yi)
   refine (qbo hi qi).2 ⟨vi, yi', ?_⟩
   rw [qk7 hx cx (by rw [wx]; exact wtx)]
   intro G w hw
   have hh := h G w hw
   unfold Oper.wp at hh ⊢
   rw [execOp_put ox hsx a oi.dst vi h3]
   generalize (execOp a.eval ox).run P w = r at *
   have key : ∀ v w', (∃ v' C', a.put ox.dst v = a.put ox.dst v' ∧ C' G w' ∧ Good I C' ∧ SOpF P D I ops i next (a.put ox.dst v) C') →
     ∃ v' C', (a.put oi.dst vi).put ox.dst v = (a.put oi.dst vi).put ox.dst v' ∧ C' G w' ∧ Good I C' ∧ next ((a.put oi.dst vi).put ox.dst v) C' := by
    rintro v w' ⟨_, C', _, c, cg, n⟩
    obtain ⟨vi', y', n'⟩ := (qbo hi ((qc0 h1).2 qi)).1 n
    have e := qpk hnr (hC.inv G0 w0 hw0) yi' ((qhb hsi h1).1 y')
    subst e
    refine ⟨v, C', rfl, c, cg, ?_⟩
    rw [← Act.put_comm a v vi h2]; exact n'
   cases r with
   | ok n w' =>
    cases n <;> simp only [Oper.upon] at hh ⊢
    case value v => exact key v w' hh
    case skip => exact key undef w' hh
    case defer d =>
     exfalso
     obtain ⟨v, _, hv, _⟩ := hh
     have := congrArg Act.defers hv
     cases hd : ox.dst <;> simp [Act.put, hd] at this
    case enter f args =>
     refine Calls.mono hh fun e w'' he => ?_
     cases e with
     | returned v => exact key v w'' he
     | panicked c => exact he
     | outgrown => exact he
    case row row args => exact Rows.mono hh fun v w'' he => key v w'' he
   | halt x w' => cases x <;> simp only [Oper.upon] at hh
  ·obtain ⟨G0, w0, hw0⟩ := hne
   obtain ⟨a1, w1, v1, C1, rfl, c1, g1, n1⟩ := Oper.wp_some (h G0 w0 hw0)
   obtain ⟨f, ob, hA, _⟩ := (qel hi ci (by rw [wi]; exact wti)).1 n1
   have hA' := (qii hsi h1).1 hA
   refine (qel hi ci wti).2 ⟨f, ob, hA', fun b hbn => ?_⟩
   rw [qk7 hx cx (by rw [wx]; exact wtx)]
   intro G w hw
   have hh := h (qjg G (Blk b ob)) w hw
   unfold Oper.wp at hh ⊢
   rw [execOp_put ox hsx a oi.dst (f b) h3]
   generalize (execOp a.eval ox).run P w = r at *
   have key : ∀ v w', (∃ v' C', a.put ox.dst v = a.put ox.dst v' ∧ C' (qjg G (Blk b ob)) w' ∧ Good I C' ∧ SOpF P D I ops i next (a.put ox.dst v) C') →
     ∃ v' C', (a.put oi.dst (f b)).put ox.dst v = (a.put oi.dst (f b)).put ox.dst v' ∧ C' G w' ∧ Good I C' ∧ next ((a.put oi.dst (f b)).put ox.dst v) C' := by
    rintro v w' ⟨_, C', _, c, cg, n⟩
    obtain ⟨f', ob', hA2, hb⟩ := (qel hi ci (by rw [wi]; exact wti)).1 n
    obtain ⟨e1, e2⟩ := qph hA' ((qii hsi h1).1 hA2) w
    subst e1 e2
    refine ⟨v, C'.blk b ob, rfl, c, cg.blk b ob, ?_⟩
    rw [← Act.put_comm a v (f b) h2]; exact hb b ⟨G, w', c⟩
   cases r with
   | ok n w' =>
    cases n <;> simp only [Oper.upon] at hh ⊢
    case value v => exact key v w' hh
    case skip => exact key undef w' hh
    case defer d =>
     exfalso
     obtain ⟨v, _, hv, _⟩ := hh
     have := congrArg Act.defers hv
     cases hd : ox.dst <;> simp [Act.put, hd] at this
    case enter f args =>
     refine Calls.mono hh fun e w'' he => ?_
     cases e with
     | returned v => exact key v w'' he
     | panicked c => exact he
     | outgrown => exact he
    case row row args => exact Rows.mono hh fun v w'' he => key v w'' he
   | halt x w' => cases x <;> simp only [Oper.upon] at hh
  ·exfalso; rw [cx, ci] at hk; cases hk
def SOpsF (P : Program) (D : Dr) (I : World → Prop) (ops : Array Oper) (Q : Act → Fam → Prop) : List Nat → Act → Fam → Prop
 | [] => Q
 | i :: l => SOpF P D I ops i (SOpsF P D I ops Q l)
theorem qij {Q : Act → Fam → Prop} {i : Nat} {oi : Oper} (hi : ops[i]? = some oi) (hsi : ∀ cs b, oi.op ≠ .select cs b) : ∀ (l1 l2 : List Nat),
  (∀ x ∈ l1, ∃ ox, ops[x]? = some ox ∧ ox.apart ops oi = true ∧ (∀ cs b, ox.op ≠ .select cs b) ∧ qpg (clsF P D ox.op) (clsF P D oi.op) = true) →
  ∀ (a : Act) (C : Fam), (∃ G w, C G w) → Good I C → SOpsF P D I ops Q (l1 ++ i :: l2) a C → SOpF P D I ops i (SOpsF P D I ops Q (l1 ++ l2)) a C
 | [], l2, _, _, _, _, _, h => h
 | x :: l1, l2, hc, a, C, hne, hC, h => by
  obtain ⟨ox, hx, hap, hsx, hk⟩ := hc x (by simp)
  refine qpl hx hi hap hsx hsi hk hne hC (qpj hne hC (fun a C hne' hC' h' => ?_) h)
  exact qij hi hsi l1 l2 (fun y hy => hc y (by simp [hy])) a C hne' hC' h'
theorem qk8 {Q : Exit → Act → World → Prop} {i : Nat} {next : Act → Fam → Prop} {a : Act} {C : Fam} {G : HProp} {w : World} (hw : C G w) (hC : Good I C)
  (h : SOpF P D I ops i next a C) : wpOp P ops Q i (fun a w => ∃ C G, C G w ∧ Good I C ∧ next a C) a w := by
 unfold SOpF at h
 unfold wpOp
 split
 ·rename_i ho; simp only [ho] at h; exact ⟨C, G, hw, hC, h⟩
 ·rename_i o ho
  simp only [ho] at h
  split
  ·rename_i hwt
   simp only [hwt, if_true] at h
   left
   cases hc : clsF P D o.op with
   | n =>
    simp only [hc] at h
    obtain ⟨v, h1, h2⟩ := h
    unfold Oper.wp; rw [h1 w (hC.inv G w hw), Oper.upon_value]; exact ⟨C, G, hw, hC, h2⟩
   | r =>
    simp only [hc] at h
    obtain ⟨v, h1, h2⟩ := h
    unfold Oper.wp; rw [h1 G w hw, Oper.upon_value]; exact ⟨C, G, hw, hC, h2⟩
   | a =>
    simp only [hc] at h
    obtain ⟨f, ob, h1, h2⟩ := h
    have hp := hC.push G w ob hw
    unfold Oper.wp; rw [h1 w, Oper.upon_value]; exact ⟨C.blk w.heap.size ob, G, hp, hC.blk _ _, h2 _ ⟨G, _, hp⟩⟩
   | w =>
    simp only [hc] at h
    have := h G w hw
    unfold Oper.wp at this ⊢
    generalize (execOp a.eval o).run P w = r at *
    cases r with
    | ok n w' =>
     cases n <;> simp only [Oper.upon] at this ⊢
     case value v => obtain ⟨_, C', _, c, ci, n⟩ := this; exact ⟨C', G, c, ci, n⟩
     case skip => obtain ⟨_, C', _, c, ci, n⟩ := this; exact ⟨C', G, c, ci, n⟩
     case defer d => obtain ⟨_, C', _, c, ci, n⟩ := this; exact ⟨C', G, c, ci, n⟩
     case enter f args =>
      refine Calls.mono this fun e w'' he => ?_
      cases e with
      | returned v => obtain ⟨_, C', _, c, ci, n⟩ := he; exact ⟨C', G, c, ci, n⟩
      | panicked c => exact he.elim
      | outgrown => obtain ⟨_, _, hf⟩ := he; exact hf.elim
     case row row args => exact Rows.mono this fun v w'' ⟨_, C', _, c, ci, n⟩ => ⟨C', G, c, ci, n⟩
    | halt x w' => cases x <;> simp only [Oper.upon] at this
  ·rename_i hwt; rw [qx1 hwt] at h; exact ⟨C, G, hw, hC, h⟩
def commF (P : Program) (D : Dr) (ops : Array Oper) (x i : Nat) : Bool :=
 match ops[x]?, ops[i]? with
 | some ox, some oi => ox.apart ops oi && qpg (clsF P D ox.op) (clsF P D oi.op)
 | _, _ => false
theorem quz {z : Nat} (hzs : z ≤ ops.size) (hsel : Region.noSelect ops = true) (hpairs : ∀ i, i < ops.size → (∀ x ∈ SL.pres ops ops.size i, x < i) ∧ ∀ x, x < i → (i < z ∧ commF P D ops x i = true) ∨ x ∈ SL.pres ops ops.size i)
  {Q : Exit → Act → World → Prop} {T : Act → Fam → Prop}
  (hT : ∀ (fuel : Nat) (listed : Array Bool) (a : Act) (C : Fam) (G : HProp) (w : World), listed.size = ops.size → (∀ i, i < ops.size → (listed.getD i false = false ↔ z ≤ i)) → ops.size - z ≤ fuel → Down ops listed → C G w → T a C → wpAny P .any ops Q fuel listed a w) :
  ∀ (fuel : Nat) (l : List Nat) (listed : Array Bool) (a : Act) (C : Fam) (G : HProp) (w : World), listed.size = ops.size → l.Pairwise (· < ·) → (∀ i, i ∈ l ↔ i < z ∧ listed.getD i false = false) → (∀ i, z ≤ i → listed.getD i false = false) →
   l.length + (ops.size - z) ≤ fuel → Down ops listed → C G w → Good I C → SOpsF P D I ops T l a C → wpAny P .any ops Q fuel listed a w := by
 have hs : ∀ (j : Nat) (o : Oper) cs b, ops[j]? = some o → o.op ≠ .select cs b := fun j o cs b ho => Region.noSelect_spec hsel j o cs b ho
 intro fuel
 induction fuel with
 | zero =>
  intro l listed a C G w hsz hsort hmem hrest hlen hd hw hC h
  have hl : l = [] := List.eq_nil_of_length_eq_zero (by omega)
  subst hl
  refine hT 0 listed a C G w hsz (fun i hi => ⟨fun hf => ?_, fun hz => hrest i hz⟩) (by simpa using hlen) hd hw h
  rcases Nat.lt_or_ge i z with q | q
  ·have := (hmem i).2 ⟨q, hf⟩; simp at this
  ·exact q
 | succ fuel ih =>
  intro l listed a C G w hsz hsort hmem hrest hlen hd hw hC h
  rcases l with _ | ⟨i0, l0⟩
  ·refine hT (fuel + 1) listed a C G w hsz (fun i hi => ⟨fun hf => ?_, fun hz => hrest i hz⟩) (by simpa using hlen) hd hw h
   rcases Nat.lt_or_ge i z with q | q
   ·have := (hmem i).2 ⟨q, hf⟩; simp at this
   ·exact q
  ·refine ⟨fun hr => ?_, fun i hi => ?_⟩
   ·exfalso
    have hi := (hmem i0).1 (by simp)
    have hi1 : i0 < ops.size := by omega
    have : i0 ∈ Region.ready .any ops listed := by
     refine mem_ready.2 ⟨?_, ?_⟩
     ·have hlt : i0 < listed.size := by omega
      simpa [hlt] using hi.2
     ·refine ⟨ops[i0]'hi1, by simp [hi1], fun e he hb => ?_⟩
      have hp := (hpairs i0 hi1).1 e.on (by
       have : ops.size = ops.size - 1 + 1 := by omega
       rw [this, SL.pres]
       simp only [Array.getElem?_eq_getElem hi1, List.mem_flatMap, List.mem_filter]
       exact ⟨e, ⟨by simpa using he, hb⟩, by simp⟩)
      have hnl : e.on ∉ (i0 :: l0) := by
       intro hm
       rcases List.mem_cons.1 hm with e1 | hm
       ·omega
       ·have := List.rel_of_pairwise_cons hsort hm; omega
      have := mt (hmem e.on).2 hnl
      simp only [not_and, Bool.not_eq_false] at this
      exact this (by omega)
    rw [hr] at this
    simp at this
   ·obtain ⟨hi2, oi, hoi, hi3⟩ := mem_ready.1 hi
    have hi1 : i < ops.size := (Array.getElem?_eq_some_iff.1 hoi).1
    have hready : ∀ o, ops[i]? = some o → ∀ e ∈ o.after, Region.binds .any e = true → listed.getD e.on false = true := by
     intro o ho e he hb
     rw [hoi] at ho; cases ho
     exact hi3 e he hb
    have hiz : i < z := by
     rcases Nat.lt_or_ge i z with q | q
     ·exact q
     ·exfalso
      have h0 := (hmem i0).1 (by simp)
      have hp : i0 ∈ SL.pres ops ops.size i := by
       rcases (hpairs i hi1).2 i0 (by omega) with h | h
       ·omega
       ·exact h
      have := hd.pres ops.size i hready i0 hp
      rw [h0.2] at this; cases this
    have hil : i ∈ i0 :: l0 := (hmem i).2 ⟨hiz, by
     have hlt : i < listed.size := by omega
     simpa [hlt] using hi2⟩
    generalize hll : i0 :: l0 = l at *
    obtain ⟨l1, l2, rfl⟩ := List.append_of_mem hil
    have hfirst : SOpF P D I ops i (SOpsF P D I ops T (l1 ++ l2)) a C := by
     refine qij hoi (fun cs b => hs i oi cs b hoi) l1 l2 (fun x hx => ?_) a C ⟨G, w, hw⟩ hC h
     have hxl := (hmem x).1 (by simp [hx])
     have hxi : x < i := (List.pairwise_append.1 hsort).2.2 x hx i (by simp)
     have hnp : x ∉ SL.pres ops ops.size i := fun hp => by
      have := hd.pres ops.size i hready x hp
      rw [hxl.2] at this; cases this
     have hc : commF P D ops x i = true := by
      rcases (hpairs i hi1).2 x hxi with hc | hc
      ·exact hc.2
      ·exact absurd hc hnp
     unfold commF at hc
     split at hc
     ·rename_i ox oi' hox hoi'
      rw [hoi] at hoi'; cases hoi'
      simp only [Bool.and_eq_true] at hc
      exact ⟨ox, hox, hc.1, fun cs b => hs x ox cs b hox, hc.2⟩
     ·cases hc
    refine wpOp_mono (fun a w ⟨C, G, hw, hC, hn⟩ => ?_) (qk8 hw hC hfirst)
    have hp := List.pairwise_append.1 hsort
    refine ih (l1 ++ l2) _ a C G w (by simp [hsz]) ?_ ?_ ?_ ?_ ⟨?_⟩ hw hC hn
    ·exact List.pairwise_append.2 ⟨hp.1, (List.pairwise_cons.1 hp.2.1).2, fun x hx y hy => hp.2.2 x hx y (by simp [hy])⟩
    ·intro j
     have hj := hmem j
     by_cases e : j = i
     ·subst e
      constructor
      ·intro hm
       exfalso
       rcases List.mem_append.1 hm with hm | hm
       ·have := hp.2.2 j hm j (by simp); omega
       ·have := List.rel_of_pairwise_cons hp.2.1 hm; omega
      ·rintro ⟨hlt, hf⟩
       have hlt' : j < listed.size := by omega
       simp [hlt'] at hf
     ·rw [getD_set_ne _ (fun x => e x.symm), ← hj]
      simp [e]
    ·intro j hj
     rw [getD_set_ne _ (by omega)]; exact hrest j hj
    ·simp at hlen ⊢; omega
    ·intro j o ho hj e he hb
     by_cases eq : i = j
     ·subst eq; exact getD_set_true (hready o ho e he hb)
     ·rw [getD_set_ne _ eq] at hj
      exact getD_set_true (hd.down j o ho hj e he hb)
structure qri (P : Program) (m : M) (K : Hp) (H : List HProp) (c : VP) : Prop where ctor ::
 out : ∃ (f : Nat → Value) (ob : Obj), (∀ w : World, m.sem.run P w = .ok (.value (f w.heap.size)) { w with heap := w.heap.push ob }) ∧ ∀ b, c (f b) K (Blk b ob :: H)
def qd5 (P : Program) (d : DrI) (o : Oper) (env : List Value) (K : Hp) (H : List HProp) (c : VP) : Prop := match o.op with
 | .buildSlice t len parts => qum env parts.toList fun ps => qri P (.buildSlice t len ps) K H c
 | .alloc t => qri P (.alloc t) K H c
 | .makeSlice t l x => evK env l fun vl => evK env x fun vx => qri P (.makeSlice t vl vx) K H c
 | op => match clsF P d.toDr op with
  | .w => ∀ G, qbx (H ++ [G]) fun HG => qau P (some d) o env K HG fun v K' H' => ∃ H0, Split H' [G] H0 ∧ d.Keep K' H0 ∧ c v K' H0
  | _ => qau P (some d) o env K H c
def qmi (P : Program) (d : DrI) (ops : List Oper) (o : Oper) (ih : KP) : KP := fun env K H =>
 let run : Prop := qd5 P d o env K H fun v K H => qbx (qlz env o.dst v) fun env => qbx H fun H => ih env K H
 match o.guard with
 | none => run
 | some (j, want) =>
  match qjz ops j with
  | some dd => ql1 env dd fun vb => match vb with
   | .bool b => match want with
    | true => qdu b run (qbx (qlz env o.dst undef) fun env => ih env K H)
    | false => qdu b (qbx (qlz env o.dst undef) fun env => ih env K H) run
   | .tuple _ => qbx (qlz env o.dst undef) fun env => ih env K H
   | _ => False
  | none => False
noncomputable def qik (P : Program) (d : DrI) (ops : List Oper) (Q : KP) (l : List Oper) : KP := List.rec (motive := fun _ => KP) Q (fun o _ ih => qmi P d ops o ih) l
theorem qmj {P : Program} {d : DrI} {ops : List Oper} {Q : KP} {o : Oper} {l : List Oper} : qik P d ops Q (o :: l) = qmi P d ops o (qik P d ops Q l) := rfl
theorem guard_caseF {d : DrI} {ops : List Oper} {Q : KP} {o : Oper} {rest : List Oper} {env : List Value} {K : Hp} {H : List HProp}
  (h : qik P d ops Q (o :: rest) env K H) :
  (Region.wanted o (yielded ops.toArray (act env).tmps) = true ∧ qd5 P d o env K H fun v K H => qik P d ops Q rest (qlz env o.dst v) K H) ∨
  (Region.wanted o (yielded ops.toArray (act env).tmps) = false ∧ qik P d ops Q rest (qlz env o.dst undef) K H) := by
 simp only [qmj, qmi, qa9, qew] at h
 split at h
 ·rename_i hg
  exact .inl ⟨by simp [Region.wanted, hg], h⟩
 ·rename_i j want hg
  split at h
  ·rename_i d hd
   split at h
   ·rename_i b hb
    have hy := qi6 hd hb
    cases want
    ·simp only [] at h
     rcases condP_true h with ⟨e, h'⟩ | ⟨e, h'⟩
     ·exact .inr ⟨by simp [Region.wanted, hg, hy, e], h'⟩
     ·exact .inl ⟨by simp [Region.wanted, hg, hy, e], h'⟩
    ·simp only [] at h
     rcases condP_true h with ⟨e, h'⟩ | ⟨e, h'⟩
     ·exact .inl ⟨by simp [Region.wanted, hg, hy, e], h'⟩
     ·exact .inr ⟨by simp [Region.wanted, hg, hy, e], h'⟩
   ·rename_i vs hb
    have hy := qfr hd hb
    exact .inr ⟨by simp [Region.wanted, hg, hy], h⟩
   ·exact h.elim
  ·exact h.elim
theorem qjh {d : DrI} {o : Oper} {env : List Value} {K : Hp} {H : List HProp} {c : VP} (hq0 : d.toDr.qs = []) (h : qau P (some d) o env K H c) :
    match clsOf P d.toDr o.op with
    | .n => ∃ v, (∀ w, d.I w → (execOp (ev env) o).run P w = .ok (.value v) w) ∧ c v K H
    | .r => ∃ v, (∀ Γ w, Sat Γ K H w → (execOp (ev env) o).run P w = .ok (.value v) w) ∧ c v K H
    | .w => True := by
  obtain ⟨dst, op, type, pos, after, guard⟩ := o
  cases op
  case move x =>
    simp only [qau, qa5] at h
    exact ⟨_, fun w _ => by simp [execOp], h⟩
  case assign x =>
    simp only [qau, qa5] at h
    exact ⟨_, fun w _ => by simp [execOp], h⟩
  case pick b x y =>
    simp only [qau, qa5] at h
    split at h
    · rename_i vb b' hb
      rcases condP_true h with ⟨e, h'⟩ | ⟨e, h'⟩
      · exact ⟨ev env x, fun w _ => by simp [execOp, hb, asBool, e], h'⟩
      · exact ⟨ev env y, fun w _ => by simp [execOp, hb, asBool, e], h'⟩
    · exact h.elim
  case binOp op t x y yt =>
    simp only [qau, qa5] at h
    obtain ⟨v, h1, h2⟩ := qi7 (o := ⟨dst, .binOp op t x y yt, type, pos, after, guard⟩) rfl h
    exact ⟨v, fun w _ => h1 w, h2⟩
  case convert src dd x =>
    simp only [qau, qa5] at h
    split at h
    · rename_i e1 e2; simp only [clsOf, e1, e2]; obtain ⟨v, h1, h2⟩ := h.elim; exact ⟨v, fun w _ => h1 w, h2⟩
    · rename_i e1 e2; simp only [clsOf, e1, e2]; obtain ⟨v, h1, h2⟩ := h.elim; exact ⟨v, fun Γ w s => (h1 Γ w s), h2⟩
    · rename_i e1 e2; simp only [clsOf, e1, e2]; obtain ⟨v, h1, h2⟩ := h.elim; exact ⟨v, fun w _ => h1 w, h2⟩
    · have hw : clsOf P d.toDr (.convert src dd x) = .w := by simp only [clsOf]
      rw [hw]
      trivial
  case extract x i =>
    simp only [qau, qa5] at h
    split at h
    · rename_i vs hv
      obtain ⟨v, hg, h⟩ := qfp h
      have hg : vs[i]? = some v := by simpa using hg
      exact ⟨v, fun w _ => by simp [execOp, hv, Instr.extract, hg], h⟩
    · exact h.elim
  case build t parts =>
    simp only [qau, qfc] at h
    obtain ⟨v, h1, h2⟩ := h.elim
    exact ⟨v, fun w _ => by have := h1 w; simp only [execOp, qnd]; exact this, h2⟩
  case makeFunc =>
    simp only [qau, qdp] at h
    obtain ⟨v, h1, h2⟩ := h.elim
    exact ⟨v, fun w _ => by have := h1 w; simp only [execOp, qnd]; exact this, h2⟩
  case load t a =>
    simp only [qau, qa5] at h
    split at h
    · rename_i hl
      simp only [clsOf, hl, if_true]
      obtain ⟨v, h1, h2⟩ := h.elim
      exact ⟨v, fun Γ w s => (h1 Γ w s), h2⟩
    · rename_i hl
      simp only [clsOf, hl, Bool.false_eq_true, if_false]
      obtain ⟨v, h1, h2⟩ := h.elim
      exact ⟨v, fun w hi => h1 w hi, h2⟩
  case call cc =>
    obtain ⟨callee, args, argTypes⟩ := cc
    cases callee with
    | value f =>
      refine qd2 h fun g vs he hq => ?_
      rcases hq with ⟨rfl, hq, hs⟩ | ⟨hq, hs⟩
      · rw [hq0] at hq; simp at hq
      · have hw : clsOf P d.toDr (.call { callee := .value f, args, argTypes }) = .w := by
          cases f with
          | func g' => have := hq g' rfl; simp only [clsOf, this, Bool.false_eq_true, if_false]
          | _ => rfl
        rw [hw]
        trivial
    | invoke r n => trivial
    | builtin b =>
      simp only [qau, qdp] at h
      have he : execOp (ev env) ⟨dst, .call { callee := .builtin b, args, argTypes }, type, pos, after, guard⟩ = M.sem (.builtin b argTypes type (args.map fun | .const _ => true | _ => false) (args.toList.map (ev env))) := by
        simp only [execOp, resolve, M.sem]
        show Go.builtin b argTypes type _ (args.map (ev env)) = _
        rw [qnd (ev env)]; rfl
      cases b
      case len =>
        simp only [clsOf]
        cases hl : lenN P argTypes
        · simp only [hl] at h
          obtain ⟨v, h1, h2⟩ := h.elim
          exact ⟨v, fun Γ w s => (by rw [he]; exact h1 Γ w s), h2⟩
        · simp only [hl] at h
          obtain ⟨v, h1, h2⟩ := h.elim
          exact ⟨v, fun w _ => by rw [he]; exact h1 w, h2⟩
      all_goals simp only [clsOf]
      all_goals first
        | trivial
        | (obtain ⟨v, h1, h2⟩ := h.elim
           exact ⟨v, fun Γ w s => (by rw [he]; exact h1 Γ w s), h2⟩)
        | (obtain ⟨v, h1, h2⟩ := h.elim
           exact ⟨v, fun w _ => by rw [he]; exact h1 w, h2⟩)
  all_goals first
    | trivial
    | (simp only [qau, qa5, qh1] at h
       obtain ⟨v, h1, h2⟩ := h.elim
       first
       | exact ⟨v, fun w _ => h1 w, h2⟩
       | exact ⟨v, fun Γ w s => (h1 Γ w s), h2⟩)
def qtt (Γ : World) (K : Hp) (H : List HProp) : Fam := fun G w => Sat Γ K (H ++ [G]) w
theorem qk9 {d : DrI} {Γ : World} {K : Hp} {H : List HProp} (hk : d.Keep K H) : Good d.I (qtt Γ K H) where
 inv G w s := hk.inv (s.conv fun h x => SepL.cut x)
 push G w o s := (s.push (o := o)).conv fun h x => by
  have := (qcm (H ++ [G]) [] (Blk w.heap.size o) h).2 (by simpa using x)
  exact (qj9 H G _ h).2 (by simpa using this)
 mono G G' w hg s := s.conv fun h x => qka H hg x
theorem qkb {Γ : World} {K : Hp} {H : List HProp} {b : Nat} {o : Obj} : (qtt Γ K H).blk b o = qtt Γ K (Blk b o :: H) := by
 have key : ∀ G h, SepL (H ++ [qjg G (Blk b o)]) h ↔ SepL ((Blk b o :: H) ++ [G]) h := fun G h => by
  rw [qj9]
  have := qcm (H ++ [G]) [] (Blk b o) h
  simp only [List.append_assoc, List.cons_append, List.nil_append, List.append_nil] at this
  simpa using this
 funext G w
 exact propext ⟨fun s => s.conv fun h x => (key G h).1 x, fun s => s.conv fun h x => (key G h).2 x⟩
theorem qwj {d : DrI} {o : Oper} {env : List Value} {K : Hp} {H : List HProp} {c : VP} (hc : clsF P d.toDr o.op = .w) (h : qd5 P d o env K H c) :
  ∀ G, qau P (some d) o env K (H ++ [G]) fun v K' H' => ∃ H0, Split H' [G] H0 ∧ d.Keep K' H0 ∧ c v K' H0 := by
 obtain ⟨dst, op, type, pos, after, guard⟩ := o
 unfold qd5 at h
 cases op <;> simp only [hc] at h <;> first
  | (cases hc; done)
  | (intro G; have := h G; rw [qa9] at this; exact this)
theorem qsm {d : DrI} {o : Oper} {env : List Value} {K : Hp} {H : List HProp} {c : VP} (hc : clsF P d.toDr o.op = .n ∨ clsF P d.toDr o.op = .r) (h : qd5 P d o env K H c) : qau P (some d) o env K H c := by
 obtain ⟨dst, op, type, pos, after, guard⟩ := o
 unfold qd5 at h
 rcases hc with hc | hc <;> cases op <;> simp only [hc] at h <;> first
  | (cases hc; done)
  | exact h
theorem qu0 {D : Dr} {op : Op} (h : clsF P D op = .n) : clsOf P D op = .n := by
 unfold clsF at h
 split at h
 ·cases h
 ·cases h
 ·cases h
 ·split at h <;> first | assumption | cases h
theorem qu1 {D : Dr} {op : Op} (h : clsF P D op = .r) : clsOf P D op = .r := by
 unfold clsF at h
 split at h
 ·cases h
 ·cases h
 ·cases h
 ·split at h <;> first | assumption | cases h
theorem qu2 {D : Dr} {op : Op} (h : clsF P D op = .w) : clsOf P D op = .w := by
 unfold clsF at h
 split at h
 ·cases h
 ·cases h
 ·cases h
 ·split at h <;> first | assumption | cases h
theorem clsF_a {D : Dr} {op : Op} (h : clsF P D op = .a) : (∃ t n ps, op = .buildSlice t n ps) ∨ (∃ t, op = .alloc t) ∨ ∃ t l x, op = .makeSlice t l x := by
 unfold clsF at h
 split at h
 ·exact .inl ⟨_, _, _, rfl⟩
 ·exact .inr (.inl ⟨_, rfl⟩)
 ·exact .inr (.inr ⟨_, _, _, rfl⟩)
 ·split at h <;> cases h
def QF (Γ : World) (Qk : KP) (a : Act) (C : Fam) : Prop := ∃ env K H, a = act env ∧ C = qtt Γ K H ∧ Qk env K H
theorem qb5 {d : DrI} {ops : List Oper} {Qk : KP} {Γ : World} (hq0 : d.toDr.qs = []) : ∀ (l : List Oper) (k : Nat) (env : List Value) (K : Hp) (H : List HProp), (∀ j, j < l.length → l[j]? = ops[k + j]?) → d.Keep K H →
  qik P d ops Qk l env K H → SOpsF P d.toDr d.I ops.toArray (QF Γ Qk) (List.range' k l.length) (act env) (qtt Γ K H)
 | [], k, env, K, H, _, _, h => ⟨env, K, H, rfl, rfl, h⟩
 | o :: rest, k, env, K, H, hk, hkeep, h => by
  have h0 : ops.toArray[k]? = some o := by simpa using (hk 0 (by simp)).symm
  have hrest : ∀ j, j < rest.length → rest[j]? = ops[k + 1 + j]? := fun j hj => by
   have := hk (j + 1) (by simp; omega)
   simpa [Nat.add_assoc, Nat.add_comm 1 j] using this
  simp only [List.length_cons, List.range'_succ, SOpsF]
  unfold SOpF
  simp only [h0]
  rcases guard_caseF h with ⟨hw, h⟩ | ⟨hw, h⟩
  ·rw [qx2 hw]
   cases hc : clsF P d.toDr o.op with
   | n =>
    have hs := qjh hq0 (qsm (.inl hc) h)
    simp only [qu0 hc] at hs ⊢
    obtain ⟨v, h1, h2⟩ := hs
    exact ⟨v, fun w hi => by rw [qcf]; exact h1 w hi, by rw [qcb]; exact qb5 hq0 rest (k + 1) _ K H hrest hkeep h2⟩
   | r =>
    have hs := qjh hq0 (qsm (.inr hc) h)
    simp only [qu1 hc] at hs ⊢
    obtain ⟨v, h1, h2⟩ := hs
    exact ⟨v, fun G w hw => by rw [qcf]; exact h1 Γ w (hw.conv fun h x => SepL.cut x), by rw [qcb]; exact qb5 hq0 rest (k + 1) _ K H hrest hkeep h2⟩
   | a =>
    simp only []
    rcases clsF_a hc with ⟨t, n, ps, ho⟩ | ⟨t, ho⟩ | ⟨t, l, x, ho⟩
    ·obtain ⟨dst, op, type, pos, after, guard⟩ := o
     simp only at ho; subst ho
     unfold qd5 at h
     simp only [qfc] at h
     obtain ⟨f, ob, h1, h2⟩ := h.out
     refine ⟨f, ob, fun w => ?_, fun b _ => ?_⟩
     ·rw [qcf]
      have := h1 w
      simp only [execOp, qnd]
      exact this
     ·rw [qcb, qkb]
      exact qb5 hq0 rest (k + 1) _ K (Blk b ob :: H) hrest hkeep.more (h2 b)
    ·obtain ⟨dst, op, type, pos, after, guard⟩ := o
     simp only at ho; subst ho
     unfold qd5 at h
     obtain ⟨f, ob, h1, h2⟩ := h.out
     refine ⟨f, ob, fun w => ?_, fun b _ => ?_⟩
     ·rw [qcf]
      have := h1 w
      exact this
     ·rw [qcb, qkb]
      exact qb5 hq0 rest (k + 1) _ K (Blk b ob :: H) hrest hkeep.more (h2 b)
    ·obtain ⟨dst, op, type, pos, after, guard⟩ := o
     simp only at ho; subst ho
     unfold qd5 at h
     simp only [qa5] at h
     obtain ⟨f, ob, h1, h2⟩ := h.out
     refine ⟨f, ob, fun w => ?_, fun b _ => ?_⟩
     ·rw [qcf]
      have := h1 w
      exact this
     ·rw [qcb, qkb]
      exact qb5 hq0 rest (k + 1) _ K (Blk b ob :: H) hrest hkeep.more (h2 b)
   | w =>
    simp only []
    intro G w hw'
    refine Oper.wp_mono ?_ (qw8 (qu2 hc) (qwj hc h G) hw')
    rintro a w' ⟨v, K', H', rfl, s', hk', H0, hsp, hkp, h'⟩
    refine ⟨v, qtt Γ K' H0, by rw [qcb], ?_, qk9 hkp, qb5 hq0 rest (k + 1) _ K' H0 hrest hkp h'⟩
    exact s'.conv fun h x => by
     have y := hsp.sep x
     exact (qcm H0 [] G h).2 (by simpa using y)
  ·rw [qx1 (by rw [hw]; simp)]
   rw [qcb]
   exact qb5 hq0 rest (k + 1) _ K H hrest hkeep h
def qwk (P : Program) (D : Dr) (ops : Array Oper) (z : Nat) : Bool :=
 Region.noSelect ops && P.follows .mixedOrders && decide (z ≤ ops.size) &&
 (List.range ops.size).all fun i =>
  let ps := pres ops ops.size i
  ps.all (· < i) && (List.range i).all fun x => (decide (i < z) && commF P D ops x i) || ps.contains x
theorem qof {z : Nat} (hok : qwk P D ops z = true) : Region.noSelect ops = true ∧ P.follows .mixedOrders = true ∧ z ≤ ops.size ∧ ∀ i, i < ops.size → (∀ x ∈ SL.pres ops ops.size i, x < i) ∧ ∀ x, x < i → (i < z ∧ commF P D ops x i = true) ∨ x ∈ SL.pres ops ops.size i := by
 simp only [qwk, Bool.and_eq_true, List.all_eq_true, List.mem_range, decide_eq_true_eq, Bool.or_eq_true] at hok
 refine ⟨hok.1.1.1, hok.1.1.2, hok.1.2, fun i hi => ⟨(hok.2 i hi).1, fun x hx => ?_⟩⟩
 rcases (hok.2 i hi).2 x hx with h | h
 ·exact .inl h
 ·exact .inr (by simpa using h)
theorem qf5 {ops : Array Oper} {env : List Value} {K : Hp} {H : List HProp} {Q : KP} (d : DrI) (z : Nat) (hq0 : d.toDr.qs = []) (hok : qwk P d.toDr ops z = true) (hk : d.Keep K H)
  (hv : qta ops.toList z fun l1 l2 => qik P d ops.toList (qfq P (some ⟨⟨[], true⟩, fun _ => none, [], []⟩) ops.toList Q l2) l1 env K H) : DStep P ops env K H Q := by
 rw [ql8] at hv
 obtain ⟨hsel, hmix, hzs, hpairs⟩ := qof hok
 refine ⟨fun Γ w s id Q' hQ => ?_⟩
 refine wp_region_any hmix ?_
 have h1 := qb5 (P := P) (Γ := Γ) (ops := ops.toList) hq0 (ops.toList.take z) 0 env K H (fun j hj => by rw [List.length_take] at hj; rw [List.getElem?_take, qx2 (by omega), Nat.zero_add]) hk hv
 have hl : (ops.toList.take z).length = z := by simp; omega
 rw [hl, ← List.range_eq_range'] at h1
 simp only [Array.toArray_toList] at h1
 refine quz hzs hsel hpairs ?_ ops.size (List.range z) (Array.replicate ops.size false) (act env) (qtt Γ K H) (qou []) _ (by simp) List.pairwise_lt_range (fun i => ?_) (fun i hi => ?_) (by simp; omega) ⟨?_⟩ (s.drew.conv fun h x => ?_) (qk9 hk) h1
 ·intro fuel listed a C G w hsz hl hf hd hw ht
  obtain ⟨env', K', H', rfl, rfl, hq⟩ := ht
  have s' : Sat Γ K' H' w := hw.conv fun h x => SepL.cut x
  have h2 := qch (P := P) (Γ := Γ) (ops := ops.toList) (Qk := Q) (ops.toList.drop z) z env' K' H' (fun j hj => by simp) hq
  have hl2 : (ops.toList.drop z).length = ops.size - z := by simp
  rw [hl2] at h2
  simp only [Array.toArray_toList] at h2
  refine qh4 (z := z) hsel (fun i hzi hi => ⟨(hpairs i hi).1, fun x hx => by
    rcases (hpairs i hi).2 x hx with h | h
    ·omega
    ·exact .inr h⟩) (Qn := Qd Γ Q) ?_ fuel (List.range' z (ops.size - z)) listed (act env') (Sat Γ K' H') w hsz List.pairwise_lt_range' (fun i => ?_) (fun i hi => (List.mem_range'_1.1 hi).1) (by simpa using hf) hd s' (fun _ _ => ⟨fun i o h => (by cases h), fun p hp => (by cases hp), fun p hp => (by cases hp)⟩) h2
  ·rintro a C w hw ⟨env', K', H', rfl, rfl, hq⟩
   exact hQ env' K' H' w hq hw
  ·rw [List.mem_range'_1]
   constructor
   ·intro hi; have : i < ops.size := by omega
    exact ⟨this, (hl i this).2 hi.1⟩
   ·intro hi; exact ⟨(hl i hi.1).1 hi.2, by omega⟩
 ·simp only [List.mem_range]
  constructor
  ·intro hi
   have : i < ops.size := by omega
   exact ⟨hi, by simp [this]⟩
  ·exact fun hi => hi.1
 ·rcases Nat.lt_or_ge i ops.size with q | q
  ·simp [q]
  ·simp [Array.getD]
 ·intro i o ho hi
  have hlt : i < ops.size := (Array.getElem?_eq_some_iff.1 ho).1
  simp [hlt] at hi
 ·exact SepL.unglue' x
end
open Go
section
variable {P : Program}
theorem qnj {P : Program} {t : TypeId} {z : Value} {K : Hp} {H : List HProp} {c : VP} (hz : qbk P t = some z)
  (h : ∀ b, qbx z.cells.toList fun vs => c (.pointer (some ⟨b, 0, none⟩)) K (Cells b t vs :: H)) : qri P (.alloc t) K H c := by
 refine ⟨fun n => .pointer (some ⟨n, 0, none⟩), .cells z.cells t, fun w => by simp [M.sem, Instr.alloc, qdv hz, newVar, newRow], fun b => ?_⟩
 have := h b
 rw [qa9] at this
 simpa using this
end
open Go
abbrev SlD (α : Type) := Option Addr × Nat × List α
section
variable {P : Program} {κ α : Type}
abbrev pSl (p : κ × SlD α) : κ × List α := (p.1, p.2.2.2)
structure MS (enc : α → List Value) (sz : Nat) (K : Hp) (me : List (κ × SlD α)) (m : List (κ × List α)) : Prop where
 eq : me.map pSl = m
 rd : ∀ p ∈ me, RdC enc K p.2.1 p.2.2.1 sz p.2.2.2
theorem MS.nil {enc : α → List Value} {sz : Nat} {K : Hp} : MS (κ := κ) enc sz K [] [] := ⟨rfl, fun p h => by cases h⟩
theorem MS.mono {enc : α → List Value} {sz : Nat} {K K' : Hp} {me : List (κ × SlD α)} {m : List (κ × List α)} (h : MS enc sz K me m) (hk : K.Le K') : MS enc sz K' me m := ⟨h.eq, fun p hp => (h.rd p hp).mono hk⟩
theorem MS.len {enc : α → List Value} {sz : Nat} {K : Hp} {me : List (κ × SlD α)} {m : List (κ × List α)} (h : MS enc sz K me m) : me.length = m.length := by rw [← h.eq, List.length_map]
variable [DecidableEq κ]
theorem qrj (me : List (κ × SlD α)) (k : κ) : mget (me.map pSl) k = (mget me k).map (·.2.2) := by
 induction me with
 | nil => rfl
 | cons p me ih =>
  rw [List.map_cons, qcy, qcy, ih]
  by_cases h : p.1 = k
  ·rw [qx2 h, qx2 (show (pSl p).1 = k from h)]; rfl
  ·rw [qx1 h, qx1 (show ¬ (pSl p).1 = k from h)]
theorem MS.get {enc : α → List Value} {sz : Nat} {K : Hp} {me : List (κ × SlD α)} {m : List (κ × List α)} (h : MS enc sz K me m) (k : κ) : mget m k = (mget me k).map (·.2.2) := by rw [← h.eq, qrj]
theorem MS.set {enc : α → List Value} {sz : Nat} {K : Hp} {me : List (κ × SlD α)} {m : List (κ × List α)} (h : MS enc sz K me m) (k : κ) {a : Option Addr} {cap : Nat} {l : List α} (hr : RdC enc K a cap sz l) : MS enc sz K (mset me k (a, cap, l)) (mset m k l) := by
 constructor
 ·unfold mset
  rw [h.get]
  cases mget me k with
  | none => simp [← h.eq, pSl]
  | some x =>
   simp only [Option.map_some, ← h.eq, List.map_map]
   apply List.map_congr_left
   intro p _
   by_cases h : p.1 = k
   ·simp [pSl, h]
   ·simp [pSl, h]
 ·intro p hp
  unfold mset at hp
  cases hg : mget me k with
  | none =>
   rw [hg] at hp
   rcases List.mem_append.1 hp with hp | hp
   ·exact h.rd p hp
   ·simp at hp; subst hp; exact hr
  | some x =>
   rw [hg] at hp
   obtain ⟨q, hq, rfl⟩ := List.mem_map.1 hp
   split
   ·exact hr
   ·exact h.rd q hq
theorem DStep.ownLe {ops : Array Oper} {env : List Value} {K : Hp} {Q : KP} {enc : α → List Value} {a : Option Addr} {e sz cap : Nat} {l : List α} {H H' : List HProp} (hr : Rem (OwnL enc a e sz cap l) H H') (h : l.length ≤ cap → DStep P ops env K H Q) : DStep P ops env K H Q :=
 ⟨fun Γ w s => (h (by simpa using (s.rem hr).ownLen)).out Γ w s⟩
end
end Go.SL
