/- The library: facts about walks, over any program. -/
import Derived.Test.YtmpdebfckeahmaaGreatDoorLN
import Derived.Lib.SliceRun
set_option linter.unusedVariables false
set_option linter.unusedSimpArgs false
set_option linter.unusedSectionVars false
namespace Go.SL
open Go
section
variable {P : Program} {K : Hp} {H H' : List HProp} {a : Option Addr} {e sz cap t : Nat} {c : VP} {css : List (List Value)}
theorem stA {i o k n : Nat} {v : Value} {cl : List Value} (nw : List Value) (hr : Rem (OwnA a e sz cap css) H H') (ht : qbb P t = some n) (hx : css[i]? = some cl) (hk : k = i * sz + o)
  (hv : cellsL v fun vs => n = vs.length ∧ allOne vs = true ∧ o + n ≤ sz ∧ splice o vs cl = nw ∧ nw.length = sz ∧ allOne nw = true) (h : c undef K (OwnA a e sz cap (css.set i nw) :: H')) :
  WStep P (.store t (eptr a k) v) K H c := by
 have := qho (P := P) (enc := id) (l := css) (e := e) (sz := sz) (cap := cap) (t := t) (c := c) (y := nw) cl (by unfold OwnL; rw [List.map_id]; exact hr) ht hx hk hv (by unfold OwnL; rw [List.map_id]; exact h)
 exact this
theorem LR.set {α : Type} {R : Rp α} {l : List α} {i : Nat} {nw : List Value} {y : α} (h : LR R K css l) (hy : R K nw y) : LR R K (css.set i nw) (l.set i y) := by
 refine ⟨by rw [List.length_set, List.length_set, h.len], fun j c x hc hx => ?_⟩
 by_cases q : i = j
 ·subst q
  have h1 := (List.getElem?_eq_some_iff.1 hc).1
  have h2 := (List.getElem?_eq_some_iff.1 hx).1
  simp only [List.length_set] at h1 h2
  rw [List.getElem?_set_self h1] at hc
  rw [List.getElem?_set_self h2] at hx
  cases hc; cases hx; exact hy
 ·rw [List.getElem?_set_ne q] at hc hx
  exact h.all j c x hc hx
theorem qur {α : Type} {l : List α} {n : Nat} {lo hi : Option Int} {c : Value → Prop} (hn : n = l.length) (hr : Rem (OwnA a e sz cap css) H H') (hlc : css.length = l.length) (ht : P.underlying t = some (.slice e)) (hsz : qbb P e = some sz)
  (hb : 0 ≤ loI lo ∧ loI lo ≤ hiI l.length hi ∧ hiI l.length hi ≤ l.length) (h : c (.slice (subA a cap (loI lo).toNat sz) (subL l (loI lo) (hiI l.length hi)).length (cap - (loI lo).toNat))) : RStep P (.slice t (.slice a n cap) (vI lo) (vI hi) none) K H c := by
 refine RStep.conv' fun Γ w s => ?_
 have hle := (s.rem hr).ownLen
 exact RStep.ofN (quh (l := l) (lo := lo) (hi := hi) ht hsz hn (by rw [hn, ← hlc]; exact hle) hb h)
end
open Go
def hdR {α : Type} : Rp (List α) := fun _ cs l => ∃ a cap, cs = [.slice a l.length cap]
theorem qwc {α : Type} : RpOK 1 (hdR (α := α)) :=
 ⟨fun _ h => h, fun ⟨_, _, h⟩ => by simp [h], fun ⟨_, _, h⟩ v hv => by rw [h] at hv; simp at hv; subst hv; rfl⟩
section
variable {α : Type} {enc : α → List Value} {e e' sz cap : Nat} {a : Option Addr} {css : List (List Value)} {ls : List (List α)}
def elP (enc : α → List Value) (e sz : Nat) (cs : List Value) (l : List α) : HProp := match cs with
 | [.slice a _ cap] => OwnL enc a e sz cap l
 | _ => fun _ => False
def els (enc : α → List Value) (e sz : Nat) : List (List Value) → List (List α) → List HProp
 | c :: css, l :: ls => elP enc e sz c l :: els enc e sz css ls
 | _, _ => []
variable {K : Hp} {H H1 H2 H3 : List HProp} {Γ : World} {w : World}
end
section
variable {P : Program} {α : Type} {enc : α → List Value} {e e' sz cap : Nat} {a : Option Addr} {css : List (List Value)} {ls : List (List α)} {K : Hp} {H H1 H2 H3 : List HProp}
variable {ops : Array Oper} {env : List Value} {Q : KP} {m : M} {c : VP} {root : Code} {n : Nat} {p : List Nat} {QC : Exit → KP}
end
open Go
open Go
section
variable {P : Program} {K : Hp} {H H' : List HProp} {c : VP} {t e sz : Nat} {α : Type} {enc : α → List Value}
variable {ops : Array Oper} {env : List Value} {Q : KP} {m : M} {root : Code} {n : Nat} {p : List Nat} {QC : Exit → KP}
end
open Go
def u64and (x y : Int) : Int := ((BitVec.ofInt 64 x &&& BitVec.ofInt 64 y).toNat : Int)
def u64or (x y : Int) : Int := ((BitVec.ofInt 64 x ||| BitVec.ofInt 64 y).toNat : Int)
def qs4 (x y : Int) : Int := IntKind.u64.wrap (x * 2 ^ (min y.toNat 64))
def qs5 (x y : Int) : Int := x.fdiv (2 ^ (min y.toNat 64))
theorem ql2 {r : BitVec 64} : IntKind.u64.wrap (r.toNat : Int) = (r.toNat : Int) := by
 have := r.isLt
 exact qc4 (by simp only [InK]; omega)
section
variable {P : Program} {t : TypeId} {xo yo : Operand} {c : Value → Prop} {x y : Int}
theorem qku (h : c (.int .u64 (u64and x y))) : NStep P (.bin .and t xo yo (.int .u64 x) (.int .u64 y)) c :=
 NStep.mk _ (fun w => by
  have : IntKind.u64.wrap (((BitVec.ofInt 64 x &&& BitVec.ofInt 64 y).toNat : Nat) : Int) = u64and x y := ql2
  simp only [M.sem, eqGuard, binOp, Op.intBits]
  show Result.ok (Next.value (.int .u64 (IntKind.u64.wrap (((BitVec.ofInt 64 x &&& BitVec.ofInt 64 y).toNat : Nat) : Int)))) w = _
  rw [this]) h
theorem qs6 (h : c (.int .u64 (u64or x y))) : NStep P (.bin .or t xo yo (.int .u64 x) (.int .u64 y)) c :=
 NStep.mk _ (fun w => by
  have : IntKind.u64.wrap (((BitVec.ofInt 64 x ||| BitVec.ofInt 64 y).toNat : Nat) : Int) = u64or x y := ql2
  simp only [M.sem, eqGuard, binOp, Op.intBits]
  show Result.ok (Next.value (.int .u64 (IntKind.u64.wrap (((BitVec.ofInt 64 x ||| BitVec.ofInt 64 y).toNat : Nat) : Int)))) w = _
  rw [this]) h
theorem qoz (hy : 0 ≤ y) (h : c (.int .u64 (qs4 x y))) : NStep P (.bin .shl t xo yo (.int .u64 x) (.int .i64 y)) c :=
 NStep.mk _ (fun w => by
  simp only [M.sem, eqGuard, binOp, Op.shift, qzu (Int.not_lt.2 hy)]
  rfl) h
theorem qus (hy : 0 ≤ y) (h : c (.int .u64 (qs5 x y))) : NStep P (.bin .shr t xo yo (.int .u64 x) (.int .i64 y)) c :=
 NStep.mk _ (fun w => by
  simp only [M.sem, eqGuard, binOp, Op.shift, qzu (Int.not_lt.2 hy)]
  rfl) h
end
section
variable {P : Program} {K : Hp} {H H' : List HProp} {t e sz b off : Nat}
theorem qb0 {k : Nat} {n : Int} {c : Value → Prop} (ht : P.underlying t = some (.array k e)) (hs : qbb P e = some sz) (h0 : 0 ≤ n) (h1 : n < (k : Int))
  (h : c (.pointer (some ⟨b, off + n.toNat * sz, none⟩))) : NStep P (.indexAddr t (.pointer (some ⟨b, off, none⟩)) (.int .i64 n)) c := by
 obtain ⟨i, rfl⟩ : ∃ i : Nat, n = (i : Int) := ⟨n.toNat, by omega⟩
 exact qre (i := i) rfl ht hs (by simp only [Nat.blt_eq]; omega) (by rw [qch]; simpa using h)
theorem qkv {k : IntKind} {L : List Int} {pre post cs : List Value} {n : Int} (hc : cs = pre ++ (L.map (.int k) ++ post)) (h0 : 0 ≤ n) (h1 : n < (L.length : Int)) : cs[pre.length + n.toNat]? = some (.int k (L.getD n.toNat 0)) := by
 subst hc
 rw [List.getElem?_append_right (by omega), Nat.add_sub_cancel_left, List.getElem?_append_left (by rw [List.length_map]; omega), List.getElem?_map, List.getElem?_eq_getElem (by omega)]
 simp [show n.toNat < L.length by omega]
theorem qjf {k m : Nat} {n : Int} {a : Option Addr} {c : Value → Prop} (ht : P.underlying t = some (.array k e)) (hs : qbb P e = some sz) (ha : Has a) (h0 : 0 ≤ n) (h1 : n < (k : Int))
  (h : c (eptr a (m + n.toNat * sz))) : NStep P (.indexAddr t (eptr a m) (.int .i64 n)) c := by
 obtain ⟨b, off, rfl⟩ := ha
 rw [qbm]
 refine qb0 ht hs h0 h1 ?_
 rw [qbm] at h
 rw [Nat.add_assoc]; exact h
theorem qhv {v : Value} : ∀ (o : Nat) (l : List Value), o < l.length → splice o [v] l = l.set o v
 | _, [], h => by simp at h
 | 0, x :: l, _ => by cases l <;> simp [splice]
 | o + 1, x :: l, h => by
  simp only [List.length_cons] at h
  rw [splice, qhv o l (by omega)]; rfl
theorem qhw {k : IntKind} {L : List Int} {pre post : List Value} {n z : Int} (h0 : 0 ≤ n) (h1 : n < (L.length : Int)) : splice (pre.length + n.toNat) [.int k z] (pre ++ (L.map (.int k) ++ post)) = pre ++ ((L.set n.toNat z).map (.int k) ++ post) := by
 rw [qhv _ _ (by simp only [List.length_append, List.length_map]; omega), List.set_append_right _ _ (by omega), Nat.add_sub_cancel_left, List.set_append_left _ _ (by rw [List.length_map]; omega), List.map_set]
theorem qo0 {k : IntKind} {L M : List Int} {pre post cs cs' : List Value} {n z : Int} {T o : Nat} {c : VP} (hr : Rem (Cells b T cs) H H') (ht : qbb P t = some 1) (ho : o = pre.length + n.toNat) (hc : cs = pre ++ (L.map (.int k) ++ post)) (h0 : 0 ≤ n) (h1 : n < (L.length : Int))
  (hM : L.set n.toNat z = M) (hc' : cs' = pre ++ (M.map (.int k) ++ post)) (h : c undef K (Cells b T cs' :: H')) : WStep P (.store t (.pointer (some ⟨b, o, none⟩)) (.int k z)) K H c := by
 subst ho hc hc' hM
 refine qaa hr ht ?_
 rw [qbl, qa5]
 show 1 = 1 ∧ _ ∧ _ ∧ c undef K (Cells b T (splice (pre.length + n.toNat) [.int k z] (pre ++ (L.map (.int k) ++ post))) :: H')
 rw [qhw h0 h1]
 exact ⟨rfl, rfl, by simp only [List.length_append, List.length_map]; omega, h⟩
theorem qs7 {k : IntKind} {L : List Int} {pre post cs : List Value} {n : Int} {T o : Nat} {c : Value → Prop} (hr : Rem (Cells b T cs) H H') (ht : tyShape P t = some none) (ho : o = pre.length + n.toNat) (hc : cs = pre ++ (L.map (.int k) ++ post)) (h0 : 0 ≤ n) (h1 : n < (L.length : Int))
  (h : c (.int k (L.getD n.toNat 0))) : RStepS P (.load t (.pointer (some ⟨b, o, none⟩))) K H c := by
 subst ho
 exact qod hr ht (qkv hc h0 h1) h
end
theorem qxx {β : Type} {M : List Int} {f : Int → β} (h : M.length = 8) : M.map f = [f (M.getD 0 0), f (M.getD 1 0), f (M.getD 2 0), f (M.getD 3 0), f (M.getD 4 0), f (M.getD 5 0), f (M.getD 6 0), f (M.getD 7 0)] := by
 match M, h with
 | [_, _, _, _, _, _, _, _], _ => rfl
theorem qdn {P : Program} {a : Option Addr} {k : Nat} {c : Value → Prop} (ha : Has a) (h : c (eptr a k)) : NStep P (.nilCheck (eptr a k)) c := by
 obtain ⟨b, off, rfl⟩ := ha
 rw [qbm] at h ⊢
 exact qao h
end Go.SL
