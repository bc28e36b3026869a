/- The library: facts about walks, over any program. -/
import Derived.Test.YtmpdebfckeahmaaGreatDoorLN
import Derived.Lib.SliceRun
set_option linter.unusedVariables false
set_option linter.unusedSimpArgs false
set_option linter.unusedSectionVars false
set_option linter.unusedVariables false
set_option linter.unusedSimpArgs false
namespace Go.SL
open Go
section
variable {P : Program} {K : Hp} {H H' : List HProp} {a : Option Addr} {e sz cap t : Nat} {c : VP} {css : List (List Value)}
theorem stA {i o k n : Nat} {v : Value} {cl : List Value} (nw : List Value) (hr : Rem (OwnA a e sz cap css) H H') (ht : tySize P t = some n) (hx : css[i]? = some cl) (hk : k = i * sz + o)
  (hv : cellsL v fun vs => n = vs.length ∧ allOne vs = true ∧ o + n ≤ sz ∧ splice o vs cl = nw ∧ nw.length = sz ∧ allOne nw = true) (h : c undef K (OwnA a e sz cap (css.set i nw) :: H')) :
  WStep P (.store t (eptr a k) v) K H c := by
 have := st_own (P := P) (enc := id) (l := css) (e := e) (sz := sz) (cap := cap) (t := t) (c := c) (y := nw) cl (by unfold OwnL; rw [List.map_id]; exact hr) ht hx hk hv (by unfold OwnL; rw [List.map_id]; exact h)
 exact this
theorem LR.set {α : Type} {R : Rp α} {l : List α} {i : Nat} {nw : List Value} {y : α} (h : LR R K css l) (hy : R K nw y) : LR R K (css.set i nw) (l.set i y) := by
 refine ⟨by rw [List.length_set, List.length_set, h.len], fun j c x hc hx => ?_⟩
 by_cases q : i = j
 ·subst q
  have h1 := (List.getElem?_eq_some_iff.1 hc).1
  have h2 := (List.getElem?_eq_some_iff.1 hx).1
  simp only [List.length_set] at h1 h2
  rw [List.getElem?_set_self h1] at hc
  rw [List.getElem?_set_self h2] at hx
  cases hc; cases hx; exact hy
 ·rw [List.getElem?_set_ne q] at hc hx
  exact h.all j c x hc hx
theorem LR.take {α : Type} {R : Rp α} {l : List α} (h : LR R K css l) (n : Nat) : LR R K (css.take n) (l.take n) := by
 refine ⟨by rw [List.length_take, List.length_take, h.len], fun j c x hc hx => ?_⟩
 rw [List.getElem?_take] at hc hx
 split at hc
 ·rename_i q; rw [if_pos q] at hx; exact h.all j c x hc hx
 ·cases hc
theorem ownPart {α : Type} {l : List α} {n : Nat} {lo hi : Option Int} {c : Value → Prop} (hn : n = l.length) (hr : Rem (OwnA a e sz cap css) H H') (hlc : css.length = l.length) (ht : P.underlying t = some (.slice e)) (hsz : tySize P e = some sz)
  (hb : 0 ≤ loI lo ∧ loI lo ≤ hiI l.length hi ∧ hiI l.length hi ≤ l.length) (h : c (.slice (subA a cap (loI lo).toNat sz) (subL l (loI lo) (hiI l.length hi)).length (cap - (loI lo).toNat))) : RStep P (.slice t (.slice a n cap) (vI lo) (vI hi) none) K H c := by
 refine RStep.conv' fun Γ w s => ?_
 have hle := (s.rem hr).ownLen
 exact RStep.ofN (sl_sl (l := l) (lo := lo) (hi := hi) ht hsz hn (by rw [hn, ← hlc]; exact hle) hb h)
end
end Go.SL
set_option linter.unusedVariables false
set_option linter.unusedSimpArgs false
namespace Go.SL
open Go
end Go.SL
set_option linter.unusedVariables false
set_option linter.unusedSimpArgs false
namespace Go.SL
open Go
end Go.SL
set_option linter.unusedVariables false
set_option linter.unusedSimpArgs false
namespace Go.SL
open Go
section
variable {P : Program} {K : Hp} {H H' : List HProp} {c : VP} {t e sz : Nat} {α : Type} {enc : α → List Value}
def MadeB (b e : Nat) (z : Value) (k : Nat) : HProp := Blk b (.cells (madeCells z.cells k) e)
theorem Sat.made {Γ : World} {w : World} {b k : Nat} {z : Value} (x0 : α) (T : ElT P t e sz) (hz : tyZeroV P e = some z) (hx : z.cells.toList = enc x0) (ho : allOne (enc x0) = true) (hk : k ≤ lim) (s : Sat Γ K (MadeB b e z (k * sz) :: H) w) :
  Sat Γ K (OwnL enc (some ⟨b, 0, none⟩) e sz k (List.replicate k x0) :: H) w := by
 obtain ⟨ht, hsz, ⟨z', hz', hzs⟩, hpos, ⟨bytes, hby, hb2⟩⟩ := T
 obtain rfl : z = z' := by rw [hz] at hz'; exact Option.some.inj hz'
 have hcs : (enc x0).length = sz := by rw [← hx]; simpa using hzs
 have hml : maxLen = 9223372036854775807 := by decide
 have hmc : (madeCells z.cells (k * sz)).toList = ((List.replicate k x0).map enc).flatten := by
  have := made_flat z.cells.toList (by rw [hx, hcs]; exact hpos) k
  rw [hx, hcs] at this
  rw [List.map_replicate, ← this]
  congr 2
  rw [← hx]
 refine Sat.mkOwn (cur := madeCells z.cells (k * sz)) s (fun l hl => ?_) (fun l hl => ?_) ?_ (by simp) (by simp only [lim] at hk; rw [hml]; omega) (fun j v hj => ?_)
 ·obtain ⟨x, hx', rfl⟩ := List.mem_map.1 hl
  rw [List.eq_of_mem_replicate hx']; exact hcs
 ·obtain ⟨x, hx', rfl⟩ := List.mem_map.1 hl
  rw [List.eq_of_mem_replicate hx']; exact allOne_spec ho
 ·simp [madeCells]
 ·rw [← Array.getElem?_toList, hmc]; exact hj
variable {ops : Array Oper} {env : List Value} {Q : KP} {m : M} {root : Code} {n : Nat} {p : List Nat} {QC : Exit → KP}
end
end Go.SL
set_option linter.unusedVariables false
set_option linter.unusedSimpArgs false
namespace Go.SL
open Go
def u64and (x y : Int) : Int := ((BitVec.ofInt 64 x &&& BitVec.ofInt 64 y).toNat : Int)
def u64or (x y : Int) : Int := ((BitVec.ofInt 64 x ||| BitVec.ofInt 64 y).toNat : Int)
def u64shl (x y : Int) : Int := IntKind.u64.wrap (x * 2 ^ (min y.toNat 64))
def u64shr (x y : Int) : Int := x.fdiv (2 ^ (min y.toNat 64))
theorem u64_wrap {r : BitVec 64} : IntKind.u64.wrap (r.toNat : Int) = (r.toNat : Int) := by
 have := r.isLt
 exact wrap_in (by simp only [InK]; omega)
section
variable {P : Program} {t : TypeId} {xo yo : Operand} {c : Value → Prop} {x y : Int}
theorem u64_and (h : c (.int .u64 (u64and x y))) : NStep P (.bin .and t xo yo (.int .u64 x) (.int .u64 y)) c :=
 NStep.mk _ (fun w => by
  have : IntKind.u64.wrap (((BitVec.ofInt 64 x &&& BitVec.ofInt 64 y).toNat : Nat) : Int) = u64and x y := u64_wrap
  simp only [M.sem, eqGuard, binOp, Op.intBits]
  show Result.ok (Next.value (.int .u64 (IntKind.u64.wrap (((BitVec.ofInt 64 x &&& BitVec.ofInt 64 y).toNat : Nat) : Int)))) w = _
  rw [this]) h
theorem u64_or (h : c (.int .u64 (u64or x y))) : NStep P (.bin .or t xo yo (.int .u64 x) (.int .u64 y)) c :=
 NStep.mk _ (fun w => by
  have : IntKind.u64.wrap (((BitVec.ofInt 64 x ||| BitVec.ofInt 64 y).toNat : Nat) : Int) = u64or x y := u64_wrap
  simp only [M.sem, eqGuard, binOp, Op.intBits]
  show Result.ok (Next.value (.int .u64 (IntKind.u64.wrap (((BitVec.ofInt 64 x ||| BitVec.ofInt 64 y).toNat : Nat) : Int)))) w = _
  rw [this]) h
theorem u64_shl (hy : 0 ≤ y) (h : c (.int .u64 (u64shl x y))) : NStep P (.bin .shl t xo yo (.int .u64 x) (.int .i64 y)) c :=
 NStep.mk _ (fun w => by
  simp only [M.sem, eqGuard, binOp, Op.shift, if_neg (Int.not_lt.2 hy)]
  rfl) h
theorem u64_shr (hy : 0 ≤ y) (h : c (.int .u64 (u64shr x y))) : NStep P (.bin .shr t xo yo (.int .u64 x) (.int .i64 y)) c :=
 NStep.mk _ (fun w => by
  simp only [M.sem, eqGuard, binOp, Op.shift, if_neg (Int.not_lt.2 hy)]
  rfl) h
end
section
variable {P : Program} {K : Hp} {H H' : List HProp} {t e sz b off : Nat}
theorem arr_addrV {k : Nat} {n : Int} {c : Value → Prop} (ht : P.underlying t = some (.array k e)) (hs : tySize P e = some sz) (h0 : 0 ≤ n) (h1 : n < (k : Int))
  (h : c (.pointer (some ⟨b, off + n.toNat * sz, none⟩))) : NStep P (.indexAddr t (.pointer (some ⟨b, off, none⟩)) (.int .i64 n)) c := by
 obtain ⟨i, rfl⟩ : ∃ i : Nat, n = (i : Int) := ⟨n.toNat, by omega⟩
 exact arr_addr (i := i) rfl ht hs (by simp only [Nat.blt_eq]; omega) (by rw [forceN_eq]; simpa using h)
theorem arr_get {k : IntKind} {L : List Int} {pre post cs : List Value} {n : Int} (hc : cs = pre ++ (L.map (.int k) ++ post)) (h0 : 0 ≤ n) (h1 : n < (L.length : Int)) : cs[pre.length + n.toNat]? = some (.int k (L.getD n.toNat 0)) := by
 subst hc
 rw [List.getElem?_append_right (by omega), Nat.add_sub_cancel_left, List.getElem?_append_left (by rw [List.length_map]; omega), List.getElem?_map, List.getElem?_eq_getElem (by omega)]
 simp [show n.toNat < L.length by omega]
theorem arr_addrE {k m : Nat} {n : Int} {a : Option Addr} {c : Value → Prop} (ht : P.underlying t = some (.array k e)) (hs : tySize P e = some sz) (ha : Has a) (h0 : 0 ≤ n) (h1 : n < (k : Int))
  (h : c (eptr a (m + n.toNat * sz))) : NStep P (.indexAddr t (eptr a m) (.int .i64 n)) c := by
 obtain ⟨b, off, rfl⟩ := ha
 rw [eptr_some]
 refine arr_addrV ht hs h0 h1 ?_
 rw [eptr_some] at h
 rw [Nat.add_assoc]; exact h
theorem splice_one {v : Value} : ∀ (o : Nat) (l : List Value), o < l.length → splice o [v] l = l.set o v
 | _, [], h => by simp at h
 | 0, x :: l, _ => by cases l <;> simp [splice]
 | o + 1, x :: l, h => by
  simp only [List.length_cons] at h
  rw [splice, splice_one o l (by omega)]; rfl
theorem arr_splice {k : IntKind} {L : List Int} {pre post : List Value} {n z : Int} (h0 : 0 ≤ n) (h1 : n < (L.length : Int)) : splice (pre.length + n.toNat) [.int k z] (pre ++ (L.map (.int k) ++ post)) = pre ++ ((L.set n.toNat z).map (.int k) ++ post) := by
 rw [splice_one _ _ (by simp only [List.length_append, List.length_map]; omega), List.set_append_right _ _ (by omega), Nat.add_sub_cancel_left, List.set_append_left _ _ (by rw [List.length_map]; omega), List.map_set]
theorem st_arr {k : IntKind} {L M : List Int} {pre post cs cs' : List Value} {n z : Int} {T o : Nat} {c : VP} (hr : Rem (Cells b T cs) H H') (ht : tySize P t = some 1) (ho : o = pre.length + n.toNat) (hc : cs = pre ++ (L.map (.int k) ++ post)) (h0 : 0 ≤ n) (h1 : n < (L.length : Int))
  (hM : L.set n.toNat z = M) (hc' : cs' = pre ++ (M.map (.int k) ++ post)) (h : c undef K (Cells b T cs' :: H')) : WStep P (.store t (.pointer (some ⟨b, o, none⟩)) (.int k z)) K H c := by
 subst ho hc hc' hM
 refine store_rule hr ht ?_
 rw [cellsL_eq, force_eq]
 show 1 = 1 ∧ _ ∧ _ ∧ c undef K (Cells b T (splice (pre.length + n.toNat) [.int k z] (pre ++ (L.map (.int k) ++ post))) :: H')
 rw [arr_splice h0 h1]
 exact ⟨rfl, rfl, by simp only [List.length_append, List.length_map]; omega, h⟩
theorem ld_arr {k : IntKind} {L : List Int} {pre post cs : List Value} {n : Int} {T o : Nat} {c : Value → Prop} (hr : Rem (Cells b T cs) H H') (ht : tyShape P t = some none) (ho : o = pre.length + n.toNat) (hc : cs = pre ++ (L.map (.int k) ++ post)) (h0 : 0 ≤ n) (h1 : n < (L.length : Int))
  (h : c (.int k (L.getD n.toNat 0))) : RStepS P (.load t (.pointer (some ⟨b, o, none⟩))) K H c := by
 subst ho
 exact load1_s hr ht (arr_get hc h0 h1) h
end
theorem map8 {β : Type} {M : List Int} {f : Int → β} (h : M.length = 8) : M.map f = [f (M.getD 0 0), f (M.getD 1 0), f (M.getD 2 0), f (M.getD 3 0), f (M.getD 4 0), f (M.getD 5 0), f (M.getD 6 0), f (M.getD 7 0)] := by
 match M, h with
 | [_, _, _, _, _, _, _, _], _ => rfl
theorem nil_checkE {P : Program} {a : Option Addr} {k : Nat} {c : Value → Prop} (ha : Has a) (h : c (eptr a k)) : NStep P (.nilCheck (eptr a k)) c := by
 obtain ⟨b, off, rfl⟩ := ha
 rw [eptr_some] at h ⊢
 exact nil_check h
end Go.SL
